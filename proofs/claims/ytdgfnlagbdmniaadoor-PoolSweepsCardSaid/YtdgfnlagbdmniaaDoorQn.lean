/- PoolSweeps: the walk. -/
import Derived.Test.YtdgfnlagbdmniaaDoorQm
import Derived.Deep.AppendLies
import Derived.Deep.Cut
import Derived.Deep.CutRange
namespace Go.Proofs.YtdgfnlagbdmniaaDoor.Pl
open Go.RowKit

set_option maxRecDepth 100000 in
set_option maxHeartbeats 1000000 in
theorem sweeps_long (v : Value) (p : Option Addr) (n cap : Nat) (hlong : 200 < n) (w : World) (hT : Tab w) :
    Calls Tryd.prog 7 #[.slice p n cap, v] w fun e w' => e = .returned (.bool true) ∧ Below w.heap.size w w' := by
  have HT := Lib.hid hT; clear hT
  have e1 : decide ((200 : Int) < n) = true := decide_eq_true (by omega)
  go_enter Tryd.func7, Tryd.ntmps7
  go_wp2_with fail
  refine (awake_at _ HT.out).mono ?_
  rintro e w1 ⟨rfl, hb1⟩
  have HB1 := Lib.hid hb1; clear hb1
  have HT1 := Lib.hid (HT.out.below HB1.out HT.out.lt)
  go_wp2_with fail
  refine (awake_at _ HT1.out).mono ?_
  rintro e w2 ⟨rfl, hb2⟩
  have HB2 := Lib.hid (HB1.out.trans (hb2.mono HB1.out.size)); clear hb2
  go_wp2_with fail
  go_ret
  exact ⟨rfl, HB2.out⟩

/-- A list that the law has made itself, and where it lies. -/
structure OwnL (w : World) (base : Nat) (v : Value) (l : List PObj) : Prop where
  row : w.ownsRow base 40 4 v l.length (objCells l)

/-- The world behind k rounds of the first loop. -/
structure L1 (l : List PObj) (a b base : Nat) (w3 : World) (k : Nat) (s7 s8 : Value) (wr : World) : Prop where
  pool : ∃ cs, At wr a b cs ∧ Good cs ∧ cs.length = 20 ∧ Marks l k (objs cs) ∧ wr.ownsRow base 40 4 s7 (kept ((objs cs).take k)).length (objCells (kept ((objs cs).take k))) ∧ wr.ownsRow base 40 4 s8 (outs ((objs cs).take k)).length (objCells (outs ((objs cs).take k)))
  apart : s7.ownBlock = none ∨ s7.ownBlock ≠ s8.ownBlock
  fr : w3.grownBy wr (some b)

theorem fr_own {w3 W W' : World} {b : Nat} {row : Option Nat} (h : w3.grownBy W (some b)) (hg : W.grownBy W' row) (hr : ∀ g, row = some g → w3.heap.size ≤ g) : w3.grownBy W' (some b) :=
  ⟨hg.os.trans h.os, hg.tape.trans h.tape, hg.output.trans h.output, Nat.le_trans h.size hg.size, fun r h1 h2 => (hg.block r (Nat.lt_of_lt_of_le h1 h.size) (fun e => by have := hr r e.symm; omega)).trans (h.block r h1 h2)⟩

theorem mark_known {cs : List Chunk} (hG : Good cs) {ad : Int} {o : PObj} (ho : o ∈ objs cs) (h1 : (o.at_ : Int) ≤ ad) (h2 : ad < o.at_ + o.size) {a b : Nat} {w w' : World} {e : Ending} (hP : MarkPost cs ad a b w e w') :
    ∃ cs2 A B, e = .returned (.tuple #[.bool (!o.marked), .int .i64 0]) ∧ At w' a b cs2 ∧ Good cs2 ∧ cs2.length = cs.length ∧ objs cs = A ++ o :: B ∧ objs cs2 = A ++ { o with marked := true } :: B ∧ w.grownBy w' (some b) := by
  rcases hP with ⟨i, s, c, hpl, k1, k2, rfl, hA, hg⟩ | ⟨hno, _⟩
  · have hm2 := (pl_ok hG hpl).2.2.2
    have f1 := (obj_in hG ho).1.fit
    have f2 := (obj_in hG hm2).1.fit
    have e := obj_uniq hG ho hm2 h1 (by omega) k1 (by omega)
    obtain ⟨g, l, A, B, e1, e2⟩ := mark_put hG hpl true
    rw [← e] at e1 e2 ⊢
    exact ⟨_, A, B, rfl, hA, g, l, e1, e2, hg⟩
  · exact absurd ⟨h1, h2⟩ (hno o ho)

/-- An object that has been marked twice goes into the first list. -/
theorem l1_kept {l : List PObj} {a b : Nat} {w3 : World} {k : Nat} {s7 s8 s7' : Value} {wr W5 W6 : World} {cs cs' : List Chunk} {o : PObj} (ha : a < w3.heap.size) (hb : b < w3.heap.size) (hA : At W5 a b cs') (hG : Good cs') (hL : cs'.length = 20)
    (hM : Marks l (k + 1) (objs cs')) (htk : (objs cs').take k = (objs cs).take k) (hk : (objs cs')[k]? = some { o with marked := true })
    (h7 : W5.ownsRow w3.heap.size 40 4 s7 (kept ((objs cs).take k)).length (objCells (kept ((objs cs).take k)))) (h8 : wr.ownsRow w3.heap.size 40 4 s8 (outs ((objs cs).take k)).length (objCells (outs ((objs cs).take k))))
    (hap : s7.ownBlock = none ∨ s7.ownBlock ≠ s8.ownBlock) (hwr : wr.grownBy W5 (some b)) (hf : w3.grownBy wr (some b)) (hm : o.marked = false)
    (hown : W6.ownsRow w3.heap.size 40 4 s7' ((kept ((objs cs).take k)).length + 1) (objCells (kept ((objs cs).take k)) ++ o.cells)) (hgr : W5.grownBy W6 s7.ownBlock) {g : Nat} (hs : s7'.ownBlock = some g) (hat : s7.ownBlock = some g ∨ W5.heap.size ≤ g) :
    L1 l a b w3.heap.size w3 (k + 1) s7' s8 W6 := by
  have hlow : ∀ g, s7.ownBlock = some g → w3.heap.size ≤ g := fun g hg => (h7.lt g hg).1
  have hsz := Nat.le_trans hf.size hwr.size
  have bl : ∀ r, r < w3.heap.size → W6.heap[r]? = W5.heap[r]? := fun r hr => hgr.block r (by omega) (fun e => by have := hlow r e.symm; omega)
  have hun : unmark { o with marked := true } = o := by cases o; simp only at hm; subst hm; rfl
  have h8' := h8.kept hwr (own_ne h8 hb)
  refine ⟨⟨cs', hA.same (bl a ha) (bl b hb), hG, hL, hM, ?_, ?_⟩, ?_, fr_own (fr_trans hf hwr) hgr hlow⟩
  · rw [kept_snoc hk rfl, hun, htk, objCells_snoc]
    simpa using hown
  · have e : outs ((objs cs').take (k + 1)) = outs ((objs cs).take k) := by rw [List.take_add_one, hk, htk]; simp [outs]
    rw [e]
    refine h8'.kept hgr ?_
    rcases hap with h | h
    · rw [h]; cases s8.ownBlock <;> simp
    · exact .inr (Ne.symm h)
  · rw [hs]
    right
    rcases hat with h | h
    · rcases hap with h' | h'
      · rw [h] at h'; cases h'
      · rw [← h]; exact h'
    · intro e
      have := (h8'.lt g e.symm).2
      omega

theorem places_le {cs : List Chunk} {K : List PObj} (h : objs cs = K) {m : Nat} (hk : K.length ≤ m) : (places cs).length ≤ m := by
  have e : (places cs).length = (objs cs).length := by simp [objs]
  rw [e, h]; exact hk

theorem all_marked {K : List PObj} (hK : ∀ o ∈ K, o.marked = false) : outs (K.map fun o => { o with marked := true }) = [] ∧ kept (K.map fun o => { o with marked := true }) = K := by
  constructor
  · unfold outs; rw [List.filter_eq_nil_iff]; intro o ho; obtain ⟨y, _, rfl⟩ := List.mem_map.1 ho; simp
  · unfold kept
    rw [List.filter_eq_self.2 (by intro o ho; obtain ⟨y, _, rfl⟩ := List.mem_map.1 ho; rfl), List.map_map]
    conv => rhs; rw [← List.map_id K]
    apply List.map_congr_left
    intro o ho
    have := hK o ho
    cases o; simp only at this; subst this; rfl

/-- An object that is not marked goes into the second list. -/
theorem l1_gone {l : List PObj} {a b : Nat} {w3 : World} {k : Nat} {s7 s8 s8' : Value} {wr W5 : World} {cs : List Chunk} {o : PObj} (ha : a < w3.heap.size) (hb : b < w3.heap.size) (hA : At wr a b cs) (hG : Good cs) (hL : cs.length = 20) (hM : Marks l k (objs cs))
    (h7 : wr.ownsRow w3.heap.size 40 4 s7 (kept ((objs cs).take k)).length (objCells (kept ((objs cs).take k)))) (h8 : wr.ownsRow w3.heap.size 40 4 s8 (outs ((objs cs).take k)).length (objCells (outs ((objs cs).take k))))
    (hap : s7.ownBlock = none ∨ s7.ownBlock ≠ s8.ownBlock) (hf : w3.grownBy wr (some b)) (ho : (objs cs)[k]? = some o) (hm : o.marked = false)
    (hown : W5.ownsRow w3.heap.size 40 4 s8' ((outs ((objs cs).take k)).length + 1) (objCells (outs ((objs cs).take k)) ++ o.cells)) (hgr : wr.grownBy W5 s8.ownBlock) {g : Nat} (hs : s8'.ownBlock = some g) (hat : s8.ownBlock = some g ∨ wr.heap.size ≤ g) :
    L1 l a b w3.heap.size w3 (k + 1) s7 s8' W5 := by
  have hlow : ∀ g, s8.ownBlock = some g → w3.heap.size ≤ g := fun g hg => (h8.lt g hg).1
  have bl : ∀ r, r < w3.heap.size → W5.heap[r]? = wr.heap[r]? := fun r hr => hgr.block r (Nat.lt_of_lt_of_le hr hf.size) (fun e => by have := hlow r e.symm; omega)
  refine ⟨⟨cs, hA.same (bl a ha) (bl b hb), hG, hL, hM.skip, ?_, ?_⟩, ?_, fr_own hf hgr hlow⟩
  · rw [kept_same ho hm]; exact h7.kept hgr hap
  · have e : outs ((objs cs).take (k + 1)) = outs ((objs cs).take k) ++ [o] := by rw [List.take_add_one, ho]; simp [outs, hm]
    rw [e, objCells_snoc]
    simpa using hown
  · rw [hs]
    rcases hat with h | h
    · rw [← h]; exact hap
    · cases h7b : s7.ownBlock with
      | none => exact .inl rfl
      | some r =>
        right
        intro e
        cases e
        have := (h7.lt g h7b).2
        omega

set_option maxRecDepth 100000 in
set_option maxHeartbeats 2000000 in
theorem sweeps_walk (v : Value) (xs : List Int) (u : Value) (bs : List Bool) (w : World) (hT : Tab w) (hN : Nums w v xs) (hx : ∀ x ∈ xs, 0 ≤ x ∧ x ≤ 65535) (hl : xs.length ≤ 200) (hBs : Bools w u bs) :
    Calls Tryd.prog 7 #[v, u] w fun e w' => e = .returned (.bool true) ∧ Below w.heap.size w w' := by
  obtain ⟨p, cap, rfl, hp⟩ := hN
  obtain ⟨pb, capb, rfl, hpb⟩ := hBs
  have HPB := Lib.hid hpb; clear hpb
  have HNU : Hid (∀ w' : World, Below w.heap.size w w' → Nums w' (.slice p xs.length cap) xs) := by
    intro w' hb
    refine ⟨p, cap, rfl, ?_⟩
    rcases hp with h | ⟨g, off, h1, h2, h3⟩
    · exact .inl h
    · exact .inr ⟨g, off, h1, Nat.lt_of_lt_of_le h2 hb.size, fun k y hy => (hb.cell (p := ⟨g, off + k, none⟩) h2).trans (h3 k y hy)⟩
  clear hp
  have HT := Lib.hid hT; clear hT
  have HX := Lib.hid hx; clear hx
  have HL := Lib.hid hl
  generalize hn : xs.length = n at *
  have HN := Lib.hid hn; clear hn
  have e1 : decide ((200 : Int) < n) = false := decide_eq_false (by omega)
  have HPL : Hid (∀ w' : World, Tab w' → Below w.heap.size w w' → Calls Tryd.prog 14 #[.int .i64 20, .slice p n cap] w' (PlayedPost 20 w')) := by
    intro w' hT hb
    exact played_at 20 (by decide) (by decide) _ xs w' hT (HNU.out w' hb) HX.out (by rw [HN.out]; exact HL.out)
  obtain ⟨nb, hnb⟩ : ∃ nb, nb = bs.length := ⟨_, rfl⟩
  rw [← hnb]
  have HNB := Lib.hid hnb; clear hnb
  go_enter Tryd.func7, Tryd.ntmps7
  go_wp2_with fail
  refine (awake_at _ HT.out).mono ?_
  rintro e w1 ⟨rfl, hb1⟩
  have HB1 := Lib.hid hb1; clear hb1
  have HT1 := Lib.hid (HT.out.below HB1.out HT.out.lt)
  go_wp2_with fail
  refine (HPL.out _ HT1.out HB1.out).mono ?_
  rintro e w2 ⟨a, b, cs, rfl, ha, hb, hA, hG, hLn, hC, hB⟩
  have HA2 := Lib.hid hA; clear hA
  have HG := Lib.hid hG; clear hG
  have HLN := Lib.hid hLn; clear hLn
  have HCL := Lib.hid hC
  have HB2 : Hid (Below w.heap.size w w2) := HB1.out.trans (hB.mono HB1.out.size)
  have HBL : Hid (w.heap.size ≤ b) := Nat.le_trans HB1.out.size hb
  have HBP : Hid (0 < b) := Nat.lt_of_lt_of_le HT.out.lt HBL.out
  have HSM := Lib.hid (HG.out.small (by rw [HLN.out]; omega))
  have hlen := HSM.out.1
  clear hB hC ha hb HB1 HT1
  go_wp2_with fail
  refine (objects_at HA2.out HG.out.rd (by simpa [objs] using hlen)).mono ?_
  rintro e w3 ⟨v, rfl, hown, hb3⟩
  have HA3 := Lib.hid (HA2.out.below hb3 HA2.out.lt_a HA2.out.lt_b)
  have HB3 : Hid (Below w.heap.size w w3) := HB2.out.trans (hb3.mono HB2.out.size)
  have hbw2 := HA2.out.lt_b
  have hown' := hown
  obtain ⟨q, cap2, rfl, _⟩ := objS_of hown
  have HQ : Hid (objs cs ≠ [] → ∃ g, q = some ⟨g, 0, none⟩ ∧ b < g ∧ g < w3.heap.size ∧ ∀ k o, (objs cs)[k]? = some o → w3.cell? ⟨g, k * 4, none⟩ = some (.int .i64 o.at_) ∧ w3.cell? ⟨g, k * 4 + 1, none⟩ = some (.int .i64 o.size) ∧ w3.cell? ⟨g, k * 4 + 2, none⟩ = some (.int .i64 o.room) ∧ w3.cell? ⟨g, k * 4 + 3, none⟩ = some (.bool o.marked)) := by
    intro hne
    obtain ⟨g, cap', e, h1, h2, h3⟩ := own_obj hown' hne
    simp at e
    exact ⟨g, e.1, by omega, h2, h3⟩
  clear hb3 HB2 HA2 hown hown' hbw2
  obtain ⟨L, hL⟩ : ∃ L, L = (objs cs).length := ⟨_, rfl⟩
  rw [← hL] at hlen ⊢
  have HLL := Lib.hid hL; clear hL
  obtain ⟨i0, hi, hz0, hz1, hz2⟩ := info_parts info40
  have HI := Lib.hid hi; clear hi
  have HZ0 := Lib.hid hz0; clear hz0
  have HZ1 := Lib.hid hz1; clear hz1
  have HZ2 := Lib.hid hz2; clear hz2
  have HE0 : Hid (L1 (objs cs) a b w3.heap.size w3 0 (.slice none 0 0) (.slice none 0 0) w3) := ⟨⟨cs, HA3.out, HG.out, HLN.out, Marks.zero _, World.ownsRow_nil _ _ _ _, World.ownsRow_nil _ _ _ _⟩, .inl rfl, fr_refl _ _⟩
  go_wp2_with fail
  go_loopw [7, 8, 37] (fun s7 s8 s37 wr => ∃ k : Nat, k ≤ L ∧ s37 = .int .i64 k ∧ L1 (objs cs) a b w3.heap.size w3 k s7 s8 wr) (fun _ _ s37 _ => L - (intOf s37).toNat)
  case atStart => exact ⟨0, by omega, rfl, HE0.out⟩
  case round =>
    obtain ⟨k, hk, rfl, hS⟩ := hrel
    have HS := Lib.hid hS; clear hS
    have hb3l := HA3.out.lt_b
    have hws := HS.out.fr.size
    have HBW : Hid (Below w.heap.size w wr) := HB3.out.trans (fr_below HS.out.fr HBL.out HB3.out.size)
    by_cases hlt : k < L
    · obtain ⟨o, ho⟩ : ∃ o, (objs cs)[k]? = some o := ⟨(objs cs)[k]'(by rw [← HLL.out]; exact hlt), by simp⟩
      have hm := HCL.out o (List.mem_of_getElem? ho)
      obtain ⟨g, rfl, hbg, hgl, hcells⟩ := HQ.out (by intro e; rw [e] at ho; cases ho)
      obtain ⟨a0, a1, a2, a3⟩ := hcells k o ho
      have hgb : wr.heap[g]? = w3.heap[g]? := HS.out.fr.block g hgl (by simp; omega)
      have c0 : wr.cell? ⟨g, k * 4, none⟩ = some (.int .i64 o.at_) := by rw [World.cell?_of_block (w := w3) hgb]; exact a0
      have c1 : wr.cell? ⟨g, k * 4 + 1, none⟩ = some (.int .i64 o.size) := by rw [World.cell?_of_block (w := w3) hgb]; exact a1
      have c2 : wr.cell? ⟨g, k * 4 + 2, none⟩ = some (.int .i64 o.room) := by rw [World.cell?_of_block (w := w3) hgb]; exact a2
      have c3 : wr.cell? ⟨g, k * 4 + 3, none⟩ = some (.bool o.marked) := by rw [World.cell?_of_block (w := w3) hgb]; exact a3
      have HO := Lib.hid ho
      have HM := Lib.hid hm
      clear hcells a0 a1 a2 a3 hgb ho hm
      go_upto_region 10 with fail
      obtain ⟨X, hX⟩ : ∃ X, X = wr.heap.size := ⟨_, rfl⟩
      obtain ⟨W4, hW4⟩ : ∃ W4, W4 = wr.alloc (Obj.cells #[Value.int IntKind.i64 o.at_, Value.int IntKind.i64 o.size, Value.int IntKind.i64 o.room, Value.bool o.marked] 40) := ⟨_, rfl⟩
      rw [← hW4, ← hX]
      have HX4 : Hid (W4.heap[X]? = some (.cells #[Value.int IntKind.i64 o.at_, Value.int IntKind.i64 o.size, Value.int IntKind.i64 o.room, Value.bool o.marked] 40 (0, 0))) := by rw [hW4, hX]; exact (MapKept.heap_alloc _ _).1
      have HG4 : Hid (wr.grownBy W4 (some b)) := by rw [hW4]; exact fr_alloc (fr_refl _ _) _
      have HG4' : Hid (∀ row, wr.grownBy W4 row) := by rw [hW4]; exact fun row => fr_alloc (fr_refl _ _) _
      have HB4 : Hid (Below w.heap.size w W4) := by rw [hW4]; exact HBW.out.alloc HBW.out.size _
      rw [← hX] at hws
      have HXW := Lib.hid hX
      clear hW4 hX c0 c1 c2 c3
      go_cut [37, 51] from 37 to 91 (fun s37 s51 wx => s37 = .int .i64 k ∧ (∃ β, s51 = .bool β) ∧ wx = W4)
      case first =>
        by_cases hkb : k < nb
        · have t1 : decide ((k : Int) < (nb : Int)) = true := decide_eq_true (by omega)
          obtain ⟨β, hβ⟩ : ∃ β, bs[k]? = some β := ⟨bs[k]'(by rw [← HNB.out]; exact hkb), by simp⟩
          have hpx : ∃ g off, pb = some ⟨g, off, none⟩ ∧ g < w.heap.size ∧ ∀ k x, bs[k]? = some x → w.cell? ⟨g, off + k, none⟩ = some (.bool x) := by
            rcases HPB.out with h | h
            · rw [h] at hβ; cases hβ
            · exact h
          obtain ⟨g', off, rfl, hg', hc'⟩ := hpx
          have d0 : W4.cell? ⟨g', off + k, none⟩ = some (.bool β) := (HB4.out.cell (p := ⟨g', off + k, none⟩) hg').trans (hc' k β hβ)
          clear hβ hc'
          go_wp2_with fail
          go_meet
          exact ⟨rfl, ⟨_, rfl⟩, rfl⟩
        · have t1 : decide ((k : Int) < (nb : Int)) = false := decide_eq_false (by omega)
          go_wp2_with fail
          go_meet
          exact ⟨rfl, ⟨_, rfl⟩, rfl⟩
      case rest =>
        obtain ⟨rfl, ⟨β, rfl⟩, rfl⟩ := hcut
        obtain ⟨cs', hA, hG', hL', hMk, hr7, hr8⟩ := HS.out.pool
        have hget := hMk.get HO.out
        have HA := Lib.hid hA
        have HG' := Lib.hid hG'
        have HL' := Lib.hid hL'
        have HMK := Lib.hid hMk
        have HR7 := Lib.hid hr7
        have HR8 := Lib.hid hr8
        have HGET := Lib.hid hget
        clear hA hG' hL' hMk hr7 hr8 hget
        cases β with
        | true =>
          have x0 : wc.cell? ⟨X, 0, none⟩ = some (.int .i64 o.at_) := cell_blk HX4.out 0
          have x1 : wc.cell? ⟨X, 1, none⟩ = some (.int .i64 o.size) := cell_blk HX4.out 1
          have HA4 : Hid (At wc a b cs') := HA.out.same (HG4'.out none |>.block a HA.out.lt_a (by simp)) (HG4'.out none |>.block b HA.out.lt_b (by simp))
          have hin := List.mem_of_getElem? HGET.out
          have ok := (obj_in HG'.out hin).1
          have ho1 := ok.pos
          have ho2 := ok.le
          have hat := (obj_in HG'.out hin).2
          rw [HL'.out] at hat
          have HIN := Lib.hid hin
          have hfit := ok.fit
          clear ok hin
          go_wp2_with fail
          refine (Mark_at HA4.out HG'.out ((o.at_ : Int) + o.size / 2)).mono ?_
          rintro e W5 hP
          obtain ⟨cs5, A, B, rfl, hA5, hG5, hL5, e1, e2, hg5⟩ := mark_known HG'.out HIN.out (by omega) (by omega) hP
          rw [HM.out]
          have hAl := split_at (good_nodup HG'.out) HGET.out e1
          obtain ⟨hM5, htk5, hk5⟩ := HMK.out.mark e1 e2 hAl
          have HA5 := Lib.hid hA5
          have HG5 := Lib.hid hG5
          have HL5 := Lib.hid (hL5.trans HL'.out)
          have HM5 := Lib.hid hM5
          have HTK5 := Lib.hid htk5
          have HK5 := Lib.hid hk5
          have HF5 : Hid (wc.grownBy W5 (some b)) := hg5
          have hXb : X < wc.heap.size := (Array.getElem?_eq_some_iff.1 HX4.out).1
          have HX5 : Hid (W5.heap[X]? = some (.cells #[Value.int IntKind.i64 o.at_, Value.int IntKind.i64 o.size, Value.int IntKind.i64 o.room, Value.bool o.marked] 40 (0, 0))) := (hg5.block X hXb (by simp; omega)).trans HX4.out
          clear hP e1 e2 hA5 hG5 hL5 hM5 htk5 hk5 hg5 hAl x0 x1
          have x0 : W5.cell? ⟨X, 0, none⟩ = some (.int .i64 o.at_) := cell_blk HX5.out 0
          go_wp2_with fail
          refine (Mark_at HA5.out HG5.out (o.at_ : Int)).mono ?_
          rintro e W6 hP
          obtain ⟨cs6, A6, B6, rfl, hA6, hG6, hL6, e1, e2, hg6⟩ := mark_known HG5.out (List.mem_of_getElem? HK5.out) (Int.le_refl _) (by show (o.at_ : Int) < (o.at_ : Int) + o.size; omega) hP
          have hAl := split_at (good_nodup HG5.out) HK5.out e1
          have e6 : objs cs6 = objs cs5 := by rw [e1, e2]
          have HA6 := Lib.hid hA6
          have HG6 := Lib.hid hG6
          have HL6 := Lib.hid (hL6.trans HL5.out)
          have HE6 := Lib.hid e6
          have HF6 : Hid (wc.grownBy W6 (some b)) := fr_trans HF5.out hg6
          have HX6 : Hid (W6.heap[X]? = some (.cells #[Value.int IntKind.i64 o.at_, Value.int IntKind.i64 o.size, Value.int IntKind.i64 o.room, Value.bool o.marked] 40 (0, 0))) := (hg6.block X (Array.getElem?_eq_some_iff.1 HX5.out).1 (by simp; omega)).trans HX5.out
          clear hP e1 e2 hA6 hG6 hL6 hg6 hAl e6 x0
          have x0 : W6.cell? ⟨X, 0, none⟩ = some (.int .i64 o.at_) := cell_blk HX6.out 0
          have x1 : W6.cell? ⟨X, 1, none⟩ = some (.int .i64 o.size) := cell_blk HX6.out 1
          have x2 : W6.cell? ⟨X, 2, none⟩ = some (.int .i64 o.room) := cell_blk HX6.out 2
          have x3 : W6.cell? ⟨X, 3, none⟩ = some (.bool o.marked) := cell_blk HX6.out 3
          have hk7 : (kept ((objs cs').take k)).length ≤ 100000 := by
            unfold kept
            rw [List.length_map]
            refine Nat.le_trans (List.length_filter_le _ _) ?_
            rw [List.length_take]; omega
          have HWR6 : Hid (wr.grownBy W6 (some b)) := fr_trans (HG4'.out _) HF6.out
          have hs6 : wr.heap.size ≤ W6.heap.size := HWR6.out.size
          have HR7' : Hid (W6.ownsRow w3.heap.size 40 4 u7 (kept ((objs cs').take k)).length (objCells (kept ((objs cs').take k)))) := HR7.out.kept HWR6.out (own_ne HR7.out hb3l)
          go_wp2_with (at_builtin; refine wpList_append_lies _ rfl _ _ 37 rfl w3.heap.size 40 i0 (.agg #[.int .i64 0, .int .i64 0, .int .i64 0, .bool false]) 4 32 Tryd.underlying37 HI.out HZ0.out HZ1.out HZ2.out rfl (by decide) _ _ _ rfl (HR7'.out.alloc _) ⟨W6.heap.size, 0, none⟩ 1 1 o.cells rfl rfl ?d1 ?d2 (by decide) ?d3 ?d4 ?d5 _ rfl ?_)
          case d1 =>
            intro j u hj
            have hb : (W6.alloc (Obj.cells #[.int .i64 o.at_, .int .i64 o.size, .int .i64 o.room, .bool o.marked] 40)).heap[W6.heap.size]? = some (.cells #[.int .i64 o.at_, .int .i64 o.size, .int .i64 o.room, .bool o.marked] 40 (0, 0)) := (MapKept.heap_alloc W6 _).1
            rw [Addr.add_mid, Nat.zero_add, cell_blk hb, List.getElem?_toArray (xs := [_, _, _, _])]
            exact hj
          case d2 => intro u hu; simp only [PObj.cells, List.mem_cons, List.not_mem_nil, or_false] at hu; rcases hu with rfl | rfl | rfl | rfl <;> rfl
          case d3 => unfold maxLen; omega
          case d4 => omega
          case d5 => have := HXW.out; simp; omega
          intro g1 cap1 w5 hown hgr hat7 hlt5
          have HST : Hid (L1 (objs cs) a b w3.heap.size w3 (k + 1) (.slice (some ⟨g1, 0, none⟩) ((kept ((objs cs').take k)).length + 1) cap1) u8 w5) := by
            refine l1_kept (cs := cs') (cs' := cs6) (o := o) (W5 := W6) HA3.out.lt_a HA3.out.lt_b HA6.out HG6.out HL6.out (by rw [HE6.out]; exact HM5.out) (by rw [HE6.out]; exact HTK5.out) (by rw [HE6.out]; exact HK5.out) HR7'.out HR8.out HS.out.apart HWR6.out HS.out.fr HM.out hown (fr_trans (fr_alloc (fr_refl _ _) _) hgr) rfl ?_
            rcases hat7 with h | h
            · exact .inl h
            · right; rw [h]; simp
          clear hown hgr hat7 hlt5
          go_wp2
          go_roundw
          case rel => exact ⟨k + 1, by omega, by go_num, HST.out⟩
          case measure => simp [intOf]; omega
        | false =>
          have x0 : wc.cell? ⟨X, 0, none⟩ = some (.int .i64 o.at_) := cell_blk HX4.out 0
          have x1 : wc.cell? ⟨X, 1, none⟩ = some (.int .i64 o.size) := cell_blk HX4.out 1
          have x2 : wc.cell? ⟨X, 2, none⟩ = some (.int .i64 o.room) := cell_blk HX4.out 2
          have x3 : wc.cell? ⟨X, 3, none⟩ = some (.bool o.marked) := cell_blk HX4.out 3
          have hk8 : (outs ((objs cs').take k)).length ≤ 100000 := by
            refine Nat.le_trans (List.length_filter_le _ _) ?_
            rw [List.length_take]; omega
          have hs4 : wr.heap.size ≤ wc.heap.size := HG4.out.size
          have HR8' : Hid (wc.ownsRow w3.heap.size 40 4 u8 (outs ((objs cs').take k)).length (objCells (outs ((objs cs').take k)))) := HR8.out.kept HG4.out (own_ne HR8.out hb3l)
          go_wp2_with (at_builtin; refine wpList_append_lies _ rfl _ _ 37 rfl w3.heap.size 40 i0 (.agg #[.int .i64 0, .int .i64 0, .int .i64 0, .bool false]) 4 32 Tryd.underlying37 HI.out HZ0.out HZ1.out HZ2.out rfl (by decide) _ _ _ rfl (HR8'.out.alloc _) ⟨wc.heap.size, 0, none⟩ 1 1 o.cells rfl rfl ?c1 ?c2 (by decide) ?c3 ?c4 ?c5 _ rfl ?_)
          case c1 =>
            intro j u hj
            have hb : (wc.alloc (Obj.cells #[.int .i64 o.at_, .int .i64 o.size, .int .i64 o.room, .bool o.marked] 40)).heap[wc.heap.size]? = some (.cells #[.int .i64 o.at_, .int .i64 o.size, .int .i64 o.room, .bool o.marked] 40 (0, 0)) := (MapKept.heap_alloc wc _).1
            rw [Addr.add_mid, Nat.zero_add, cell_blk hb, List.getElem?_toArray (xs := [_, _, _, _])]
            exact hj
          case c2 => intro u hu; simp only [PObj.cells, List.mem_cons, List.not_mem_nil, or_false] at hu; rcases hu with rfl | rfl | rfl | rfl <;> rfl
          case c3 => unfold maxLen; omega
          case c4 => omega
          case c5 => have := HXW.out; simp; omega
          intro g1 cap1 w5 hown hgr hat hlt5
          have HST : Hid (L1 (objs cs) a b w3.heap.size w3 (k + 1) u7 (.slice (some ⟨g1, 0, none⟩) ((outs ((objs cs').take k)).length + 1) cap1) w5) := by
            refine l1_gone HA3.out.lt_a HA3.out.lt_b HA.out HG'.out HL'.out HMK.out HR7.out HR8.out HS.out.apart HS.out.fr HGET.out HM.out hown ?_ rfl ?_
            · exact fr_trans (fr_alloc (HG4'.out _) _) hgr
            · rcases hat with h | h
              · exact .inl h
              · right; rw [h]; simp; omega
          clear hown hgr hat hlt5
          go_wp2
          go_roundw
          case rel => exact ⟨k + 1, by omega, by go_num, HST.out⟩
          case measure => simp [intOf]; omega
    · obtain rfl : k = L := by omega
      obtain ⟨cs1, hA1, hG1, hL1, hM1, hr7, hr8⟩ := HS.out.pool
      have hl1 : (objs cs1).length = k := by rw [hM1.len, ← HLL.out]
      rw [List.take_of_length_le (by omega)] at hr7 hr8
      have HF1 := Lib.hid HS.out.fr
      have HA1 := Lib.hid hA1
      have HG1 := Lib.hid hG1
      have HL1 := Lib.hid hL1
      have HR7 := Lib.hid hr7
      have HR8 := Lib.hid hr8
      have hlen1 : (objs cs1).length ≤ 100000 := by omega
      obtain ⟨KL, hKL⟩ : ∃ KL, KL = kept (objs cs1) := ⟨_, rfl⟩
      obtain ⟨GL, hGL⟩ : ∃ GL, GL = outs (objs cs1) := ⟨_, rfl⟩
      have hKu : ∀ o ∈ KL, o.marked = false := by
        intro o ho; rw [hKL] at ho; obtain ⟨y, _, rfl⟩ := List.mem_map.1 ho; rfl
      have hKlen : KL.length ≤ 100000 := by
        rw [hKL]; unfold kept; rw [List.length_map]; exact Nat.le_trans (List.length_filter_le _ _) hlen1
      have hGlen : GL.length ≤ 100000 := by rw [hGL]; exact Nat.le_trans (List.length_filter_le _ _) hlen1
      have HKU := Lib.hid hKu
      have HKL := Lib.hid hKL
      have HGL := Lib.hid hGL
      clear hA1 hG1 hL1 hM1 hr7 hr8 hl1 hKu hKL hGL HS
      have HSW := Lib.hid (sweep_walk HA1.out HG1.out hlen1)
      obtain ⟨p7, c7, h7v, _⟩ := objS_of HR7.out
      obtain ⟨p8, c8, h8v, _⟩ := objS_of HR8.out
      rw [← HKL.out] at h7v
      rw [← HGL.out] at h8v
      have HO7 : Hid (wr.ownsRow w3.heap.size 40 4 u7 KL.length (objCells KL)) := by rw [HKL.out]; exact HR7.out
      have HO8 : Hid (wr.ownsRow w3.heap.size 40 4 u8 GL.length (objCells GL)) := by rw [HGL.out]; exact HR8.out
      clear HR7 HR8
      subst h7v h8v
      go_wp2_with fail
      refine HSW.out.mono ?_
      rintro e W5 ⟨v5, cs2, rfl, hown5, hA2, hG2, hL2, hob2, hf2⟩
      rw [← HGL.out] at hown5
      rw [← HKL.out] at hob2
      have HA2 := Lib.hid hA2
      have HG2 := Lib.hid hG2
      have HL2 := Lib.hid (hL2.trans HL1.out)
      have HOB2 := Lib.hid hob2
      have HF5 : Hid (w3.grownBy W5 (some b)) := fr_trans HF1.out hf2
      have HO75 : Hid (W5.ownsRow w3.heap.size 40 4 (.slice p7 KL.length c7) KL.length (objCells KL)) := HO7.out.kept hf2 (own_ne HO7.out hb3l)
      have HO85 : Hid (W5.ownsRow w3.heap.size 40 4 (.slice p8 GL.length c8) GL.length (objCells GL)) := HO8.out.kept hf2 (own_ne HO8.out hb3l)
      have HS5 := Lib.hid (objS_of hown5)
      clear hown5 hA2 hG2 hL2 hob2 hf2
      go_wp2_with fail
      refine (equal_at hGlen HS5.out (objS_of HO85.out)).mono ?_
      rintro e W6 ⟨rfl, hb6⟩
      have HA6 := Lib.hid (HA2.out.below hb6 HA2.out.lt_a HA2.out.lt_b)
      have HF6 : Hid (w3.grownBy W6 (some b)) := fr_trans HF5.out (fr_of_below hb6 (Nat.le_refl _) _)
      have HO76 : Hid (W6.ownsRow w3.heap.size 40 4 (.slice p7 KL.length c7) KL.length (objCells KL)) := HO75.out.kept (fr_of_below hb6 (Nat.le_refl _) none) (by cases (Value.slice p7 KL.length c7).ownBlock <;> simp)
      clear hb6
      go_wp2_with fail
      refine (objects_at HA6.out HG2.out.rd (places_le HOB2.out hKlen)).mono ?_
      rintro e W7 ⟨v7, rfl, hown7, hb7⟩
      rw [HOB2.out] at hown7
      have HS7 := Lib.hid (objS_of hown7)
      have HA7 := Lib.hid (HA6.out.below hb7 HA6.out.lt_a HA6.out.lt_b)
      have HF7 : Hid (w3.grownBy W7 (some b)) := fr_trans HF6.out (fr_of_below hb7 (Nat.le_refl _) _)
      have HO77 : Hid (W7.ownsRow w3.heap.size 40 4 (.slice p7 KL.length c7) KL.length (objCells KL)) := HO76.out.kept (fr_of_below hb7 (Nat.le_refl _) none) (by cases (Value.slice p7 KL.length c7).ownBlock <;> simp)
      clear hown7 hb7
      go_wp2_with fail
      refine (equal_at hKlen HS7.out (objS_of HO77.out)).mono ?_
      rintro e W8 ⟨rfl, hb8⟩
      have HA8 := Lib.hid (HA7.out.below hb8 HA7.out.lt_a HA7.out.lt_b)
      have HF8 : Hid (w3.grownBy W8 (some b)) := fr_trans HF7.out (fr_of_below hb8 (Nat.le_refl _) _)
      have HO78 : Hid (W8.ownsRow w3.heap.size 40 4 (.slice p7 KL.length c7) KL.length (objCells KL)) := HO77.out.kept (fr_of_below hb8 (Nat.le_refl _) none) (by cases (Value.slice p7 KL.length c7).ownBlock <;> simp)
      clear hb8
      have HQ8 : Hid (∀ (r : Nat) (o : PObj), KL[r]? = some o → ∃ g, p7 = some ⟨g, 0, none⟩ ∧ w3.heap.size ≤ g ∧ g < W8.heap.size ∧ W8.cell? ⟨g, r * 4, none⟩ = some (.int .i64 o.at_) ∧ W8.cell? ⟨g, r * 4 + 1, none⟩ = some (.int .i64 o.size) ∧ W8.cell? ⟨g, r * 4 + 2, none⟩ = some (.int .i64 o.room) ∧ W8.cell? ⟨g, r * 4 + 3, none⟩ = some (.bool o.marked)) := by
        intro r o ho
        obtain ⟨g, cap', e, h1, h2, h3⟩ := own_obj HO78.out (by intro e; rw [e] at ho; cases ho)
        simp at e
        exact ⟨g, e.1, h1, h2, h3 r o ho⟩
      obtain ⟨M, hM⟩ : ∃ M, M = KL.length := ⟨_, rfl⟩
      rw [← hM] at hKlen
      have HO7M := Lib.hid hM
      rw [← hM]
      clear hM
      go_wp2_with fail
      go_loopw [106] (fun s106 wr => ∃ (r : Nat) (cs' : List Chunk), r ≤ M ∧ s106 = .int .i64 r ∧ At wr a b cs' ∧ Good cs' ∧ cs'.length = 20 ∧ objs cs' = (KL.take r).map (fun o => { o with marked := true }) ++ KL.drop r ∧ W8.grownBy wr (some b)) (fun s106 _ => M - (intOf s106).toNat)
      case atStart => exact ⟨0, cs2, by omega, rfl, HA8.out, HG2.out, HL2.out, by rw [HOB2.out]; simp, fr_refl _ _⟩
      case round =>
        obtain ⟨r, cs', hr, rfl, hA, hG, hL, hob, hf⟩ := hrel
        have HA := Lib.hid hA
        have HG := Lib.hid hG
        have HL := Lib.hid hL
        have HOB := Lib.hid hob
        have HFr := Lib.hid hf
        clear hA hG hL hob hf
        by_cases hlt2 : r < M
        · obtain ⟨o, ho⟩ : ∃ o, KL[r]? = some o := ⟨KL[r]'(by rw [← HO7M.out]; exact hlt2), by simp⟩
          obtain ⟨g, rfl, hg1, hg2, a0, a1, a2, a3⟩ := HQ8.out r o ho
          have hgb : wr.heap[g]? = W8.heap[g]? := HFr.out.block g hg2 (by simp; omega)
          have c0 : wr.cell? ⟨g, r * 4, none⟩ = some (.int .i64 o.at_) := by rw [World.cell?_of_block (w := W8) hgb]; exact a0
          have c1 : wr.cell? ⟨g, r * 4 + 1, none⟩ = some (.int .i64 o.size) := by rw [World.cell?_of_block (w := W8) hgb]; exact a1
          have c2 : wr.cell? ⟨g, r * 4 + 2, none⟩ = some (.int .i64 o.room) := by rw [World.cell?_of_block (w := W8) hgb]; exact a2
          have c3 : wr.cell? ⟨g, r * 4 + 3, none⟩ = some (.bool o.marked) := by rw [World.cell?_of_block (w := W8) hgb]; exact a3
          have HO := Lib.hid ho
          have hget : (objs cs')[r]? = some o := by
            rw [HOB.out, List.getElem?_append_right (by simp; omega)]
            simp only [List.length_map, List.length_take, List.getElem?_drop]
            have : min r KL.length = r := by rw [← HO7M.out]; omega
            rw [this]; simpa using ho
          have HGET := Lib.hid hget
          have hos := (obj_in HG.out (List.mem_of_getElem? hget)).1.pos
          clear a0 a1 a2 a3 hgb ho hget
          go_wp2_with fail
          refine (Mark_at (HA.out.alloc _) HG.out (o.at_ : Int)).mono ?_
          rintro e W9 hP
          obtain ⟨cs9, A, B, rfl, hA9, hG9, hL9, e1, e2, hg9⟩ := mark_known HG.out (List.mem_of_getElem? HGET.out) (Int.le_refl _) (by omega) hP
          have hAl := split_at (good_nodup HG.out) HGET.out e1
          have HOB9 : Hid (objs cs9 = (KL.take (r + 1)).map (fun o => { o with marked := true }) ++ KL.drop (r + 1)) := by
            show _ = _
            have hd : KL.drop r = o :: KL.drop (r + 1) := by
              obtain ⟨h1, h2⟩ := List.getElem?_eq_some_iff.1 HO.out
              rw [List.drop_eq_getElem_cons h1, h2]
            rw [HOB.out, hd] at e1
            have hA2 := List.append_inj_left e1 (by simp; rw [hAl, ← HO7M.out]; omega)
            rw [hA2] at e1
            have hB2 : KL.drop (r + 1) = B := by simpa using e1
            rw [e2, ← hA2, ← hB2, List.take_add_one, HO.out]
            simp
          have HA9 := Lib.hid hA9
          have HG9 := Lib.hid hG9
          have HL9 := Lib.hid (hL9.trans HL.out)
          have HF9 : Hid (W8.grownBy W9 (some b)) := fr_trans (fr_alloc HFr.out _) hg9
          clear hP e1 e2 hA9 hG9 hL9 hg9 hAl c0 c1 c2 c3
          go_wp2
          go_roundw
          case rel => exact ⟨r + 1, cs9, by omega, by go_num, HA9.out, HG9.out, HL9.out, HOB9.out, HF9.out⟩
          case measure => simp [intOf]; omega
        · obtain rfl : r = M := by omega
          have hob9 := HOB.out
          rw [List.take_of_length_le (by rw [← HO7M.out]; exact Nat.le_refl _), List.drop_eq_nil_of_le (by rw [← HO7M.out]; exact Nat.le_refl _), List.append_nil] at hob9
          obtain ⟨am1, am2⟩ := all_marked HKU.out
          have hlen9 : (objs cs').length ≤ 100000 := by rw [hob9, List.length_map, ← HO7M.out]; exact hKlen
          have HSW9 := Lib.hid (sweep_walk HA.out HG.out hlen9)
          have HE9 : Hid (outs (objs cs') = [] ∧ kept (objs cs') = KL) := by show _ ∧ _; rw [hob9]; exact ⟨am1, am2⟩
          clear hob9 am1 am2
          go_wp2_with fail
          refine HSW9.out.mono ?_
          rintro e W10 ⟨v10, cs10, rfl, hown, hA10, hG10, hL10, hob10, hf10⟩
          rw [HE9.out.1] at hown
          rw [HE9.out.2] at hob10
          have HA10 := Lib.hid hA10
          have HG10 := Lib.hid hG10
          have HL10 := Lib.hid (hL10.trans HL.out)
          have HOB10 := Lib.hid hob10
          have HF10 : Hid (W8.grownBy W10 (some b)) := fr_trans HFr.out hf10
          have hv10 : ∃ p c, v10 = .slice p 0 c := by
            rcases own_empty hown with rfl | ⟨y, c, rfl⟩
            · exact ⟨_, _, rfl⟩
            · exact ⟨_, _, rfl⟩
          obtain ⟨p10, c10, rfl⟩ := hv10
          clear hown hA10 hG10 hL10 hob10 hf10
          go_wp2_with fail
          go_loopw [121] (fun s121 wr => ∃ (t : Nat) (cs' : List Chunk), t ≤ r ∧ s121 = .int .i64 t ∧ At wr a b cs' ∧ Good cs' ∧ cs'.length = 20 ∧ objs cs' = KL.drop t ∧ W8.grownBy wr (some b)) (fun s121 _ => r - (intOf s121).toNat)
          case atStart => exact ⟨0, cs10, by omega, rfl, HA10.out, HG10.out, HL10.out, by rw [HOB10.out]; rfl, HF10.out⟩
          case round =>
            obtain ⟨t, csT, ht, rfl, hA, hG, hL, hob, hf⟩ := hrel
            have HAt := Lib.hid hA
            have HGt := Lib.hid hG
            have HLt := Lib.hid hL
            have HOBt := Lib.hid hob
            have HFt := Lib.hid hf
            clear hA hG hL hob hf
            by_cases hlt3 : t < r
            · obtain ⟨o, ho⟩ : ∃ o, KL[t]? = some o := ⟨KL[t]'(by rw [← HO7M.out]; exact hlt3), by simp⟩
              obtain ⟨g, rfl, hg1, hg2, a0, a1, a2, a3⟩ := HQ8.out t o ho
              have hgb : wr.heap[g]? = W8.heap[g]? := HFt.out.block g hg2 (by simp; omega)
              have c0 : wr.cell? ⟨g, t * 4, none⟩ = some (.int .i64 o.at_) := by rw [World.cell?_of_block (w := W8) hgb]; exact a0
              have c1 : wr.cell? ⟨g, t * 4 + 1, none⟩ = some (.int .i64 o.size) := by rw [World.cell?_of_block (w := W8) hgb]; exact a1
              have c2 : wr.cell? ⟨g, t * 4 + 2, none⟩ = some (.int .i64 o.room) := by rw [World.cell?_of_block (w := W8) hgb]; exact a2
              have c3 : wr.cell? ⟨g, t * 4 + 3, none⟩ = some (.bool o.marked) := by rw [World.cell?_of_block (w := W8) hgb]; exact a3
              have HO := Lib.hid ho
              have hd : KL.drop t = o :: KL.drop (t + 1) := by
                obtain ⟨h1, h2⟩ := List.getElem?_eq_some_iff.1 ho
                rw [List.drop_eq_getElem_cons h1, h2]
              have hobt := HOBt.out
              rw [hd] at hobt
              have hin : o ∈ objs csT := by rw [hobt]; simp
              have HIN := Lib.hid hin
              have HOBT := Lib.hid hobt
              clear a0 a1 a2 a3 hgb ho hd hobt hin
              go_wp2_with fail
              refine (Free_at (HAt.out.alloc _) HGt.out (o.at_ : Int)).mono ?_
              rintro e W12 (⟨i, s, c, hpl, hat, rfl, hA12, hg12⟩ | ⟨hno, _⟩)
              rotate_left
              · exact absurd rfl (hno o HIN.out)
              have hoo : objOf c i s = o := apart_same (good_apart HGt.out) (good_room HGt.out) (pl_ok HGt.out hpl).2.2.2 HIN.out (by omega)
              obtain ⟨hG12, hL12, A, B, e1, e2⟩ := remove_put HGt.out hpl
              rw [hoo] at e2
              have hAl := split_at (good_nodup HGt.out) (k := 0) (by rw [HOBT.out]; rfl) e2
              have hob12 : objs (removeC csT i s c) = KL.drop (t + 1) := by
                obtain rfl := List.eq_nil_of_length_eq_zero hAl
                rw [HOBT.out] at e2
                simp at e2
                rw [e1, e2]; rfl
              have HA12 := Lib.hid hA12
              have HG12 := Lib.hid hG12
              have HL12 := Lib.hid (hL12.trans HLt.out)
              have HOB12 := Lib.hid hob12
              have HF12 : Hid (W8.grownBy W12 (some b)) := fr_trans (fr_alloc HFt.out _) hg12
              clear hpl hat hoo hA12 hg12 hG12 hL12 e1 e2 hAl hob12 c0 c1 c2 c3
              generalize removeC csT i s c = csU at *
              go_wp2
              go_roundw
              case rel => exact ⟨t + 1, csU, by omega, by go_num, HA12.out, HG12.out, HL12.out, HOB12.out, HF12.out⟩
              case measure => simp [intOf]; omega
            · have htr : t = r := by omega
              have he : objs csT = [] := by rw [HOBt.out, List.drop_eq_nil_of_le (by rw [← HO7M.out]; omega)]
              have hz := empty_zero HGt.out he
              rw [HLt.out] at hz
              have hms : mapStr csT = ⟨#[46, 46, 46, 46, 46, 46, 46, 46, 46, 46, 46, 46, 46, 46, 46, 46, 46, 46, 46, 46]⟩ := by rw [hz]; rfl
              have HMS := Lib.hid hms
              clear he hz hms htr
              go_wp2_with fail
              refine (map_walk HAt.out HGt.out.what).mono ?_
              rintro e W11 ⟨rfl, hb11⟩
              rw [HMS.out]
              have HB11 : Hid (Below w.heap.size w W11) := HB3.out.trans (fr_below (fr_trans (fr_trans HF8.out HFt.out) (fr_of_below hb11 (Nat.le_refl _) _)) HBL.out HB3.out.size)
              clear hb11
              go_wp2_with fail
              go_ret
              exact ⟨rfl, HB11.out⟩
end Go.Proofs.YtdgfnlagbdmniaaDoor.Pl
