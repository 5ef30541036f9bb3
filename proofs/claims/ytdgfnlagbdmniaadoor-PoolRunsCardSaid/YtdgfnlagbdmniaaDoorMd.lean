/- PoolRuns: the reference's Sweep. -/
/- PoolRuns: kind and holder over the objects of a pool's chunks, plainly. -/
/- PoolRuns: the reference's Alloc. -/
import Derived.Test.YtdgfnlagbdmniaaDoorMc
import Derived.Test.YtdgfnlagbdmniaaDoorNQi
import Derived.Deep.AppendLies
import Derived.Deep.Cut
import Derived.Deep.CutRange
namespace Go.Proofs.YtdgfnlagbdmniaaDoor.Pl
open Go.RowKit Go.Proofs.YtdgfnlagbdmniaaDoor.PPoolRuns Go.Proofs.YtdgfnlagbdmniaaDoorW.PrintWords Go.Proofs.YtdgfnlagbdmniaaDoorW.PrintLast Go.Proofs.YtdgfnlagbdmniaaDoorW.PrintMore

def PObj.rc (o : PObj) : List Value := [.int .i64 o.at_, .int .i64 o.size, .bool o.marked]
def rCells (l : List PObj) : List Value := l.flatMap PObj.rc
theorem rCells_snoc (l : List PObj) (o : PObj) : rCells (l ++ [o]) = rCells l ++ o.rc := by simp [rCells]

theorem reps_rc (w : World) (base : Nat) (ok : Nat → Prop) (l : List PObj) : Reps (k109.M w base ok) 3 (l.map toS) (rCells l) := by
  suffices H : ∀ n, n ≤ l.length → Reps (k109.M w base ok) 3 ((l.take n).map toS) (rCells (l.take n)) by
    have := H l.length (Nat.le_refl _)
    rwa [List.take_length] at this
  intro n
  induction n with
  | zero => intro _; exact Reps.none _ _
  | succ n ih =>
    intro hn
    have hp : l[n]? = some (l[n]'(by omega)) := by simp [show n < l.length by omega]
    rw [take_next hp, rCells_snoc, List.map_append]
    exact Reps.snoc (ih (by omega)) (k109_mkM w base ok _) rfl
theorem own_R {w : World} {base : Nat} {v : Value} {l : List PObj} (h : w.ownsRow base 109 3 v l.length (rCells l)) : k109.R 109 w base (fun _ => True) v (l.map toS) :=
  ⟨fun _ _ => trivial, rCells l, by rw [List.length_map]; exact h, reps_rc w base _ l⟩


theorem R_refS {w : World} {base : Nat} {ok : Nat → Prop} {v : Value} {l : List PObj} (h : k109.R 109 w base ok v (l.map toS)) : RefS w v l := by
  obtain ⟨A, c, he, hl, hC⟩ := Kd.R_reads h
  rw [List.length_map] at he hl hC
  refine ⟨A, c, he, ?_⟩
  rcases h.2 with ⟨inner, ho, _⟩
  rcases ho.2 with ⟨hv, h0⟩ | ⟨g, cap, cur, hv, hg, hh, _⟩
  · left; rw [List.length_map] at h0; exact List.eq_nil_of_length_eq_zero h0
  · rw [he] at hv
    injection hv with e1 e2 e3
    right
    refine ⟨g, 0, e1, ?_, fun k o hk => ?_⟩
    · rcases Nat.lt_or_ge g w.heap.size with hlt | hge
      · exact hlt
      · rw [Array.getElem?_eq_none hge] at hh; cases hh
    · have hlt := (List.getElem?_eq_some_iff.1 hk).1
      obtain ⟨ad, ea, c0, c1, c2⟩ := at_T109 hC (k : Int) (by omega) (by omega)
      rw [e1] at ea
      injection ea with ea
      subst ea
      rw [rd_toS hk] at c0 c1 c2
      simp only [Int.toNat_natCast, Addr.add_mid] at c0 c1 c2
      exact ⟨c0, c1, c2⟩

structure LR (w : World) (c : Int) (l : List PObj) (A : Option Addr) (n cap g1 g2 k : Nat) (s4 s5 : Value) (wr : World) : Prop where
  r4 : wr.ownsRow w.heap.size 109 3 s4 (kept (l.take k)).length (rCells (kept (l.take k)))
  r5 : wr.ownsRow w.heap.size 109 3 s5 (outs (l.take k)).length (rCells (outs (l.take k)))
  apart : s4.ownBlock = none ∨ s4.ownBlock ≠ s5.ownBlock
  below : Below w.heap.size w wr
  b1 : wr.heap[g1]? = some (.cells #[.int .i64 c, .slice A n cap] 57 (0, 0))
  b2 : wr.heap[g2]? = some (.cells #[.int .i64 0, .slice none 0 0] 57 (0, 0))

theorem own_other {W W' : World} {base g : Nat} {v : Value} {n : Nat} {xs : List Value} {C : Array Value} (h : W.ownsRow base 109 3 v n xs) (hg : W.grownBy W' v.ownBlock) (hb : W.heap[g]? = some (.cells C 57 (0, 0))) : W'.heap[g]? = some (.cells C 57 (0, 0)) := by
  have hlt : g < W.heap.size := by
    rcases Nat.lt_or_ge g W.heap.size with hlt | hge
    · exact hlt
    · rw [Array.getElem?_eq_none hge] at hb; cases hb
  rw [hg.block g hlt ?_]
  · exact hb
  · intro e
    obtain ⟨cells, hc⟩ := own_typed h g e.symm
    rw [hc] at hb
    injection hb with hb
    injection hb with _ hb
    cases hb

theorem lr_kept {w : World} {c : Int} {l : List PObj} {A : Option Addr} {n cap g1 g2 k : Nat} {s4 s5 s4' : Value} {wr W5 W6 : World} {o : PObj} (h : LR w c l A n cap g1 g2 k s4 s5 wr) (ho : l[k]? = some o) (hm : o.marked = true)
    (hwr : Below wr.heap.size wr W5) (hown : W6.ownsRow w.heap.size 109 3 s4' ((kept (l.take k)).length + 1) (rCells (kept (l.take k)) ++ (unmark o).rc)) (hgr : W5.grownBy W6 s4.ownBlock) {g : Nat} (hs : s4'.ownBlock = some g) (hat : s4.ownBlock = some g ∨ wr.heap.size ≤ g) :
    LR w c l A n cap g1 g2 (k + 1) s4' s5 W6 := by
  have h4 := own_move h.r4 (fun k hk => hwr.block k (h.r4.lt k hk).2)
  have h5 := own_move h.r5 (fun k hk => hwr.block k (h.r5.lt k hk).2)
  refine ⟨?_, ?_, ?_, ?_, own_other h4 hgr ((hwr.block g1 (blk_lt h.b1)).trans h.b1), own_other h4 hgr ((hwr.block g2 (blk_lt h.b2)).trans h.b2)⟩
  · rw [kept_snoc ho hm, rCells_snoc]; simpa using hown
  · rw [take_next ho]
    have e : outs (l.take k ++ [o]) = outs (l.take k) := by simp [outs, hm]
    rw [e]
    refine h5.kept hgr ?_
    rcases h.apart with h' | h'
    · rw [h']; cases s5.ownBlock <;> simp
    · exact .inr (Ne.symm h')
  · rw [hs]
    right
    rcases hat with h' | h'
    · rcases h.apart with h'' | h''
      · rw [h'] at h''; cases h''
      · rw [← h']; exact h''
    · intro e
      have := (h.r5.lt g e.symm).2
      omega
  · exact (h.below.trans (hwr.mono h.below.size)).grown hgr (Nat.le_trans h.below.size hwr.size) (fun g hg => (h4.lt g hg).1)

theorem lr_gone {w : World} {c : Int} {l : List PObj} {A : Option Addr} {n cap g1 g2 k : Nat} {s4 s5 s5' : Value} {wr W5 W6 : World} {o : PObj} (h : LR w c l A n cap g1 g2 k s4 s5 wr) (ho : l[k]? = some o) (hm : o.marked = false)
    (hwr : Below wr.heap.size wr W5) (hown : W6.ownsRow w.heap.size 109 3 s5' ((outs (l.take k)).length + 1) (rCells (outs (l.take k)) ++ o.rc)) (hgr : W5.grownBy W6 s5.ownBlock) {g : Nat} (hs : s5'.ownBlock = some g) (hat : s5.ownBlock = some g ∨ wr.heap.size ≤ g) :
    LR w c l A n cap g1 g2 (k + 1) s4 s5' W6 := by
  have h4 := own_move h.r4 (fun k hk => hwr.block k (h.r4.lt k hk).2)
  have h5 := own_move h.r5 (fun k hk => hwr.block k (h.r5.lt k hk).2)
  refine ⟨?_, ?_, ?_, ?_, own_other h5 hgr ((hwr.block g1 (blk_lt h.b1)).trans h.b1), own_other h5 hgr ((hwr.block g2 (blk_lt h.b2)).trans h.b2)⟩
  · rw [kept_same ho hm]; exact h4.kept hgr h.apart
  · have e : outs (l.take (k + 1)) = outs (l.take k) ++ [o] := by rw [take_next ho]; simp [outs, hm]
    rw [e, rCells_snoc]; simpa using hown
  · rw [hs]
    rcases hat with h' | h'
    · rw [← h']; exact h.apart
    · cases h4b : s4.ownBlock with
      | none => exact .inl rfl
      | some r =>
        right
        intro e
        cases e
        have := (h.r4.lt g h4b).2
        omega
  · exact (h.below.trans (hwr.mono h.below.size)).grown hgr (Nat.le_trans h.below.size hwr.size) (fun g hg => (h5.lt g hg).1)

set_option maxRecDepth 100000 in
set_option maxHeartbeats 2000000 in
theorem rsweep_at (c : Int) (l : List PObj) (hl : l.length ≤ 100000) (v : Value) (w : World) (hr : RefS w v l) :
    Calls Tryd.prog 43 #[.agg #[.int .i64 c, v]] w fun e w' => ∃ v1 v2, e = .returned (.tuple #[.agg #[.int .i64 c, v1], v2]) ∧
      w'.ownsRow w.heap.size 109 3 v1 (kept l).length (rCells (kept l)) ∧ w'.ownsRow w.heap.size 109 3 v2 (outs l).length (rCells (outs l)) ∧ Below w.heap.size w w' := by
  obtain ⟨A, cap, rfl, hr⟩ := hr
  have HC := Lib.hid hr; clear hr
  obtain ⟨n, hn⟩ : ∃ n, n = l.length := ⟨_, rfl⟩
  rw [← hn] at hl ⊢
  have HN := Lib.hid hn; clear hn
  obtain ⟨i0, hi, hz0, hz1, hz2⟩ := info_parts info109
  have HI := Lib.hid hi; clear hi
  have HZ0 := Lib.hid hz0; clear hz0
  have HZ1 := Lib.hid hz1; clear hz1
  have HZ2 := Lib.hid hz2; clear hz2
  go_enter Tryd.func43, Tryd.ntmps43
  go_wp2_with fail
  obtain ⟨W0, hW0⟩ : ∃ W0, W0 = ((((w.alloc (Obj.cells #[Value.int IntKind.i64 c, Value.slice A n cap] 57)).alloc (Obj.cells #[Value.int IntKind.i64 0, Value.slice none 0 0] 57)).alloc (Obj.cells #[] 109)).alloc (Obj.cells #[] 109)) := ⟨_, rfl⟩
  rw [← hW0]
  obtain ⟨g1, hg1⟩ : ∃ g1, g1 = w.heap.size := ⟨_, rfl⟩
  obtain ⟨g2, hg2⟩ : ∃ g2, g2 = g1 + 1 := ⟨_, rfl⟩
  obtain ⟨g3, hg3⟩ : ∃ g3, g3 = g2 + 1 := ⟨_, rfl⟩
  obtain ⟨g4, hg4⟩ : ∃ g4, g4 = g3 + 1 := ⟨_, rfl⟩
  rw [← hg1, ← hg2, ← hg3, ← hg4]
  have hwa := hW0
  have HE0 : Hid (LR w c l A n cap g1 g2 0 (.slice (some ⟨g3, 0, none⟩) 0 0) (.slice (some ⟨g4, 0, none⟩) 0 0) W0) := by
    have hs : W0.heap.size = g4 + 1 := by rw [hW0, hg4, hg3, hg2, hg1]; simp
    have hb : Below w.heap.size w W0 := by
      rw [hW0]
      exact ((((Below.refl _ _).alloc (Nat.le_refl _) _).alloc (by simp) _).alloc (by simp; omega) _).alloc (by simp; omega) _
    refine ⟨?_, ?_, ?_, hb, ?_, ?_⟩
    · refine ⟨rfl, .inr ⟨g3, 0, #[], rfl, by omega, ?_, Nat.le_refl _, by decide, rfl, rfl⟩⟩
      rw [hW0, Below.heap_alloc _ _ _ (by simp; omega), hg3, hg2, hg1]
      simpa using (MapKept.heap_alloc ((w.alloc (Obj.cells #[Value.int IntKind.i64 c, Value.slice A n cap] 57)).alloc (Obj.cells #[Value.int IntKind.i64 0, Value.slice none 0 0] 57)) (Obj.cells #[] 109)).1
    · refine ⟨rfl, .inr ⟨g4, 0, #[], rfl, by omega, ?_, Nat.le_refl _, by decide, rfl, rfl⟩⟩
      rw [hW0, hg4, hg3, hg2, hg1]
      simpa using (MapKept.heap_alloc (((w.alloc (Obj.cells #[Value.int IntKind.i64 c, Value.slice A n cap] 57)).alloc (Obj.cells #[Value.int IntKind.i64 0, Value.slice none 0 0] 57)).alloc (Obj.cells #[] 109)) (Obj.cells #[] 109)).1
    · right; intro e; simp [Value.ownBlock] at e; omega
    · rw [hW0, Below.heap_alloc _ _ _ (by simp; omega), Below.heap_alloc _ _ _ (by simp; omega), Below.heap_alloc _ _ _ (by simp; omega), hg1]
      exact (MapKept.heap_alloc _ _).1
    · rw [hW0, Below.heap_alloc _ _ _ (by simp; omega), Below.heap_alloc _ _ _ (by simp; omega), hg2, hg1]
      simpa using (MapKept.heap_alloc (w.alloc (Obj.cells #[Value.int IntKind.i64 c, Value.slice A n cap] 57)) (Obj.cells #[Value.int IntKind.i64 0, Value.slice none 0 0] 57)).1
  clear hwa hW0
  have HG1 := Lib.hid hg1; clear hg1
  have HG2 := Lib.hid hg2; clear hg2
  clear hg3 hg4
  go_loopw [4, 5, 6] (fun s4 s5 s6 wr => ∃ k : Nat, k ≤ n ∧ s6 = .int .i64 k ∧ LR w c l A n cap g1 g2 k s4 s5 wr) (fun _ _ s6 _ => n - (intOf s6).toNat)
  case atStart => exact ⟨0, by omega, rfl, HE0.out⟩
  case round =>
    obtain ⟨k, hk, rfl, hS⟩ := hrel
    have HS := Lib.hid hS; clear hS
    have p0 : wr.cell? ⟨g1, 0, none⟩ = some (.int .i64 c) := cell_blk HS.out.b1 0
    have p1 : wr.cell? ⟨g1, 1, none⟩ = some (.slice A n cap) := cell_blk HS.out.b1 1
    by_cases hlt : k < n
    · obtain ⟨o, ho⟩ : ∃ o, l[k]? = some o := ⟨l[k]'(by rw [← HN.out]; exact hlt), by simp⟩
      obtain ⟨g, off, rfl, hgl, hcells⟩ : ∃ g off, A = some ⟨g, off, none⟩ ∧ g < w.heap.size ∧ ∀ k o, l[k]? = some o → w.cell? ⟨g, off + k * 3, none⟩ = some (.int .i64 o.at_) ∧ w.cell? ⟨g, off + k * 3 + 1, none⟩ = some (.int .i64 o.size) ∧ w.cell? ⟨g, off + k * 3 + 2, none⟩ = some (.bool o.marked) := by
        rcases HC.out with h | h
        · rw [h] at ho; cases ho
        · exact h
      obtain ⟨a0, a1, a2⟩ := hcells k o ho
      have c0 : wr.cell? ⟨g, off + k * 3, none⟩ = some (.int .i64 o.at_) := (HS.out.below.cell (p := ⟨g, off + k * 3, none⟩) hgl).trans a0
      have c1 : wr.cell? ⟨g, off + k * 3 + 1, none⟩ = some (.int .i64 o.size) := (HS.out.below.cell (p := ⟨g, off + k * 3 + 1, none⟩) hgl).trans a1
      have c2 : wr.cell? ⟨g, off + k * 3 + 2, none⟩ = some (.bool o.marked) := (HS.out.below.cell (p := ⟨g, off + k * 3 + 2, none⟩) hgl).trans a2
      have HO := Lib.hid ho; clear ho
      clear hcells a0 a1 a2
      go_upto_region 7 with fail
      obtain ⟨X, hX⟩ : ∃ X, X = wr.heap.size := ⟨_, rfl⟩
      obtain ⟨W4, hW4⟩ : ∃ W4, W4 = wr.alloc (Obj.cells #[Value.int IntKind.i64 o.at_, Value.int IntKind.i64 o.size, Value.bool o.marked] 109) := ⟨_, rfl⟩
      rw [← hW4, ← hX]
      have HX4 : Hid (W4.heap[X]? = some (.cells #[Value.int IntKind.i64 o.at_, Value.int IntKind.i64 o.size, Value.bool o.marked] 109 (0, 0))) := by rw [hW4, hX]; exact (MapKept.heap_alloc _ _).1
      have HW4 : Hid (Below wr.heap.size wr W4) := by rw [hW4]; exact (Below.refl _ _).alloc (Nat.le_refl _) _
      have HXW := Lib.hid hX
      have HSZ : Hid (W4.heap.size = X + 1) := by show _ = _; rw [hW4, hX]; simp
      clear hW4 hX c0 c1 c2 p0 p1
      have x0 : W4.cell? ⟨X, 0, none⟩ = some (.int .i64 o.at_) := cell_blk HX4.out 0
      have x1 : W4.cell? ⟨X, 1, none⟩ = some (.int .i64 o.size) := cell_blk HX4.out 1
      have x2 : W4.cell? ⟨X, 2, none⟩ = some (.bool o.marked) := cell_blk HX4.out 2
      have f2 : W4.frozen? ⟨X, 2, none⟩ = false := frozen_blk HX4.out 2
      have hlk : (kept (l.take k)).length ≤ 100000 := by
        unfold kept
        rw [List.length_map]
        refine Nat.le_trans (List.length_filter_le _ _) ?_
        rw [List.length_take]; omega
      have hlo : (outs (l.take k)).length ≤ 100000 := by
        refine Nat.le_trans (List.length_filter_le _ _) ?_
        rw [List.length_take]; omega
      have HLK := Lib.hid hlk; clear hlk
      have HLO := Lib.hid hlo; clear hlo
      generalize hmk : o.marked = m at *
      have HM := Lib.hid hmk; clear hmk
      cases m with
      | true =>
        go_upto_region 9 with fail
        obtain ⟨W5, hW5⟩ : ∃ W5, W5 = W4.setCell ⟨X, 2, none⟩ (.bool false) := ⟨_, rfl⟩
        rw [← hW5]
        have HX5 : Hid (W5.heap[X]? = some (.cells #[Value.int IntKind.i64 o.at_, Value.int IntKind.i64 o.size, Value.bool false] 109 (0, 0))) := by
          show _ = _
          rw [hW5, blk_set HX4.out]; rfl
        have HW5 : Hid (Below wr.heap.size wr W5) := by rw [hW5]; exact HW4.out.setCell (by rw [← HXW.out]; exact Nat.le_refl _) _
        have HSZ5 : Hid (W5.heap.size = X + 1) := by show _ = _; rw [hW5, ← HSZ.out]; simp
        have HR4 := Lib.hid (own_move HS.out.r4 (fun k hk => HW5.out.block k (HS.out.r4.lt k hk).2))
        clear hW5 x0 x1 x2 f2
        have x0 : W5.cell? ⟨X, 0, none⟩ = some (.int .i64 o.at_) := cell_blk HX5.out 0
        have x1 : W5.cell? ⟨X, 1, none⟩ = some (.int .i64 o.size) := cell_blk HX5.out 1
        have x2 : W5.cell? ⟨X, 2, none⟩ = some (.bool false) := cell_blk HX5.out 2
        go_wp2_with (at_builtin; refine wpList_append_lies _ rfl _ _ 55 rfl w.heap.size 109 i0 (.agg #[.int .i64 0, .int .i64 0, .bool false]) 3 24 Tryd.underlying55 HI.out HZ0.out HZ1.out HZ2.out rfl (by decide) _ _ _ rfl (HR4.out.alloc _) ⟨W5.heap.size, 0, none⟩ 1 1 [.int .i64 o.at_, .int .i64 o.size, .bool false] rfl rfl ?d1 ?d2 (by decide) ?d3 ?d4 ?d5 _ rfl ?_)
        case d1 =>
          intro j u hj
          have hb : (W5.alloc (Obj.cells #[.int .i64 o.at_, .int .i64 o.size, .bool false] 109)).heap[W5.heap.size]? = some (.cells #[.int .i64 o.at_, .int .i64 o.size, .bool false] 109 (0, 0)) := (MapKept.heap_alloc W5 _).1
          rw [Addr.add_mid, Nat.zero_add, cell_blk hb, List.getElem?_toArray (xs := [_, _, _])]
          exact hj
        case d2 => intro u hu; simp only [List.mem_cons, List.not_mem_nil, or_false] at hu; rcases hu with rfl | rfl | rfl <;> rfl
        case d3 => have := HLK.out; unfold maxLen; omega
        case d4 => have := HLK.out; omega
        case d5 => have := HW5.out.size; have := HS.out.below.size; simp; omega
        intro ga capa w6 hown hgr hat hlt6
        have HST : Hid (LR w c l (some ⟨g, off, none⟩) n cap g1 g2 (k + 1) (.slice (some ⟨ga, 0, none⟩) ((kept (l.take k)).length + 1) capa) u5 w6) := by
          refine lr_kept HS.out HO.out HM.out (HW5.out.alloc HW5.out.size _) ?_ hgr rfl ?_
          · have e : (unmark o).rc = [.int .i64 o.at_, .int .i64 o.size, .bool false] := rfl
            rw [e]; exact hown
          · rcases hat with h | h
            · exact .inl h
            · right; rw [h]; have := HW5.out.size; simp; omega
        clear hown hgr hat hlt6
        go_wp2
        go_roundw
        case rel => exact ⟨k + 1, by omega, by go_num, HST.out⟩
        case measure => simp [intOf]; omega
      | false =>
        have HR5 := Lib.hid (own_move HS.out.r5 (fun k hk => HW4.out.block k (HS.out.r5.lt k hk).2))
        go_wp2_with (at_builtin; refine wpList_append_lies _ rfl _ _ 55 rfl w.heap.size 109 i0 (.agg #[.int .i64 0, .int .i64 0, .bool false]) 3 24 Tryd.underlying55 HI.out HZ0.out HZ1.out HZ2.out rfl (by decide) _ _ _ rfl (HR5.out.alloc _) ⟨W4.heap.size, 0, none⟩ 1 1 [.int .i64 o.at_, .int .i64 o.size, .bool false] rfl rfl ?d1 ?d2 (by decide) ?d3 ?d4 ?d5 _ rfl ?_)
        case d1 =>
          intro j u hj
          have hb : (W4.alloc (Obj.cells #[.int .i64 o.at_, .int .i64 o.size, .bool false] 109)).heap[W4.heap.size]? = some (.cells #[.int .i64 o.at_, .int .i64 o.size, .bool false] 109 (0, 0)) := (MapKept.heap_alloc W4 _).1
          rw [Addr.add_mid, Nat.zero_add, cell_blk hb, List.getElem?_toArray (xs := [_, _, _])]
          exact hj
        case d2 => intro u hu; simp only [List.mem_cons, List.not_mem_nil, or_false] at hu; rcases hu with rfl | rfl | rfl <;> rfl
        case d3 => have := HLO.out; unfold maxLen; omega
        case d4 => have := HLO.out; omega
        case d5 => have := HW4.out.size; have := HS.out.below.size; simp; omega
        intro ga capa w6 hown hgr hat hlt6
        have HST : Hid (LR w c l (some ⟨g, off, none⟩) n cap g1 g2 (k + 1) u4 (.slice (some ⟨ga, 0, none⟩) ((outs (l.take k)).length + 1) capa) w6) := by
          refine lr_gone HS.out HO.out HM.out (HW4.out.alloc HW4.out.size _) ?_ hgr rfl ?_
          · have e : o.rc = [.int .i64 o.at_, .int .i64 o.size, .bool false] := by unfold PObj.rc; rw [HM.out]
            rw [e]; exact hown
          · rcases hat with h | h
            · exact .inl h
            · right; rw [h]; have := HW4.out.size; simp; omega
        clear hown hgr hat hlt6
        go_wp2
        go_roundw
        case rel => exact ⟨k + 1, by omega, by go_num, HST.out⟩
        case measure => simp [intOf]; omega
    · obtain rfl : k = n := by omega
      have f1 : wr.frozen? ⟨g1, 1, none⟩ = false := frozen_blk HS.out.b1 1
      obtain ⟨q, m4, c4, rfl⟩ : ∃ q m c, u4 = .slice q m c := by
        rcases HS.out.r4.2 with ⟨h, _⟩ | ⟨g, cap, cur, h, _⟩
        · exact ⟨_, _, _, h⟩
        · exact ⟨_, _, _, h⟩
      go_upto_region 12 with fail
      obtain ⟨W5, hW5⟩ : ∃ W5, W5 = wr.setCell ⟨g1, 1, none⟩ (.slice q m4 c4) := ⟨_, rfl⟩
      rw [← hW5]
      have h12 : g2 ≠ g1 := by rw [HG2.out]; omega
      have hb2 : W5.heap[g2]? = some (.cells #[.int .i64 0, .slice none 0 0] 57 (0, 0)) := by rw [hW5]; exact blk_set_ne HS.out.b2 _ h12 _
      have hb1 : W5.heap[g1]? = some (.cells #[.int .i64 c, .slice q m4 c4] 57 (0, 0)) := by rw [hW5, blk_set HS.out.b1]; rfl
      have hne : ∀ {v : Value} {n : Nat} {xs : List Value}, wr.ownsRow w.heap.size 109 3 v n xs → ∀ g, (g = g1 ∨ g = g2) → v.ownBlock ≠ some g := by
        intro v n xs ho g hg e
        obtain ⟨cells, hc⟩ := own_typed ho g e
        rcases hg with rfl | rfl
        · rw [HS.out.b1] at hc; injection hc with hc; injection hc with _ hc; cases hc
        · rw [HS.out.b2] at hc; injection hc with hc; injection hc with _ hc; cases hc
      have hbl : Below w.heap.size w W5 := by rw [hW5]; exact HS.out.below.setCell (by rw [HG1.out]; exact Nat.le_refl _) _
      have HEND : Hid (∀ x y, ((W5.setCell ⟨g2, 0, none⟩ x).setCell ⟨g2, 1, none⟩ y).ownsRow w.heap.size 109 3 (.slice q m4 c4) (kept l).length (rCells (kept l)) ∧
          ((W5.setCell ⟨g2, 0, none⟩ x).setCell ⟨g2, 1, none⟩ y).ownsRow w.heap.size 109 3 u5 (outs l).length (rCells (outs l)) ∧ Below w.heap.size w ((W5.setCell ⟨g2, 0, none⟩ x).setCell ⟨g2, 1, none⟩ y)) := by
        intro x y
        have r4 := HS.out.r4
        have r5 := HS.out.r5
        rw [List.take_of_length_le (by rw [← HN.out]; exact Nat.le_refl _)] at r4 r5
        have mv : ∀ g, g ≠ g1 → g ≠ g2 → ((W5.setCell ⟨g2, 0, none⟩ x).setCell ⟨g2, 1, none⟩ y).heap[g]? = wr.heap[g]? := by
          intro g a1 a2
          rw [Below.heap_setCell _ _ _ _ a2, Below.heap_setCell _ _ _ _ a2, hW5, Below.heap_setCell _ _ _ _ a1]
        refine ⟨own_move r4 (fun k hk => mv k (fun e => hne r4 k (.inl e) hk) (fun e => hne r4 k (.inr e) hk)), own_move r5 (fun k hk => mv k (fun e => hne r5 k (.inl e) hk) (fun e => hne r5 k (.inr e) hk)), ?_⟩
        exact (hbl.setCell (by rw [HG2.out, HG1.out]; exact Nat.le_succ _) _).setCell (by rw [HG2.out, HG1.out]; exact Nat.le_succ _) _
      have q0 : W5.cell? ⟨g2, 0, none⟩ = some (.int .i64 0) := cell_blk hb2 0
      have q1 : W5.cell? ⟨g2, 1, none⟩ = some (.slice none 0 0) := cell_blk hb2 1
      have fq0 : W5.frozen? ⟨g2, 0, none⟩ = false := frozen_blk hb2 0
      have fq1 : W5.frozen? ⟨g2, 1, none⟩ = false := frozen_blk hb2 1
      have r0 : W5.cell? ⟨g1, 0, none⟩ = some (.int .i64 c) := cell_blk hb1 0
      have r1 : W5.cell? ⟨g1, 1, none⟩ = some (.slice q m4 c4) := cell_blk hb1 1
      have v0 : ((W5.setCell ⟨g2, 0, none⟩ (.int .i64 c)).setCell ⟨g2, 1, none⟩ (.slice q m4 c4)).cell? ⟨g2, 0, none⟩ = some (.int .i64 c) := by
        rw [cell_blk (blk_set (blk_set hb2 0 _) 1 _)]; rfl
      have v1 : ((W5.setCell ⟨g2, 0, none⟩ (.int .i64 c)).setCell ⟨g2, 1, none⟩ (.slice q m4 c4)).cell? ⟨g2, 1, none⟩ = some (.slice q m4 c4) := by
        rw [cell_blk (blk_set (blk_set hb2 0 _) 1 _)]; rfl
      clear hW5 hb1 hb2 hbl p0 p1 f1 h12 hne
      go_wp2_with fail
      exact bodyPost_ret (v := .tuple #[.agg #[.int .i64 c, .slice q m4 c4], u5]) (by simp [results, Tryd.results43, go_sem, v0, v1]) rfl ⟨_, _, rfl, (HEND.out _ _).1, (HEND.out _ _).2.1, (HEND.out _ _).2.2⟩
end Go.Proofs.YtdgfnlagbdmniaaDoor.Pl
namespace Go.Proofs.YtdgfnlagbdmniaaDoor.Pl
open Go.RowKit

theorem good_first {cs : List Chunk} (h : Good cs) {c : Chunk} (h0 : cs[0]? = some c) : c.what ≠ 3 := by
  cases cs with
  | nil => cases h0
  | cons x xs =>
    cases h0
    rcases h.cons with ⟨rfl, _⟩ | ⟨h, _⟩ | ⟨size, many, m, zs, _, _, _, rfl, _⟩
    · decide
    · rw [h.what]; decide
    · show (2 : Nat) ≠ 3; decide

/-- The chunk that follows one that is free or has slots is no tail. -/
theorem behind_slots {cs : List Chunk} (h : Good cs) {i : Nat} {c d : Chunk} (hi : cs[i]? = some c) (hw : c.what < 2) (hd : cs[i + 1]? = some d) : d.what ≠ 3 := by
  obtain ⟨_, g2, _⟩ := h.at_ hi (by omega)
  have hd0 : (cs.drop (i + 1))[0]? = some d := by rw [List.getElem?_drop]; exact hd
  rcases g2.cons with ⟨_, g3⟩ | ⟨_, g3⟩ | ⟨size, many, m, zs, _, _, _, rfl, _⟩
  · exact good_first g3 hd0
  · exact good_first g3 hd0
  · simp [headM, headC] at hw

theorem large_tail {cs : List Chunk} (_h : Good cs) {i : Nat} {size : Int} {many : Nat} {m : Bool} (h6 : cs = cs.take i ++ (headM size many m :: List.replicate (many - 1) tailC) ++ cs.drop (i + many)) (hl : i + many ≤ cs.length) {k : Nat} (h1 : i < k) (h2 : k < i + many) : cs[k]? = some tailC := by
  rw [h6, List.getElem?_append_left (by simp; omega), List.getElem?_append_right (by simp; omega)]
  simp only [List.length_take]
  rw [show k - min i cs.length = (k - i - 1) + 1 by omega, List.getElem?_cons_succ, List.getElem?_replicate, if_pos (by omega)]

/-- What an object is, by its place. -/
theorem obj_cases {cs : List Chunk} (h : Good cs) {o : PObj} (ho : o ∈ objs cs) :
    (∃ i s c, cs[i]? = some c ∧ SlotsOk c ∧ s < 32 / 2 ^ c.cls ∧ c.taken.testBit s = true ∧ o.at_ = i * 1024 + s * (32 * 2 ^ c.cls) ∧ o.room = 32 * 2 ^ c.cls ∧ cls o.size = c.cls ∧ o.at_ / 1024 = i) ∨
    (∃ i c many, cs[i]? = some c ∧ c.what = 2 ∧ i + many ≤ cs.length ∧ 1 ≤ many ∧ o.at_ = i * 1024 ∧ o.room = many * 1024 ∧ cls o.size = 5 ∧ ∀ k, i < k → k < i + many → cs[k]? = some tailC) := by
  obtain ⟨i, s, c, ⟨hi, hp⟩, rfl⟩ := mem_objs.1 ho
  rcases hp with ⟨hw, rfl⟩ | ⟨hw, hs, hb⟩
  · right
    obtain ⟨size, many, m, a1, a2, a3, rfl, a5, a6, _, _⟩ := pl_head h hi hw
    exact ⟨i, _, many, hi, hw, a5, by omega, rfl, rfl, cls_five _ a1, fun k h1 h2 => large_tail h a6 a5 h1 h2⟩
  · left
    have hso := pl_slots h hi hw
    obtain ⟨b1, b2, b3⟩ := slot_ok hso i s hs hb
    have hsin := slot_in hso.cls hs
    obtain ⟨z1, z2, z3⟩ := hso.szs s hb
    refine ⟨i, s, c, hi, hso, hs, hb, by rw [obj_slot hw], by rw [obj_slot hw], by rw [obj_slot hw]; exact z3, ?_⟩
    rw [obj_slot hw]
    have : 0 < 32 * 2 ^ c.cls := by have := Nat.pow_pos (a := 2) (n := c.cls) (by decide); omega
    simp only
    omega

def kd (c : Chunk) : Int := if c.what = 0 then -1 else if c.what = 1 then (c.cls : Nat) else if c.what = 2 then 5 else 6

theorem exists_bit {t n : Nat} (h : t < 2 ^ n) (h0 : t ≠ 0) : ∃ s, s < n ∧ t.testBit s = true := by
  obtain ⟨s, hs⟩ := Nat.exists_testBit_of_ne_zero h0
  refine ⟨s, ?_, hs⟩
  apply Classical.byContradiction
  intro hn
  have : t < 2 ^ s := Nat.lt_of_lt_of_le h (Nat.pow_le_pow_right (by decide) (by omega))
  rw [Nat.testBit_lt_two_pow this] at hs
  cases hs

theorem kind_good {cs : List Chunk} (h : Good cs) {k : Nat} {c : Chunk} (hk : cs[k]? = some c) {r : Int} (hr : KindR (objs cs) k r) : r = kd c := by
  have one : ∀ o ∈ objs cs, ∀ q, kindO k o = some q → q = kd c := by
    intro o ho q hq
    rcases obj_cases h ho with ⟨i, s, c', hi, hso, hs, hb, h1, h2, h3, h4⟩ | ⟨i, c', many, hi, hw, hl, hm, h1, h2, h3, h4⟩
    · unfold kindO at hq
      rw [h3, h4] at hq
      have hc := hso.cls
      by_cases e : i = k
      · subst e
        rw [hk] at hi; cases hi
        rw [if_pos ⟨by omega, rfl⟩] at hq
        cases hq
        unfold kd
        rw [if_neg (by rw [hso.what]; decide), if_pos hso.what]
      · rw [if_neg (by omega), if_neg (by omega), if_neg (by omega)] at hq
        cases hq
    · unfold kindO at hq
      rw [h3, h1, h2] at hq
      have e0 : i * 1024 / 1024 = i := by omega
      rw [e0, if_neg (by omega)] at hq
      by_cases e : i = k
      · subst e
        rw [hk] at hi; cases hi
        rw [if_pos ⟨rfl, rfl⟩] at hq
        cases hq
        unfold kd
        rw [if_neg (by omega), if_neg (by omega), if_pos hw]
      · rw [if_neg (by omega)] at hq
        by_cases e2 : i < k ∧ k < i + many
        · rw [if_pos ⟨rfl, e2.1, by omega⟩] at hq
          cases hq
          have := h4 k e2.1 e2.2
          rw [hk] at this; cases this
          rfl
        · rw [if_neg (by omega)] at hq
          cases hq
  rcases hr with ⟨o, ho, hq⟩ | ⟨hn, rfl⟩
  · exact one o ho r hq
  · have h3 := (h.what c (List.mem_of_getElem? hk)).1
    by_cases w0 : c.what = 0
    · unfold kd; rw [if_pos w0]
    · exfalso
      by_cases w1 : c.what = 1
      · have hso := pl_slots h hk w1
        obtain ⟨s, hs, hb⟩ := exists_bit hso.taken hso.pos
        have hm : objOf c k s ∈ objs cs := mem_objs.2 ⟨k, s, c, ⟨hk, .inr ⟨w1, hs, hb⟩⟩, rfl⟩
        have := hn _ hm
        obtain ⟨z1, z2, z3⟩ := hso.szs s hb
        have hsin := slot_in hso.cls hs
        have hz : 0 < 32 * 2 ^ c.cls := by have := Nat.pow_pos (a := 2) (n := c.cls) (by decide); omega
        have hcl := hso.cls
        rw [obj_slot w1] at this
        unfold kindO at this
        simp only at this
        rw [z3, if_pos ⟨by omega, by omega⟩] at this
        cases this
      · by_cases w2 : c.what = 2
        · obtain ⟨size, many, m, a1, a2, a3, rfl, a5, a6, _, _⟩ := pl_head h hk w2
          have hm : objOf (headM size many m) k 0 ∈ objs cs := mem_objs.2 ⟨k, 0, _, ⟨hk, .inl ⟨w2, rfl⟩⟩, rfl⟩
          have := hn _ hm
          have e : objOf (headM size many m) k 0 = ⟨k * 1024, size, many * 1024, m⟩ := rfl
          rw [e] at this
          unfold kindO at this
          simp only at this
          rw [cls_five _ a1, if_neg (by omega), if_pos ⟨rfl, by omega⟩] at this
          cases this
        · have w3 : c.what = 3 := by omega
          have hlt := (List.getElem?_eq_some_iff.1 hk).1
          obtain ⟨hd, d, a1, a2, a3, a4⟩ := head_of h k hlt
          have hne : hd ≠ k := by rintro rfl; rw [hk] at a2; cases a2; omega
          by_cases d2 : d.what = 2
          · obtain ⟨size, many, m, b1, b2, b3, rfl, b5, b6, _, b8⟩ := pl_head h a2 d2
            have hkm : k < hd + many := by
              apply Classical.byContradiction
              intro hge
              obtain ⟨e, e1, e2⟩ := a4 (hd + many) (by omega) (by omega)
              have e0 : (cs.drop (hd + many))[0]? = some e := by rw [List.getElem?_drop]; exact e1
              exact good_first b8 e0 e2
            have hm : objOf (headM size many m) hd 0 ∈ objs cs := mem_objs.2 ⟨hd, 0, _, ⟨a2, .inl ⟨d2, rfl⟩⟩, rfl⟩
            have := hn _ hm
            have e : objOf (headM size many m) hd 0 = ⟨hd * 1024, size, many * 1024, m⟩ := rfl
            rw [e] at this
            unfold kindO at this
            simp only at this
            rw [cls_five _ b1, if_neg (by omega), if_neg (by omega), if_pos ⟨rfl, by omega, by omega⟩] at this
            cases this
          · obtain ⟨e, e1, e2⟩ := a4 (hd + 1) (by omega) (by omega)
            exact behind_slots h a2 (by omega) e1 e2

theorem holder_good {cs : List Chunk} (h : Good cs) {k s : Nat} {c : Chunk} (hk : cs[k]? = some c) (hw : c.what = 1) (hs : s < 32 / 2 ^ c.cls) {r : Int}
    (hr : (∃ (i : Nat) (o : PObj), (objs cs)[i]? = some o ∧ hits ((k * 1024 + s * (32 * 2 ^ c.cls) : Nat) : Int) o ∧ r = i) ∨ ((∀ o ∈ objs cs, ¬ hits ((k * 1024 + s * (32 * 2 ^ c.cls) : Nat) : Int) o) ∧ r = -1)) :
    decide (r < 0) = !c.taken.testBit s := by
  have hso := pl_slots h hk hw
  have hsin := slot_in hso.cls hs
  have hz : 0 < 32 * 2 ^ c.cls := by have := Nat.pow_pos (a := 2) (n := c.cls) (by decide); omega
  cases hb : c.taken.testBit s with
  | true =>
    rcases hr with ⟨i, o, _, _, rfl⟩ | ⟨hn, _⟩
    · simp
    · have hm : objOf c k s ∈ objs cs := mem_objs.2 ⟨k, s, c, ⟨hk, .inr ⟨hw, hs, hb⟩⟩, rfl⟩
      exfalso
      apply hn _ hm
      rw [obj_slot hw]
      exact ⟨Int.le_refl _, by simp only; omega⟩
  | false =>
    rcases hr with ⟨j, o, ho, hh, rfl⟩ | ⟨_, rfl⟩
    · exfalso
      obtain ⟨u1, u2⟩ := hh
      rcases obj_cases h (List.mem_of_getElem? ho) with ⟨i, t, c', hi, hso', ht, hb', h1, h2, h3, h4⟩ | ⟨i, c', many, hi, hw', hl, hm, h1, h2, h3, h4⟩
      · have hsin' := slot_in hso'.cls ht
        have e : i = k := by omega
        subst e
        rw [hk] at hi; cases hi
        rw [h1] at u1 u2
        rw [h2] at u2
        generalize 32 * 2 ^ c.cls = z at *
        have e2 : t = s := by
          apply Classical.byContradiction
          intro hne
          rcases Nat.lt_or_ge t s with hlt | hge
          · have := Nat.mul_le_mul_right z (show t + 1 ≤ s from hlt)
            rw [Nat.add_mul] at this
            omega
          · have := Nat.mul_le_mul_right z (show s + 1 ≤ t by omega)
            rw [Nat.add_mul] at this
            omega
        rw [e2, hb] at hb'; cases hb'
      · by_cases e : i = k
        · subst e; rw [hk] at hi; cases hi; omega
        · have := h4 k (by omega) (by omega)
          rw [hk] at this; cases this
          simp [tailC] at hw
    · simp
end Go.Proofs.YtdgfnlagbdmniaaDoor.Pl
namespace Go.Proofs.YtdgfnlagbdmniaaDoor.Pl
open Go.RowKit Go.Proofs.YtdgfnlagbdmniaaDoor.PPoolRuns Go.Proofs.YtdgfnlagbdmniaaDoorW.PrintWords Go.Proofs.YtdgfnlagbdmniaaDoorW.PrintLast Go.Proofs.YtdgfnlagbdmniaaDoorW.PrintMore

theorem good_fit {cs : List Chunk} (hG : Good cs) (hN : cs.length ≤ 256) : Fit (objs cs) :=
  ⟨(hG.small hN).1, fun o ho => ⟨(obj_in hG ho).1, by have := (obj_in hG ho).2; omega⟩⟩

def RAllocPost (cs : List Chunk) (size : Int) (v : Value) (w : World) (e : Ending) (w' : World) : Prop :=
  Below w.heap.size w w' ∧ match allocC cs size with
    | some (_, x) => ∃ u m, e = .returned (.tuple #[.agg #[.int .i64 cs.length, u], .int .i64 (x : Int), .int .i64 0]) ∧ k109.R 109 w' w.heap.size (fun _ => True) u (m.map toS) ∧ Ins (objs cs) m ⟨x, size, roomOf size, false⟩
    | none => e = .returned (.tuple #[.agg #[.int .i64 cs.length, v], .int .i64 0, .int .i64 8])

theorem kind_at {cs : List Chunk} (hG : Good cs) (hN : cs.length ≤ 256) {A : Option Addr} {n cap : Nat} {w : World} {base : Nat} {ok : Nat → Prop} (hR : k109.R 109 w base ok (.slice A n cap) ((objs cs).map toS))
    (c : Int) (k : Nat) (ch : Chunk) (hk : cs[k]? = some ch) (X : Int) (hX : X = (k : Int)) (W : World) (hB : Below w.heap.size w W) :
    Calls Tryd.prog 48 #[.agg #[.int .i64 c, .slice A n cap], .int .i64 X] W fun e W' => e = .returned (.int .i64 (kd ch)) ∧ Below W.heap.size W W' := by
  obtain ⟨hl, hc, hC⟩ := Kd.R_reads' hR
  have hC' := Kd.C_below hC hB
  have hlt := (List.getElem?_eq_some_iff.1 hk).1
  obtain ⟨f, r, h, hr⟩ := kind_f c (objs cs) (good_fit hG hN) k (by omega)
  have e := kind_good hG hk hr
  subst e
  subst hX
  subst hl
  exact hackamoreref32_kind.calls f c A cap _ _ _ W hC' hc h

theorem holder_at {cs : List Chunk} (hG : Good cs) (hN : cs.length ≤ 256) {A : Option Addr} {n cap : Nat} {w : World} {base : Nat} {ok : Nat → Prop} (hR : k109.R 109 w base ok (.slice A n cap) ((objs cs).map toS))
    (c : Int) (k s : Nat) (ch : Chunk) (hk : cs[k]? = some ch) (hw : ch.what = 1) (hs : s < 32 / 2 ^ ch.cls) (ad : Int) (had : ad = ((k * 1024 + s * (32 * 2 ^ ch.cls) : Nat) : Int)) (W : World) (hB : Below w.heap.size w W) :
    Calls Tryd.prog 49 #[.agg #[.int .i64 c, .slice A n cap], .int .i64 ad] W fun e W' => ∃ r, e = .returned (.int .i64 r) ∧ decide (r < 0) = (!ch.taken.testBit s) ∧ Below W.heap.size W W' := by
  obtain ⟨hl, hc, hC⟩ := Kd.R_reads' hR
  have hC' := Kd.C_below hC hB
  subst had
  obtain ⟨f, r, h, hr⟩ := holder_f c (objs cs) (good_fit hG hN) ((k * 1024 + s * (32 * 2 ^ ch.cls) : Nat) : Int)
  have e := holder_good hG hk hw hs hr
  subst hl
  exact (hackamoreref32_holder.calls f c A cap _ _ _ W hC' hc h).mono fun _ _ h => ⟨r, h.1, e, h.2⟩

theorem put_at {cs : List Chunk} (hG : Good cs) (hN : cs.length ≤ 256) {A : Option Addr} {n cap : Nat} {w : World} {base : Nat} {ok : Nat → Prop} (hR : k109.R 109 w base ok (.slice A n cap) ((objs cs).map toS))
    (c : Int) (x : Nat) (size : Int) (X : Int) (hX : X = (x : Int)) (W : World) (hB : Below w.heap.size w W) :
    Calls Tryd.prog 50 #[.agg #[.int .i64 c, .slice A n cap], .agg #[.int .i64 X, .int .i64 size, .bool false]] W fun e W' => ∃ u m, e = .returned (.agg #[.int .i64 c, u]) ∧ k109.R 109 W' w.heap.size (fun _ => True) u (m.map toS) ∧ Ins (objs cs) m ⟨x, size, roomOf size, false⟩ ∧ Below W.heap.size W W' := by
  obtain ⟨hl, hc, hC⟩ := Kd.R_reads' hR
  have hC' := Kd.C_below hC hB
  subst hX
  obtain ⟨f, m, h, hm⟩ := put_f c (objs cs) (good_fit hG hN).1 ⟨x, size, roomOf size, false⟩
  subst hl
  exact (hackamoreref32_put.calls f c A cap _ _ _ _ _ _ W hC' hc h).mono fun _ _ h => by
    obtain ⟨u, h1, h2, h3⟩ := h
    exact ⟨u, m, h1, Kd.R_lower h2 hB.size, hm, h3⟩

/-- The boxes of Alloc. -/
structure SA (w : World) (N : Nat) (v : Value) (g1 g2 : Nat) (W : World) : Prop where
  below : Below w.heap.size w W
  b1 : W.heap[g1]? = some (.cells #[.int .i64 N, v] 57 (0, 0))
  b2 : W.heap[g2]? = some (.cells #[.int .i64 0, .slice none 0 0] 57 (0, 0))
theorem SA.step {w : World} {N : Nat} {v : Value} {g1 g2 : Nat} {W W' : World} (h : SA w N v g1 g2 W) (hb : Below W.heap.size W W') : SA w N v g1 g2 W' :=
  ⟨h.below.trans (hb.mono h.below.size), (hb.block g1 (blk_lt h.b1)).trans h.b1, (hb.block g2 (blk_lt h.b2)).trans h.b2⟩

theorem find_one (cs : List Chunk) : findRun cs 1 = freeIdx cs := by
  unfold findRun freeIdx
  rw [show cs.length + 1 - 1 = cs.length by omega]
  congr 1
  funext i
  simp [freeRun]

theorem low0_is {t n s : Nat} (ht : t < 2 ^ n) (hn : n ≤ 32) (hs : s < n) (h0 : t.testBit s = false) (h1 : ∀ j, j < s → t.testBit j = true) : low0 t = s ∧ t ≠ 2 ^ n - 1 := by
  have hne : t ≠ 2 ^ n - 1 := by
    rintro rfl
    rw [Nat.testBit_two_pow_sub_one] at h0
    simp at h0; omega
  have hlow := low0_lt hn ht hne
  have h32 : t < 4294967296 := by
    have : 2 ^ n ≤ 2 ^ 32 := Nat.pow_le_pow_right (by decide) hn
    omega
  have hn32 : t ≠ 4294967295 := by
    rintro rfl
    have : low0 4294967295 = 32 := by decide
    omega
  obtain ⟨_, b1, b2⟩ := low0_bits h32 hn32
  refine ⟨?_, hne⟩
  rcases Nat.lt_trichotomy (low0 t) s with h | h | h
  · rw [h1 _ h] at b1; cases b1
  · exact h
  · rw [b2 _ h] at h0; cases h0

theorem all_full {t n : Nat} (ht : t < 2 ^ n) (h : ∀ j, j < n → t.testBit j = true) : t = 2 ^ n - 1 := by
  apply Nat.eq_of_testBit_eq
  intro j
  rw [Nat.testBit_two_pow_sub_one]
  by_cases hj : j < n
  · rw [h j hj]; simp [hj]
  · rw [Nat.testBit_lt_two_pow (Nat.lt_of_lt_of_le ht (Nat.pow_le_pow_right (by decide) (by omega)))]
    simp [hj]

theorem small_found {cs : List Chunk} (hG : Good cs) {size : Int} {k s : Nat} {ch : Chunk} (hk : cs[k]? = some ch) (hw : ch.what = 1) (hc : ch.cls = cls size) (hlt : cls size < 5) (hno : ∀ j, j < k → room (cs.getD j Chunk.zero) (cls size) = false)
    (hs : s < 32 / 2 ^ ch.cls) (h0 : ch.taken.testBit s = false) (h1 : ∀ j, j < s → ch.taken.testBit j = true) : ∃ cs', allocC cs size = some (cs', k * 1024 + s * (32 * 2 ^ ch.cls)) := by
  have hso := pl_slots hG hk hw
  have hlen := (List.getElem?_eq_some_iff.1 hk).1
  obtain ⟨e, hne⟩ := low0_is hso.taken (Nat.div_le_self _ _) hs h0 h1
  have eg : cs.getD k Chunk.zero = ch := by simp [List.getD, hk]
  have hf : firstRoom cs (cls size) = some k := by
    unfold firstRoom
    rw [List.find?_range_eq_some]
    refine ⟨?_, by simpa using hlen, fun j hj => by simpa using hno j hj⟩
    rw [eg]
    simp only [room, hw, hc]
    simp
    intro e; apply hne; rw [e, hc]; rfl
  unfold allocC
  rw [if_neg (by omega), hf]
  simp only [eg, e, ← hc]
  exact ⟨_, rfl⟩

theorem small_next {cs : List Chunk} (hG : Good cs) {k c : Nat} {ch : Chunk} (hk : cs[k]? = some ch) (hf : ch.what = 1 → ch.cls = c → ∀ j, j < 32 / 2 ^ c → ch.taken.testBit j = true) : room (cs.getD k Chunk.zero) c = false := by
  have eg : cs.getD k Chunk.zero = ch := by simp [List.getD, hk]
  rw [eg]
  by_cases hw : ch.what = 1
  · by_cases hc : ch.cls = c
    · have hso := pl_slots hG hk hw
      have := all_full hso.taken (by rw [hc]; exact hf hw hc)
      simp [room, hw, hc, this, full]
    · simp [room, hc]
  · simp [room, hw]

/-- What the search for free chunks finds is what Alloc takes. -/
def Takes (cs : List Chunk) (size : Int) (n : Nat) : Prop := (∀ i, findRun cs n = some i → ∃ cs', allocC cs size = some (cs', i * 1024)) ∧ (findRun cs n = none → allocC cs size = none)
theorem takes_small {cs : List Chunk} {size : Int} (hlt : cls size < 5) (h : ∀ j, j < cs.length → room (cs.getD j Chunk.zero) (cls size) = false) : Takes cs size 1 := by
  have hf : firstRoom cs (cls size) = none := by
    unfold firstRoom
    rw [List.find?_eq_none]
    intro j hj
    simp at hj
    rw [h j hj]; simp
  unfold Takes allocC
  rw [if_neg (by omega), hf, find_one]
  constructor
  · intro i hi; rw [hi]; exact ⟨_, rfl⟩
  · intro hi; rw [hi]
theorem takes_large {cs : List Chunk} {size : Int} (h5 : cls size = 5) : Takes cs size ((size + 1023) / 1024).toNat := by
  unfold Takes allocC
  rw [if_pos h5]
  constructor
  · intro i hi; rw [hi]; exact ⟨_, rfl⟩
  · intro hi; rw [hi]

theorem run_all {cs : List Chunk} {k n : Nat} {b : Bool} (h : b = (List.range n).all fun i => (cs.getD (k + i) Chunk.zero).what == 0) : b = freeRun cs k n := h
theorem run_found {cs : List Chunk} {k n : Nat} (hkn : k + n ≤ cs.length) (h : freeRun cs k n = true) (hno : ∀ j, j < k → freeRun cs j n = false) : findRun cs n = some k := by
  unfold findRun
  rw [List.find?_range_eq_some]
  exact ⟨h, by simp; omega, fun j hj => by simp [hno j hj]⟩
theorem run_none {cs : List Chunk} {k n : Nat} (hkn : cs.length < k + n) (hno : ∀ j, j < k → freeRun cs j n = false) : findRun cs n = none := by
  unfold findRun
  rw [List.find?_eq_none]
  intro j hj
  simp at hj
  simp [hno j (by omega)]
end Go.Proofs.YtdgfnlagbdmniaaDoor.Pl
