/- Mailbox: Check. -/
import Derived.Test.YtgbafpjeapkklaaMe
namespace Go.Proofs.Ytgbafpjeapkklaa.Mb
open Go.RowKit
set_option linter.unusedVariables false
set_option linter.unusedSimpArgs false

theorem zero3 (w : World) : (zeroValue 3).run Try.prog w = .ok (.int .i64 0) w := by kernel_rfl
theorem und119 : Try.prog.underlying 119 = some (.map 3 3) := by kernel_rfl

theorem mk_map (t : TypeId) (w : World) : (Instr.makeMap t none).run Try.prog w = .ok (.map (some w.heap.size)) (w.alloc (.map #[] 0)) := by
  simp [Instr.makeMap, Result.andThen]

/-- Check's memory in the first loop. -/
structure C1 (w : World) (q : Q) (ns ps : Value) (g r k : Nat) (W : World) : Prop where
  bx : Bx w q ns ps g W
  map : MapI W r (befs q k)
  low : w.heap.size ≤ r
theorem MapI.below {W W' : World} {r : Nat} {l : List (Int × Value)} (h : MapI W r l) (hb : Below W.heap.size W W') : MapI W' r l := by
  obtain ⟨es, c, h1, h2⟩ := h
  exact ⟨es, c, (hb.block r (blk_lt h1)).trans h1, h2⟩
theorem C1.step {w : World} {q : Q} {ns ps : Value} {g r k : Nat} {W W' : World} (h : C1 w q ns ps g r k W) (hb : Below W.heap.size W W') : C1 w q ns ps g r k W' :=
  ⟨h.bx.step hb, h.map.below hb, h.low⟩
theorem C1.look {w : World} {q : Q} {ns ps : Value} {g r k : Nat} {W : World} (h : C1 w q ns ps g r k W) (hq : WF q) {p : Nat} {o : Int × Nat} (hp : q.opn[p]? = some o) (hk : k ≤ q.opn.length) (x : Int) (hx : x = (o.2 : Int) - 1) :
    (Instr.lookup 119 (.map (some r)) (.int .i64 x) true).run Try.prog W = .ok (.tuple #[.int .i64 (if p < k then (p : Int) else 0), .bool (decide (p < k))]) W := by
  subst hx
  rw [Mb.look h.map 119 3 (.int .i64 0) und119 (zero3 W), befs_find hq hp k hk]
  by_cases hpk : p < k
  · simp [hpk]
  · simp [hpk]
theorem C1.put {w : World} {q : Q} {ns ps : Value} {g r k : Nat} {W : World} (h : C1 w q ns ps g r k W) (hq : WF q) {o : Int × Nat} (hp : q.opn[k]? = some o) (x : Int) (hx : x = (o.2 : Int) - 1) :
    ∃ W', (Instr.mapUpdate 119 (.map (some r)) (.int .i64 x) (.int .i64 (k : Int))).run Try.prog W = .ok () W' ∧ C1 w q ns ps g r (k + 1) W' := by
  subst hx
  obtain ⟨W', h1, h2, h3, h4, h5, h6, h7⟩ := put_new h.map 119 3 und119 ((o.2 : Int) - 1) (.int .i64 (k : Int)) (by rw [befs_find hq hp k (by have := (List.getElem?_eq_some_iff.1 hp).1; omega), if_neg (by omega)])
  obtain ⟨es, clock, hm, _⟩ := h.map
  have ng : g ≠ r := by rintro rfl; have := h.bx.box; rw [hm] at this; cases this
  refine ⟨W', h1, ⟨⟨?_, (h7 g ng).trans h.bx.box⟩, by rw [← befs_snoc hp]; exact h2, h.low⟩⟩
  exact h.bx.below.trans ⟨h4, h5, h6, Nat.le_of_eq h3.symm, fun k hk => h7 k (by have := h.low; omega)⟩

theorem run_len_map {w : World} {r : Nat} {l : List (Int × Value)} (h : MapI w r l) (t e ty : TypeId) (ht : Try.prog.underlying t = some (.map 3 e)) :
    (Builtin.len_ #[t] ty #[.map (some r)]).run Try.prog w = .ok (.int .i64 l.length) w := by
  obtain ⟨es, clock, h1, h2⟩ := h
  have hl : es.size = l.length := by
    have := congrArg List.length h2
    simpa using this
  simp [Builtin.len_, run_underlying ht, MapKept.run_getObj_map h1, goInt, hl]
theorem look_bef {W : World} {q : Q} {r k : Nat} (h : MapI W r (befs q k)) (hq : WF q) {p : Nat} {o : Int × Nat} (hp : q.opn[p]? = some o) (hpk : p < k) (hk : k ≤ q.opn.length) (x : Int) (hx : x = (o.2 : Int) - 1) :
    (Instr.lookup 119 (.map (some r)) (.int .i64 x) true).run Try.prog W = .ok (.tuple #[.int .i64 p, .bool true]) W := by
  subst hx
  rw [Mb.look h 119 3 (.int .i64 0) und119 (zero3 W), befs_find hq hp k hk]
  simp [hpk]

set_option maxRecDepth 100000 in
set_option maxHeartbeats 4000000 in
theorem check_at {q : Q} (hq : WF q) (ns ps : Value) (w : World) (hn : Tri w ns q.nodes) (hp : Tri w ps q.pushes) :
    Calls Try.prog 18 #[.agg #[ns, .int .i64 q.m, .int .i64 q.done, ps, .bool q.empty]] w fun e w' => e = .returned (.int .i64 0) ∧ Below w.heap.size w w' := by
  obtain ⟨A, cap, hA⟩ := hn.slice
  obtain ⟨B, cap2, hB⟩ := hp.slice
  subst hA
  subst hB
  rw [nodes_len] at hn ⊢
  rw [pushes_len] at hp ⊢
  have HNT := Lib.hid hn; clear hn
  have HPT := Lib.hid hp; clear hp
  have HQ := Lib.hid hq
  have hfew := hq.few
  have hfo := hq.fewo
  have HFM : Hid (∀ W, Bx w q (.slice A (q.m + 1) cap) (.slice B q.opn.length cap2) w.heap.size W → Calls Try.prog 53 #[.agg #[.slice A (q.m + 1) cap, .int .i64 q.m, .int .i64 q.done, .slice B q.opn.length cap2, .bool q.empty]] W fun e w' => e = .returned (.bool true) ∧ Below W.heap.size W w') :=
    fun W h => formed_at HQ.out _ _ W (HNT.out.below h.below) (HPT.out.below h.below)
  have HF : Hid (∀ W, Bx w q (.slice A (q.m + 1) cap) (.slice B q.opn.length cap2) w.heap.size W → W.cell? ⟨w.heap.size, 0, none⟩ = some (.slice A (q.m + 1) cap) ∧ W.cell? ⟨w.heap.size, 1, none⟩ = some (.int .i64 q.m) ∧ W.cell? ⟨w.heap.size, 2, none⟩ = some (.int .i64 q.done) ∧ W.cell? ⟨w.heap.size, 3, none⟩ = some (.slice B q.opn.length cap2) ∧ W.cell? ⟨w.heap.size, 4, none⟩ = some (.bool q.empty)) := fun W h => h.facts
  have HS0 : Hid (Bx w q (.slice A (q.m + 1) cap) (.slice B q.opn.length cap2) w.heap.size (w.alloc (Obj.cells #[.slice A (q.m + 1) cap, .int .i64 q.m, .int .i64 q.done, .slice B q.opn.length cap2, .bool q.empty] 28))) :=
    ⟨(Below.refl _ _).alloc (Nat.le_refl _) _, (MapKept.heap_alloc _ _).1⟩
  clear hq
  generalize hM : q.m = M at *
  have HM := Lib.hid hM; clear hM
  generalize hP : q.opn.length = PN at *
  have HPN := Lib.hid hP; clear hP
  go_enter Try.func18, Try.ntmps18
  go_upto_region 1 with fail
  generalize (w.alloc (Obj.cells #[.slice A (M + 1) cap, .int .i64 M, .int .i64 q.done, .slice B PN cap2, .bool q.empty] 28)) = W0 at *
  obtain ⟨c0, c1, c2, c3, c4⟩ := HF.out _ HS0.out
  go_wp2_with fail
  refine (HFM.out _ HS0.out).mono ?_
  rintro e W1 ⟨rfl, hb1⟩
  have HS1 := Lib.hid (HS0.out.step hb1)
  clear hb1 c0 c1 c2 c3 c4
  have hmk := mk_map 119 W1
  go_upto_region 4 with fail
  clear hmk
  obtain ⟨r1, hr1⟩ : ∃ r1, r1 = W1.heap.size := ⟨_, rfl⟩
  obtain ⟨W2, hW2⟩ : ∃ W2, W2 = W1.alloc (Obj.map #[] 0) := ⟨_, rfl⟩
  rw [← hW2, ← hr1]
  have hb2 : Below W1.heap.size W1 W2 := by rw [hW2]; exact (Below.refl _ _).alloc (Nat.le_refl _) _
  have HC1 : Hid (C1 w q (.slice A (M + 1) cap) (.slice B PN cap2) w.heap.size r1 0 W2) :=
    ⟨HS1.out.step hb2, ⟨#[], 0, by rw [hW2, hr1]; exact (MapKept.heap_alloc _ _).1, by simp [befs]⟩, by rw [hr1]; exact HS1.out.below.size⟩
  clear hb2 hW2 hr1
  obtain ⟨c0, c1, c2, c3, c4⟩ := HF.out _ HC1.out.bx
  go_wp2_with fail
  clear c0 c1 c2 c3 c4
  go_loopw [21] (fun s21 wr => ∃ k : Nat, k ≤ PN ∧ s21 = .int .i64 k ∧ C1 w q (.slice A (M + 1) cap) (.slice B PN cap2) w.heap.size r1 k wr) (fun s21 _ => PN - (intOf s21).toNat)
  case atStart => exact ⟨0, by omega, rfl, HC1.out⟩
  case round =>
    obtain ⟨k, hk, rfl, hS⟩ := hrel
    have HS := Lib.hid hS; clear hS
    by_cases hlt : k < PN
    · have tl : decide ((k : Int) < (PN : Int)) = true := decide_eq_true (by omega)
      obtain ⟨o, ho⟩ : ∃ o, q.opn[k]? = some o := ⟨q.opn[k]'(by rw [HPN.out]; exact hlt), by simp⟩
      obtain ⟨r1', r2, _, _⟩ := HQ.out.opn o (List.mem_of_getElem? ho)
      obtain ⟨p, cp, hpe, hcp', hp'⟩ := HPT.out
      injection hpe with e1 e2 e3
      subst e1
      obtain ⟨gp, offp, rfl, hgp, hcp⟩ : ∃ g off, B = some ⟨g, off, none⟩ ∧ g < w.heap.size ∧
          ∀ (k : Nat) (x : Int × Int × Int), q.pushes[k]? = some x → w.cell? ⟨g, off + k * 3, none⟩ = some (.int .i64 x.1) ∧ w.cell? ⟨g, off + k * 3 + 1, none⟩ = some (.int .i64 x.2.1) ∧ w.cell? ⟨g, off + k * 3 + 2, none⟩ = some (.int .i64 x.2.2) := by
        rcases hp' with h | h
        · have := pushes_len q; rw [h, HPN.out] at this; simp at this; omega
        · exact h
      obtain ⟨z0, z1, z2⟩ := hcp k _ (pushes_get ho)
      obtain ⟨op, oj⟩ := o
      simp only at r1' z0 z1 z2
      obtain ⟨bj, hbj⟩ : ∃ bj : Int, bj = (oj : Int) - 1 := ⟨_, rfl⟩
      rw [← hbj] at z1
      have d0 : wr.cell? ⟨gp, offp + k * 3, none⟩ = some (.int .i64 op) := (HS.out.bx.below.cell (p := ⟨gp, offp + k * 3, none⟩) hgp).trans z0
      have d1 : wr.cell? ⟨gp, offp + k * 3 + 1, none⟩ = some (.int .i64 bj) := (HS.out.bx.below.cell (p := ⟨gp, offp + k * 3 + 1, none⟩) hgp).trans z1
      have d2 : wr.cell? ⟨gp, offp + k * 3 + 2, none⟩ = some (.int .i64 (oj : Int)) := (HS.out.bx.below.cell (p := ⟨gp, offp + k * 3 + 2, none⟩) hgp).trans z2
      have HO := Lib.hid ho
      have HBJ := Lib.hid hbj
      clear ho hbj z0 z1 z2 hcp e2 e3 hcp' hp' r1' r2
      go_upto_region 7 with fail
      obtain ⟨X, hX⟩ : ∃ X, X = wr.heap.size := ⟨_, rfl⟩
      obtain ⟨W5, hW5⟩ : ∃ W5, W5 = wr.alloc (Obj.cells #[.int .i64 op, .int .i64 bj, .int .i64 (oj : Int)] 102) := ⟨_, rfl⟩
      rw [← hW5, ← hX]
      have hb5 : Below wr.heap.size wr W5 := by rw [hW5]; exact (Below.refl _ _).alloc (Nat.le_refl _) _
      have hx5 : W5.heap[X]? = some (.cells #[.int .i64 op, .int .i64 bj, .int .i64 (oj : Int)] 102 (0, 0)) := by rw [hW5, hX]; exact (MapKept.heap_alloc _ _).1
      have HS5 := Lib.hid (HS.out.step hb5)
      have x1 : W5.cell? ⟨X, 1, none⟩ = some (.int .i64 bj) := cell_blk hx5 1
      have hlk := HS5.out.look HQ.out HO.out (by rw [HPN.out]; omega) bj HBJ.out
      rw [if_neg (by omega : ¬ k < k), decide_eq_false (by omega : ¬ k < k)] at hlk
      obtain ⟨W6, hput, hW6⟩ := HS5.out.put HQ.out HO.out bj HBJ.out
      have HS6 := Lib.hid hW6; clear hW6
      clear hb5 hx5 hW5 hX d0 d1 d2
      go_wp2_with fail
      go_roundw
      case rel => exact ⟨k + 1, by omega, by go_num, HS6.out⟩
      case measure => simp [intOf]; omega
    · have tl : decide ((k : Int) < (PN : Int)) = false := decide_eq_false (by omega)
      obtain rfl : k = PN := by omega
      obtain ⟨wq, hwq⟩ : ∃ x, x = wr := ⟨_, rfl⟩
      subst hwq
      obtain ⟨b0, b1⟩ := HS.out
      clear HFM HF HS0 HS1 HC1 HS hk hlt tl
      have HN : Hid (Tri wq (.slice A (M + 1) cap) q.nodes) := HNT.out.below b0.below
      have HP : Hid (Tri wq (.slice B k cap2) q.pushes) := HPT.out.below b0.below
      obtain ⟨gn, offn, rfl⟩ : ∃ g off, A = some ⟨g, off, none⟩ := by
        obtain ⟨p, c, hpe, _, hp'⟩ := HN.out
        injection hpe with e1 e2 e3
        subst e1
        rcases hp' with h | ⟨g, off, rfl, _⟩
        · have := nodes_len q; rw [h] at this; simp at this
        · exact ⟨g, off, rfl⟩
      have HCH : Hid (∀ (gs r a e : Nat) (W : World), Fin q a e → CM wq q (.slice (some ⟨gn, offn, none⟩) (M + 1) cap) (.slice B k cap2) w.heap.size gs r a W →
          Calls Try.prog 54 #[.int .i64 a, .pointer (some ⟨gs, 0, none⟩), .pointer (some ⟨w.heap.size, 0, none⟩)] W fun en W' => en = .returned (.tuple #[.int .i64 e, .bool true]) ∧ CM wq q (.slice (some ⟨gn, offn, none⟩) (M + 1) cap) (.slice B k cap2) w.heap.size gs r (e + 1) W') := by
        intro gs r a e W hf hc
        have hM := HM.out
        subst hM
        exact chain_at HN.out w.heap.size gs r a e hf.1 hf.2.1 hfew hf.2.2.1 hf.2.2.2 W hc
      have HF : Hid (∀ W gs r a, CM wq q (.slice (some ⟨gn, offn, none⟩) (M + 1) cap) (.slice B k cap2) w.heap.size gs r a W → W.cell? ⟨w.heap.size, 0, none⟩ = some (.slice (some ⟨gn, offn, none⟩) (M + 1) cap) ∧ W.cell? ⟨w.heap.size, 1, none⟩ = some (.int .i64 M) ∧ W.cell? ⟨w.heap.size, 2, none⟩ = some (.int .i64 q.done) ∧ W.cell? ⟨w.heap.size, 3, none⟩ = some (.slice B k cap2) ∧ W.cell? ⟨w.heap.size, 4, none⟩ = some (.bool q.empty) ∧ W.cell? ⟨gs, 0, none⟩ = some (.map (some r))) := by
        intro W gs r a hc
        have hM := HM.out
        subst hM
        obtain ⟨f0, f1, f2, f3, f4⟩ := hc.bx.facts
        exact ⟨f0, f1, f2, f3, f4, cell_blk hc.var 0⟩
      obtain ⟨c0, c1, c2, c3, c4⟩ := b0.facts
      rw [HM.out] at c1
      have hmk := mk_map 120 wq
      go_upto_region 14 with fail
      clear hmk c0 c1 c2 c3 c4
      obtain ⟨r, hr⟩ : ∃ r, r = wq.heap.size := ⟨_, rfl⟩
      obtain ⟨W4, hW4⟩ : ∃ W4, W4 = (wq.alloc (Obj.map #[] 0)).alloc (Obj.cells #[Value.map (some wq.heap.size)] 120) := ⟨_, rfl⟩
      rw [← hW4, ← hr]
      have HC0 : Hid (CM wq q (.slice (some ⟨gn, offn, none⟩) (M + 1) cap) (.slice B k cap2) w.heap.size (r + 1) r 0 W4) := by
        have hb1 : Below wq.heap.size wq (wq.alloc (Obj.map #[] 0)) := (Below.refl _ _).alloc (Nat.le_refl _) _
        have hb2 : Below (wq.alloc (Obj.map #[] 0)).heap.size (wq.alloc (Obj.map #[] 0)) W4 := by rw [hW4]; exact (Below.refl _ _).alloc (Nat.le_refl _) _
        have hm : MapI (wq.alloc (Obj.map #[] 0)) r [] := ⟨#[], 0, by rw [hr]; exact (MapKept.heap_alloc _ _).1, rfl⟩
        have hB0 : Bx wq q (.slice (some ⟨gn, offn, none⟩) (M + 1) cap) (.slice B k cap2) w.heap.size wq := ⟨Below.refl _ _, b0.box⟩
        refine ⟨(hB0.step hb1).step hb2, ?_, hm.below hb2, by omega⟩
        have hs : r + 1 = (wq.alloc (Obj.map #[] 0)).heap.size := by simp [hr]
        rw [hW4, hs, hr]
        exact (MapKept.heap_alloc _ _).1
      have HB1 : Hid (MapI wq r1 (befs q k)) := b1
      have HB0 : Hid (Below w.heap.size w wq) := b0.below
      have HRL : Hid (wq.heap.size ≤ r) := Nat.le_of_eq hr.symm
      clear b0 b1 hW4 hr
      obtain ⟨e0, he⟩ := Fin.ex (q := q) (a := 0) (Nat.zero_le _)
      have HE := Lib.hid he; clear he
      go_wp2_with fail
      refine (HCH.out (r + 1) r 0 e0 _ HE.out HC0.out).mono ?_
      rintro en W5 ⟨rfl, hc5⟩
      have HC5 := Lib.hid hc5; clear hc5
      go_upto_region 15 with fail
      obtain ⟨c0, c1, c2, c3, c4, c5⟩ := HF.out _ _ _ _ HC5.out
      have tdone : q.done ≤ e0 := by
        have h1 := HE.out
        have h2 := HQ.out.linked
        have h3 := HQ.out.done
        rcases h1.2.2.1 with h | h
        · omega
        · apply Nat.le_of_not_lt
          intro hlt
          rw [h2 (e0 + 1) (by omega) (by omega)] at h
          cases h
      have hlk := HC5.out.look q.done
      rw [decide_eq_true (by omega : q.done < e0 + 1)] at hlk
      go_wp2_with fail
      clear hlk c0 c1 c2 c3 c4 c5 tdone
      have hcf := cnt_first HQ.out HE.out
      go_loopw [10, 58] (fun s10 s58 wr => ∃ i e : Nat, i ≤ k ∧ e ≤ M ∧ s58 = .int .i64 i ∧ s10 = .int .i64 e ∧ (e = M ∨ q.isOpen (e + 1) = true) ∧ cnt q e = i ∧ CM wq q (.slice (some ⟨gn, offn, none⟩) (M + 1) cap) (.slice B k cap2) w.heap.size (r + 1) r (e + 1) wr) (fun _ s58 _ => k - (intOf s58).toNat)
      case atStart => 
        have h1 := HE.out.2.1
        have h2 := HE.out.2.2.1
        rw [HM.out] at h1 h2
        exact ⟨0, e0, by omega, h1, rfl, rfl, h2, hcf, HC5.out⟩
      case round =>
        clear HC5 HE hcf HC0
        obtain ⟨i, e, hi, hem, rfl, rfl, hen, hcn, hS⟩ := hrel
        have HS := Lib.hid hS; clear hS
        have HCN := Lib.hid hcn; clear hcn
        obtain ⟨c0, c1, c2, c3, c4, c5⟩ := HF.out _ _ _ _ HS.out
        by_cases hlt : i < k
        · have tl : decide ((i : Int) < (k : Int)) = true := decide_eq_true (by omega)
          have hop : q.isOpen (e + 1) = true := by
            rcases hen with h | h
            · have h1 := cnt_all HQ.out
              have h2 := HCN.out
              rw [h, ← HM.out, h1, HPN.out] at h2
              omega
            · exact h
          obtain ⟨p, o, hpo, hoe⟩ := open_mem hop
          have HP1 := Lib.hid hpo
          obtain ⟨op, oj⟩ := o
          simp only at hoe
          subst hoe
          have hpk : p < k := by rw [← HPN.out]; exact (List.getElem?_eq_some_iff.1 hpo).1
          clear hpo hen
          have hlk := look_bef (HB1.out.below HS.out.bx.below) HQ.out HP1.out hpk (by rw [HPN.out]; omega) (e : Int) (by simp)
          obtain ⟨pp, cp, hpe, hcp', hp'⟩ := HP.out
          injection hpe with e1 e2 e3
          subst e1
          obtain ⟨gp, offp, rfl, hgp, hcp⟩ : ∃ g off, B = some ⟨g, off, none⟩ ∧ g < wq.heap.size ∧
              ∀ (k : Nat) (x : Int × Int × Int), q.pushes[k]? = some x → wq.cell? ⟨g, off + k * 3, none⟩ = some (.int .i64 x.1) ∧ wq.cell? ⟨g, off + k * 3 + 1, none⟩ = some (.int .i64 x.2.1) ∧ wq.cell? ⟨g, off + k * 3 + 2, none⟩ = some (.int .i64 x.2.2) := by
            rcases hp' with h | h
            · have := pushes_len q; rw [h, HPN.out] at this; simp at this; omega
            · exact h
          have hz := (hcp p _ (pushes_get HP1.out)).2.2
          have d2 : wr.cell? ⟨gp, offp + p * 3 + 2, none⟩ = some (.int .i64 ((e + 1 : Nat) : Int)) := (HS.out.bx.below.cell (p := ⟨gp, offp + p * 3 + 2, none⟩) hgp).trans hz
          clear hz hcp e2 e3 hcp' hp'
          have pk : (p : Int) < (k : Int) := by omega
          obtain ⟨e', he'⟩ := Fin.ex (q := q) (a := e + 1) (by
            have h1 := HQ.out.opn _ (List.mem_of_getElem? HP1.out)
            exact h1.2.1)
          have HE' := Lib.hid he'; clear he'
          have hcx := cnt_next HQ.out hop HE'.out
          rw [HCN.out] at hcx
          have HCX := Lib.hid hcx; clear hcx
          obtain ⟨ee, hee⟩ : ∃ ee : Int, ee = ((e + 1 : Nat) : Int) := ⟨_, rfl⟩
          rw [← hee] at d2
          go_upto_region 22 with fail
          have hch := HCH.out (r + 1) r (e + 1) e' _ HE'.out HS.out
          rw [show ((e + 1 : Nat) : Int) = (e : Int) + 1 from rfl] at hch
          have h9 : ee = (e : Int) + 1 := by omega
          clear hee
          subst h9
          go_wp2_with fail
          refine hch.mono ?_
          clear hch
          rintro en W6 ⟨rfl, hc6⟩
          have HS6 := Lib.hid hc6; clear hc6
          clear c0 c1 c2 c3 c4 c5 d2 hlk
          have hem' : e' ≤ M := by rw [← HM.out]; exact HE'.out.2.1
          have hen' := HE'.out.2.2.1
          rw [HM.out] at hen'
          have HEN := Lib.hid hen'; clear hen'
          go_wp2_with fail
          go_roundw
          case rel => exact ⟨i + 1, e', by omega, hem', by go_num, rfl, HEN.out, by rw [HCX.out], HS6.out⟩
          case measure => simp [intOf]; omega
        · have tl : decide ((i : Int) < (k : Int)) = false := decide_eq_false (by omega)
          obtain rfl : i = k := by omega
          obtain rfl : e = M := by
            rcases hen with h | h
            · exact h
            · have h1 := cnt_open HQ.out h
              rw [HCN.out, HPN.out] at h1
              omega
          have hlen := run_len_map HS.out.map 120 4 3 und120
          rw [show (seenTo (e + 1)).length = e + 1 by simp [seenTo]] at hlen
          clear hlt hi
          cases hem9 : q.empty with
          | true =>
            have hdm := HQ.out.mt hem9
            rw [hdm, HM.out] at c2
            rw [hem9] at c4
            go_upto_region 26 with fail
            go_wp2_with fail
            go_ret
            exact ⟨rfl, HB0.out.trans (HS.out.bx.below.mono HB0.out.size)⟩
          | false =>
            rw [hem9] at c4
            go_upto_region 26 with fail
            go_wp2_with fail
            go_ret
            exact ⟨rfl, HB0.out.trans (HS.out.bx.below.mono HB0.out.size)⟩
end Go.Proofs.Ytgbafpjeapkklaa.Mb
