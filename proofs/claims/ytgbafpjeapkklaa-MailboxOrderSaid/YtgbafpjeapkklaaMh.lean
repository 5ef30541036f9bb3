/- Mailbox: IndexFunc, push, pop. -/
import Derived.Test.YtgbafpjeapkklaaMg
namespace Go.Proofs.Ytgbafpjeapkklaa.Mb
open Go.RowKit
set_option linter.unusedVariables false
set_option linter.unusedSimpArgs false

/-- The first place, or -1. -/
def idx {α : Type} (f : α → Bool) (l : List α) : Int := match l.findIdx? f with | some i => (i : Int) | none => -1
theorem idx_found {α : Type} {f : α → Bool} {l : List α} {k : Nat} {x : α} (hx : l[k]? = some x) (hf : f x = true) (hno : ∀ j y, j < k → l[j]? = some y → f y = false) : idx f l = k := by
  have h : l.findIdx? f = some k := by
    obtain ⟨hlt, rfl⟩ := List.getElem?_eq_some_iff.1 hx
    rw [List.findIdx?_eq_some_iff_getElem]
    refine ⟨hlt, hf, fun j hj => ?_⟩
    simp [hno j (l[j]'(by omega)) hj (by simp [show j < l.length by omega])]
  simp [idx, h]
theorem idx_none {α : Type} {f : α → Bool} {l : List α} (hno : ∀ y ∈ l, f y = false) : idx f l = -1 := by
  have h : l.findIdx? f = none := by
    rw [List.findIdx?_eq_none_iff]
    exact hno
  simp [idx, h]

set_option maxRecDepth 100000 in
set_option maxHeartbeats 1000000 in
theorem push1_at (x0 x1 x2 p : Int) (X : Nat) (w : World) (hX : w.cell? ⟨X, 0, none⟩ = some (.int .i64 p)) :
    Calls Try.prog 61 #[.agg #[.int .i64 x0, .int .i64 x1, .int .i64 x2], .pointer (some ⟨X, 0, none⟩)] w fun e w' => e = .returned (.bool (x0 == p)) ∧ Below w.heap.size w w' := by
  have hl := World.block_lt_of_cell? _ _ hX
  have hX' : (w.alloc (Obj.cells #[.int .i64 x0, .int .i64 x1, .int .i64 x2] 102)).cell? ⟨X, 0, none⟩ = some (.int .i64 p) := (((Below.refl w.heap.size w).alloc (Nat.le_refl _) _).cell (p := ⟨X, 0, none⟩) hl).trans hX
  go_enter Try.func61, Try.ntmps61
  go_wp2_with fail
  go_ret
  exact ⟨rfl, (Below.refl _ _).alloc (Nat.le_refl _) _⟩

set_option maxRecDepth 100000 in
set_option maxHeartbeats 1000000 in
theorem index61_at {v : Value} {l : List (Int × Int × Int)} (hl : l.length ≤ 2000) (p : Int) (X : Nat) (w : World) (h1 : Tri w v l) (hX : w.cell? ⟨X, 0, none⟩ = some (.int .i64 p)) :
    Calls Try.prog 57 #[v, .func (.func 61) #[] #[.pointer (some ⟨X, 0, none⟩)]] w fun e w' => e = .returned (.int .i64 (idx (fun x => x.1 == p) l)) ∧ Below w.heap.size w w' := by
  obtain ⟨A, c, rfl, hc, h1⟩ := h1
  have hXl := World.block_lt_of_cell? _ _ hX
  have HX := Lib.hid hX; clear hX
  obtain ⟨R, hR⟩ : ∃ R, R = idx (fun x => x.1 == p) l := ⟨_, rfl⟩
  rw [← hR]
  have HR := Lib.hid hR; clear hR
  generalize hn : l.length = n at *
  have HN := Lib.hid hn; clear hn
  rcases h1 with rfl | ⟨g, off, rfl, hg, h1⟩
  · obtain rfl : n = 0 := by have := HN.out; simpa using this.symm
    obtain rfl : R = -1 := by rw [HR.out]; rfl
    go_enter Try.func57, Try.ntmps57
    go_wp2_with fail
    go_loop [8] (fun s => s = .int .i64 0) (fun _ => 0)
    case atStart => rfl
    case round =>
      obtain rfl := hrel
      go_wp2
      go_ret
      exact ⟨rfl, Below.refl _ _⟩
  have H1 := Lib.hid h1; clear h1
  go_enter Try.func57, Try.ntmps57
  go_wp2_with fail
  go_loopw [8] (fun s wr => ∃ k : Nat, k ≤ n ∧ s = .int .i64 k ∧ (∀ (j : Nat) (x : Int × Int × Int), j < k → l[j]? = some x → (x.1 == p) = false) ∧ Below w.heap.size w wr) (fun s _ => n - (intOf s).toNat)
  case atStart => exact ⟨0, by omega, rfl, fun j o hj => by omega, Below.refl _ _⟩
  case round =>
    obtain ⟨k, hk, rfl, hno, hb⟩ := hrel
    have HNO := Lib.hid hno; clear hno
    have HB := Lib.hid hb; clear hb
    by_cases hlt : k < n
    · have tl : decide ((k : Int) < (n : Int)) = true := decide_eq_true (by omega)
      obtain ⟨x, hx⟩ : ∃ x, l[k]? = some x := ⟨l[k]'(by rw [HN.out]; exact hlt), by simp⟩
      obtain ⟨a0, a1, a2⟩ := H1.out k x hx
      obtain ⟨x0, x1, x2⟩ := x
      have c0 : wr.cell? ⟨g, off + k * 3, none⟩ = some (.int .i64 x0) := (HB.out.cell (p := ⟨g, off + k * 3, none⟩) hg).trans a0
      have c1 : wr.cell? ⟨g, off + k * 3 + 1, none⟩ = some (.int .i64 x1) := (HB.out.cell (p := ⟨g, off + k * 3 + 1, none⟩) hg).trans a1
      have c2 : wr.cell? ⟨g, off + k * 3 + 2, none⟩ = some (.int .i64 x2) := (HB.out.cell (p := ⟨g, off + k * 3 + 2, none⟩) hg).trans a2
      have HX' : Hid (wr.cell? ⟨X, 0, none⟩ = some (.int .i64 p)) := (HB.out.cell (p := ⟨X, 0, none⟩) hXl).trans HX.out
      have HO := Lib.hid hx
      clear a0 a1 a2 hx
      go_wp2_with fail
      refine (push1_at x0 x1 x2 p X _ HX'.out).mono ?_
      rintro e w2 ⟨rfl, hb2⟩
      have HB2 : Hid (Below w.heap.size w w2) := HB.out.trans (hb2.mono HB.out.size)
      clear hb2 c0 c1 c2
      cases hn : (x0 == p) with
      | true =>
        have hany : R = k := by
          rw [HR.out]
          exact idx_found HO.out hn (fun j y hj hy => HNO.out j y hj hy)
        subst hany
        clear hn
        go_wp2
        go_ret
        exact ⟨rfl, HB2.out⟩
      | false =>
        have HF := Lib.hid hn; clear hn
        go_wp2
        go_roundw
        case rel =>
          refine ⟨k + 1, by omega, by go_num, fun j o' hj ho' => ?_, HB2.out⟩
          by_cases e : j = k
          · subst e; rw [HO.out] at ho'; cases ho'; exact HF.out
          · exact HNO.out j o' (by omega) ho'
        case measure => simp [intOf]; omega
    · obtain rfl : k = n := by omega
      have hany : R = -1 := by
        rw [HR.out]
        refine idx_none fun y hy => ?_
        obtain ⟨j, hj, e⟩ := List.getElem_of_mem hy
        rw [HN.out] at hj
        exact HNO.out j y hj (by rw [← e]; simp)
      subst hany
      go_wp2
      go_ret
      exact ⟨rfl, HB.out⟩

set_option maxRecDepth 100000 in
set_option maxHeartbeats 1000000 in
theorem wait1_at (x0 x1 x2 p : Int) (X : Nat) (w : World) (hX : w.cell? ⟨X, 0, none⟩ = some (.int .i64 p)) :
    Calls Try.prog 58 #[.agg #[.int .i64 x0, .int .i64 x1, .int .i64 x2], .pointer (some ⟨X, 0, none⟩)] w fun e w' => e = .returned (.bool (x1 == p)) ∧ Below w.heap.size w w' := by
  have hl := World.block_lt_of_cell? _ _ hX
  have hX' : (w.alloc (Obj.cells #[.int .i64 x0, .int .i64 x1, .int .i64 x2] 102)).cell? ⟨X, 0, none⟩ = some (.int .i64 p) := (((Below.refl w.heap.size w).alloc (Nat.le_refl _) _).cell (p := ⟨X, 0, none⟩) hl).trans hX
  go_enter Try.func58, Try.ntmps58
  go_wp2_with fail
  go_ret
  exact ⟨rfl, (Below.refl _ _).alloc (Nat.le_refl _) _⟩

set_option maxRecDepth 100000 in
set_option maxHeartbeats 1000000 in
theorem index58_at {v : Value} {l : List (Int × Int × Int)} (hl : l.length ≤ 2000) (p : Int) (X : Nat) (w : World) (h1 : Tri w v l) (hX : w.cell? ⟨X, 0, none⟩ = some (.int .i64 p)) :
    Calls Try.prog 57 #[v, .func (.func 58) #[] #[.pointer (some ⟨X, 0, none⟩)]] w fun e w' => e = .returned (.int .i64 (idx (fun x => x.2.1 == p) l)) ∧ Below w.heap.size w w' := by
  obtain ⟨A, c, rfl, hc, h1⟩ := h1
  have hXl := World.block_lt_of_cell? _ _ hX
  have HX := Lib.hid hX; clear hX
  obtain ⟨R, hR⟩ : ∃ R, R = idx (fun x => x.2.1 == p) l := ⟨_, rfl⟩
  rw [← hR]
  have HR := Lib.hid hR; clear hR
  generalize hn : l.length = n at *
  have HN := Lib.hid hn; clear hn
  rcases h1 with rfl | ⟨g, off, rfl, hg, h1⟩
  · obtain rfl : n = 0 := by have := HN.out; simpa using this.symm
    obtain rfl : R = -1 := by rw [HR.out]; rfl
    go_enter Try.func57, Try.ntmps57
    go_wp2_with fail
    go_loop [8] (fun s => s = .int .i64 0) (fun _ => 0)
    case atStart => rfl
    case round =>
      obtain rfl := hrel
      go_wp2
      go_ret
      exact ⟨rfl, Below.refl _ _⟩
  have H1 := Lib.hid h1; clear h1
  go_enter Try.func57, Try.ntmps57
  go_wp2_with fail
  go_loopw [8] (fun s wr => ∃ k : Nat, k ≤ n ∧ s = .int .i64 k ∧ (∀ (j : Nat) (x : Int × Int × Int), j < k → l[j]? = some x → (x.2.1 == p) = false) ∧ Below w.heap.size w wr) (fun s _ => n - (intOf s).toNat)
  case atStart => exact ⟨0, by omega, rfl, fun j o hj => by omega, Below.refl _ _⟩
  case round =>
    obtain ⟨k, hk, rfl, hno, hb⟩ := hrel
    have HNO := Lib.hid hno; clear hno
    have HB := Lib.hid hb; clear hb
    by_cases hlt : k < n
    · have tl : decide ((k : Int) < (n : Int)) = true := decide_eq_true (by omega)
      obtain ⟨x, hx⟩ : ∃ x, l[k]? = some x := ⟨l[k]'(by rw [HN.out]; exact hlt), by simp⟩
      obtain ⟨a0, a1, a2⟩ := H1.out k x hx
      obtain ⟨x0, x1, x2⟩ := x
      have c0 : wr.cell? ⟨g, off + k * 3, none⟩ = some (.int .i64 x0) := (HB.out.cell (p := ⟨g, off + k * 3, none⟩) hg).trans a0
      have c1 : wr.cell? ⟨g, off + k * 3 + 1, none⟩ = some (.int .i64 x1) := (HB.out.cell (p := ⟨g, off + k * 3 + 1, none⟩) hg).trans a1
      have c2 : wr.cell? ⟨g, off + k * 3 + 2, none⟩ = some (.int .i64 x2) := (HB.out.cell (p := ⟨g, off + k * 3 + 2, none⟩) hg).trans a2
      have HX' : Hid (wr.cell? ⟨X, 0, none⟩ = some (.int .i64 p)) := (HB.out.cell (p := ⟨X, 0, none⟩) hXl).trans HX.out
      have HO := Lib.hid hx
      clear a0 a1 a2 hx
      go_wp2_with fail
      refine (wait1_at x0 x1 x2 p X _ HX'.out).mono ?_
      rintro e w2 ⟨rfl, hb2⟩
      have HB2 : Hid (Below w.heap.size w w2) := HB.out.trans (hb2.mono HB.out.size)
      clear hb2 c0 c1 c2
      cases hn : (x1 == p) with
      | true =>
        have hany : R = k := by
          rw [HR.out]
          exact idx_found HO.out hn (fun j y hj hy => HNO.out j y hj hy)
        subst hany
        clear hn
        go_wp2
        go_ret
        exact ⟨rfl, HB2.out⟩
      | false =>
        have HF := Lib.hid hn; clear hn
        go_wp2
        go_roundw
        case rel =>
          refine ⟨k + 1, by omega, by go_num, fun j o' hj ho' => ?_, HB2.out⟩
          by_cases e : j = k
          · subst e; rw [HO.out] at ho'; cases ho'; exact HF.out
          · exact HNO.out j o' (by omega) ho'
        case measure => simp [intOf]; omega
    · obtain rfl : k = n := by omega
      have hany : R = -1 := by
        rw [HR.out]
        refine idx_none fun y hy => ?_
        obtain ⟨j, hj, e⟩ := List.getElem_of_mem hy
        rw [HN.out] at hj
        exact HNO.out j y hj (by rw [← e]; simp)
      subst hany
      go_wp2
      go_ret
      exact ⟨rfl, HB.out⟩

set_option maxRecDepth 100000 in
set_option maxHeartbeats 1000000 in
/-- push: the place of a producer's push. -/
theorem push_at {ns ps : Value} {l : List (Int × Int × Int)} (hl : l.length ≤ 2000) (m d : Int) (b : Bool) (p : Int) (w : World) (hp : Tri w ps l) :
    Calls Try.prog 39 #[.agg #[ns, .int .i64 m, .int .i64 d, ps, .bool b], .int .i64 p] w fun e w' => e = .returned (.int .i64 (idx (fun x => x.1 == p) l)) ∧ Below w.heap.size w w' := by
  have h1 : Below w.heap.size w (w.alloc (Obj.cells #[ns, .int .i64 m, .int .i64 d, ps, .bool b] 28)) := (Below.refl _ _).alloc (Nat.le_refl _) _
  have h2 := (Below.refl (w.alloc (Obj.cells #[ns, .int .i64 m, .int .i64 d, ps, .bool b] 28)).heap.size (w.alloc (Obj.cells #[ns, .int .i64 m, .int .i64 d, ps, .bool b] 28))).alloc (Nat.le_refl _) (Obj.cells #[.int .i64 p] 3)
  have h3 := (MapKept.heap_alloc w (Obj.cells #[ns, .int .i64 m, .int .i64 d, ps, .bool b] 28)).1
  have h4 := (MapKept.heap_alloc (w.alloc (Obj.cells #[ns, .int .i64 m, .int .i64 d, ps, .bool b] 28)) (Obj.cells #[.int .i64 p] 3)).1
  have hsz : (w.alloc (Obj.cells #[ns, .int .i64 m, .int .i64 d, ps, .bool b] 28)).heap.size = w.heap.size + 1 := by simp
  obtain ⟨A, c, hA⟩ := hp.slice
  subst hA
  obtain ⟨W0, hW0⟩ : ∃ W0, W0 = (w.alloc (Obj.cells #[ns, .int .i64 m, .int .i64 d, Value.slice A l.length c, .bool b] 28)).alloc (Obj.cells #[.int .i64 p] 3) := ⟨_, rfl⟩
  rw [← hW0] at h2 h4
  rw [hsz] at h4
  have HB0 : Hid (Below w.heap.size w W0) := h1.trans (h2.mono h1.size)
  have c3 : W0.cell? ⟨w.heap.size, 3, none⟩ = some (Value.slice A l.length c) := cell_blk ((h2.block _ (blk_lt h3)).trans h3) 3
  have HP := Lib.hid (hp.below HB0.out)
  have HX : Hid (W0.cell? ⟨w.heap.size + 1, 0, none⟩ = some (.int .i64 p)) := cell_blk h4 0
  clear h1 h2 h3 h4 hsz hp
  obtain ⟨R, hR⟩ : ∃ R, R = idx (fun x => x.1 == p) l := ⟨_, rfl⟩
  rw [← hR]
  go_enter Try.func39, Try.ntmps39
  go_upto_region 1 with fail
  rw [← hW0]
  clear hW0
  go_wp2_with fail
  refine (index61_at hl p (w.heap.size + 1) _ HP.out HX.out).mono ?_
  rw [← hR]
  rintro e w2 ⟨he, hb2⟩
  subst he
  have HB2 : Hid (Below w.heap.size w w2) := HB0.out.trans (hb2.mono HB0.out.size)
  clear hb2
  go_wp2_with fail
  go_ret
  exact ⟨by rw [hR]; rfl, HB2.out⟩

set_option maxRecDepth 100000 in
set_option maxHeartbeats 1000000 in
theorem pop_no {g gn off n cap : Nat} {m : Int} {d : Nat} {ps : Value} {b : Bool} (W : World) (hg : W.heap[g]? = some (.cells #[.slice (some ⟨gn, off, none⟩) n cap, .int .i64 m, .int .i64 d, ps, .bool b] 28 (0, 0)))
    (hd : d < n) (hx : W.cell? ⟨gn, off + d * 3 + 2, none⟩ = some (.int .i64 (-1))) :
    Calls Try.prog 43 #[.pointer (some ⟨g, 0, none⟩)] W fun e w' => e = .returned (.tuple #[.int .i64 0, .bool false]) ∧ Below W.heap.size W w' := by
  have c0 : W.cell? ⟨g, 0, none⟩ = some (.slice (some ⟨gn, off, none⟩) n cap) := cell_blk hg 0
  have c2 : W.cell? ⟨g, 2, none⟩ = some (.int .i64 d) := cell_blk hg 2
  have hdl : decide ((d : Int) < (n : Int)) = true := decide_eq_true (by omega)
  have hdn : (d : Int) < (n : Int) := by omega
  clear hg
  go_enter Try.func43, Try.ntmps43
  go_wp2_with fail
  go_quiet (fail)
  go_wp2_with fail
  go_ret2
  exact ⟨rfl, below_drewN (Below.refl _ _) _⟩

set_option maxRecDepth 100000 in
set_option maxHeartbeats 1000000 in
theorem pop_yes {g gn off n cap : Nat} {m : Int} {d k : Nat} {v : Int} {ps : Value} {b : Bool} (W : World) (hg : W.heap[g]? = some (.cells #[.slice (some ⟨gn, off, none⟩) n cap, .int .i64 m, .int .i64 d, ps, .bool b] 28 (0, 0)))
    (hne : gn ≠ g) (hd : d < n) (hk : k < n) (hx : W.cell? ⟨gn, off + d * 3 + 2, none⟩ = some (.int .i64 (k : Int))) (hv : W.cell? ⟨gn, off + k * 3, none⟩ = some (.int .i64 v)) :
    Calls Try.prog 43 #[.pointer (some ⟨g, 0, none⟩)] W fun e w' => e = .returned (.tuple #[.int .i64 v, .bool true]) ∧ ∃ W1, Below W.heap.size W W1 ∧ w' = W1.setCell ⟨g, 2, none⟩ (.int .i64 (k : Int)) := by
  have c0 : W.cell? ⟨g, 0, none⟩ = some (.slice (some ⟨gn, off, none⟩) n cap) := cell_blk hg 0
  have c2 : W.cell? ⟨g, 2, none⟩ = some (.int .i64 d) := cell_blk hg 2
  have hdl : decide ((d : Int) < (n : Int)) = true := decide_eq_true (by omega)
  have hdn : (d : Int) < (n : Int) := by omega
  have hkl : decide ((k : Int) < (n : Int)) = true := decide_eq_true (by omega)
  have hkn : (k : Int) < (n : Int) := by omega
  have HG := Lib.hid hg; clear hg
  go_enter Try.func43, Try.ntmps43
  go_wp2_with fail
  go_quiet (fail)
  have f2 : W.frozen? ⟨g, 2, none⟩ = false := frozen_blk HG.out 2
  go_wp2_with fail
  go_ret2
  exact ⟨rfl, W.drewN nq, below_drewN (Below.refl _ _) _, rfl⟩
end Go.Proofs.Ytgbafpjeapkklaa.Mb
