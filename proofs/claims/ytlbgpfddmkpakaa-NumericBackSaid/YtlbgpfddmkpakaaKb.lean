/- Numeric: small; a drawn region whose values are determined, with numbers made and stored: the invariant. -/
import Derived.Test.YtlbgpfddmkpakaaHc
import Derived.Test.YtlbgpfddmkpakaaJe
namespace Go.Proofs.Ytlbgpfddmkpakaa.Nu
open Go.RowKit
set_option linter.unusedVariables false
set_option linter.unusedSimpArgs false
/-- small's answer. -/
def sm (x : Int) : Int := Int.tmod x 1001
theorem sm_le (x : Int) : (sm x).natAbs ≤ 1000 := by
  unfold sm
  have h1 := Int.tmod_lt_of_pos x (b := 1001) (by omega)
  have h2 := Int.lt_tmod_of_pos x (b := 1001) (by omega)
  omega
set_option maxRecDepth 100000 in
theorem small_at (x : Int) (hx : (Lit.int .i16 x).wf = true) (w : World) : Calls Try.prog 9 #[.int .i16 x] w fun e w' => e = .returned (.int .i64 (sm x)) ∧ w' = w := by
  have hb : -32768 ≤ x ∧ x ≤ 32767 := by
    have h1 : IntKind.i16.min = -32768 := by kernel_rfl
    have h2 : IntKind.i16.max = 32767 := by kernel_rfl
    simp [Lit.wf] at hx
    rw [h1, h2] at hx
    exact hx
  have hw : wrap64 x = x := by unfold wrap64; omega
  have hm : wrap64 (Int.tmod x 1001) = Int.tmod x 1001 := by have := sm_le x; unfold sm at this; unfold wrap64; omega
  have HM := Lib.hid hm
  clear hb hx hm
  go_enter Try.func9, Try.ntmps9
  go_wp2_with fail
  go_ret
  exact ⟨rfl, rfl⟩
end Go.Proofs.Ytlbgpfddmkpakaa.Nu
namespace Go.Proofs.Ytlbgpfddmkpakaa.Nu
open Go.RowKit
set_option linter.unusedVariables false
set_option linter.unusedSimpArgs false
def upd (y : Nat → Value) (i : Nat) (v : Value) : Nat → Value := fun j => if j = i then v else y j
theorem upd_same (y : Nat → Value) (i : Nat) (v : Value) : upd y i v i = v := if_pos rfl
theorem upd_other (y : Nat → Value) {i j : Nat} (v : Value) (h : j ≠ i) : upd y i v j = y j := if_neg h
theorem d_other {d : Nat → Bool} {i j : Nat} (h : j ≠ i) : (j == i || d j) = d j := by rw [beq_false_of_ne h]; rfl
/-- Operations below A have the values V; operation A + g makes a number, A + K + g stores P g in it. -/
structure QA (W : World) (V : Nat → Value) (A K : Nat) (P : Nat → Nat × Nat) (d : Nat → Bool) (y : Nat → Value) (Wx : World) : Prop where
  bu : Below W.heap.size W Wx
  val : ∀ i, i < A → d i = true → y i = V i
  alc : ∀ g, g < K → d (A + g) = true → ∃ Y : Nat, y (A + g) = .pointer (some ⟨Y, 0, none⟩) ∧ W.heap.size ≤ Y ∧ Pt Wx Y 26 (if d (A + K + g) then P g else (0, 0))
  ne : ∀ g h, g < K → h < K → g ≠ h → d (A + g) = true → d (A + h) = true → y (A + g) ≠ y (A + h)
  k : ∀ g, g < K → d (A + K + g) = true → d (A + g) = true
section
variable {W Wx Wn : World} {V : Nat → Value} {A K : Nat} {P : Nat → Nat × Nat} {d : Nat → Bool} {y : Nat → Value}
theorem QA.start (n : Nat) (hn : A + K + K ≤ n) (hd : ∀ i, i < n → d i = false) : QA W V A K P d y W.drew := by
  have z : ∀ {i : Nat} {P : Prop}, i < n → d i = true → P := fun h h' => by rw [hd _ h] at h'; cases h'
  exact ⟨(Below.refl _ _).drew, fun i hi h => z (by omega) h, fun g hg h => z (by omega) h, fun g h a b c e f => z (by omega) e, fun g hg h => z (by omega) h⟩
theorem QA.walk (h : QA W V A K P d y Wx) (hb : Below Wx.heap.size Wx Wn) : QA W V A K P d y Wn :=
  { h with
    bu := h.bu.trans (hb.mono h.bu.size)
    alc := fun g hg t => by obtain ⟨Y, e1, e2, e3⟩ := h.alc g hg t; exact ⟨Y, e1, e2, B2.step e3 hb⟩ }
theorem QA.pure (h : QA W V A K P d y Wx) {i : Nat} (hi : i < A) : QA W V A K P (fun j => j == i || d j) (upd y i (V i)) Wx := by
  refine ⟨h.bu, fun j hj t => ?_, fun g hg t => ?_, fun g g' hg hg' hne t t' => ?_, fun g hg t => ?_⟩
  · by_cases e : j = i
    · subst e; exact upd_same _ _ _
    · rw [upd_other _ _ e]; exact h.val j hj (by rwa [d_other e] at t)
  · rw [d_other (show A + g ≠ i by omega)] at t
    rw [upd_other _ _ (show A + g ≠ i by omega), d_other (show A + K + g ≠ i by omega)]
    exact h.alc g hg t
  · rw [d_other (show A + g ≠ i by omega)] at t
    rw [d_other (show A + g' ≠ i by omega)] at t'
    rw [upd_other _ _ (show A + g ≠ i by omega), upd_other _ _ (show A + g' ≠ i by omega)]
    exact h.ne g g' hg hg' hne t t'
  · rw [d_other (show A + K + g ≠ i by omega)] at t
    show (A + g == i || d (A + g)) = true
    rw [d_other (show A + g ≠ i by omega)]
    exact h.k g hg t
theorem QA.make (h : QA W V A K P d y Wx) {g : Nat} (hg : g < K) (hd : d (A + g) = false) :
    QA W V A K P (fun j => j == A + g || d j) (upd y (A + g) (.pointer (some ⟨Wx.heap.size, 0, none⟩))) (Wx.alloc (Obj.cells #[.int .u32 0, .int .u32 0] 26)) := by
  have hw := h.walk (Wn := Wx.alloc (Obj.cells #[.int .u32 0, .int .u32 0] 26)) ((Below.refl _ _).alloc (Nat.le_refl _) _)
  have fresh : ∀ g', g' < K → d (A + g') = true → y (A + g') ≠ .pointer (some ⟨Wx.heap.size, 0, none⟩) := by
    intro g' hg' t e
    obtain ⟨Y, e1, _, e3⟩ := h.alc g' hg' t
    rw [e1] at e
    have := blk_lt e3
    injection e with e
    injection e with e
    injection e with e
    omega
  refine ⟨hw.bu, fun j hj t => ?_, fun g' hg' t => ?_, fun a b ha hb hne t t' => ?_, fun g' hg' t => ?_⟩
  · rw [upd_other _ _ (show j ≠ A + g by omega)]
    exact h.val j hj (by rwa [d_other (show j ≠ A + g by omega)] at t)
  · by_cases e : g' = g
    · subst e
      have h0 : d (A + K + g') = false := by
        cases h0 : d (A + K + g') with
        | false => rfl
        | true => have := h.k g' hg h0; rw [hd] at this; cases this
      refine ⟨Wx.heap.size, upd_same _ _ _, h.bu.size, ?_⟩
      rw [d_other (show A + K + g' ≠ A + g' by omega), h0]
      exact B2.made Wx _ _ 26
    · rw [d_other (show A + g' ≠ A + g by omega)] at t
      rw [upd_other _ _ (show A + g' ≠ A + g by omega), d_other (show A + K + g' ≠ A + g by omega)]
      exact hw.alc g' hg' t
  · by_cases e : a = g
    · subst e
      have hba : b ≠ a := fun e => hne e.symm
      rw [d_other (show A + b ≠ A + a by omega)] at t'
      rw [upd_same, upd_other _ _ (show A + b ≠ A + a by omega)]
      exact fun e => fresh b hb t' e.symm
    · rw [d_other (show A + a ≠ A + g by omega)] at t
      by_cases e' : b = g
      · subst e'
        rw [upd_same, upd_other _ _ (show A + a ≠ A + b by omega)]
        exact fresh a ha t
      · rw [d_other (show A + b ≠ A + g by omega)] at t'
        rw [upd_other _ _ (show A + a ≠ A + g by omega), upd_other _ _ (show A + b ≠ A + g by omega)]
        exact h.ne a b ha hb hne t t'
  · rw [d_other (show A + K + g' ≠ A + g by omega)] at t
    show (A + g' == A + g || d (A + g')) = true
    rw [h.k g' hg' t, Bool.or_true]
/-- What the store finds. -/
theorem QA.find (h : QA W V A K P d y Wx) {g : Nat} (hg : g < K) (h1 : d (A + g) = true) (h2 : d (A + K + g) = false) : ∃ Y : Nat, y (A + g) = .pointer (some ⟨Y, 0, none⟩) ∧ W.heap.size ≤ Y ∧ Pt Wx Y 26 (0, 0) := by
  obtain ⟨Y, e1, e2, e3⟩ := h.alc g hg h1
  rw [h2] at e3
  exact ⟨Y, e1, e2, e3⟩
theorem QA.store (h : QA W V A K P d y Wx) {g : Nat} (hg : g < K) (h1 : d (A + g) = true) {Y : Nat} (hy : y (A + g) = .pointer (some ⟨Y, 0, none⟩)) {a b : Nat} (hab : (a, b) = P g)
    (hW : Wn = (Wx.setCell ⟨Y, 0, none⟩ (.int .u32 a)).setCell ⟨Y, 1, none⟩ (.int .u32 b)) : QA W V A K P (fun j => j == A + K + g || d j) y Wn := by
  obtain ⟨Y0, e1, e2, e3⟩ := h.alc g hg h1
  obtain rfl : Y0 = Y := by rw [hy] at e1; injection e1 with e; injection e with e; injection e with e; exact e.symm
  obtain ⟨p1, p2, _⟩ := B2.put e3 hW
  refine ⟨p2 _ _ e2 h.bu, fun j hj t => h.val j hj (by rwa [d_other (show j ≠ A + K + g by omega)] at t), fun g' hg' t => ?_, fun a b ha hb hne t t' => ?_, fun g' hg' t => ?_⟩
  · rw [d_other (show A + g' ≠ A + K + g by omega)] at t
    by_cases e : g' = g
    · subst e
      refine ⟨Y0, hy, e2, ?_⟩
      rw [beq_self_eq_true, Bool.true_or, if_pos rfl, ← hab]
      exact p1
    · obtain ⟨Y', f1, f2, f3⟩ := h.alc g' hg' t
      refine ⟨Y', f1, f2, ?_⟩
      rw [d_other (show A + K + g' ≠ A + K + g by omega)]
      refine pt_other f3 (fun e' => ?_) hW
      subst e'
      exact h.ne g' g hg' hg e t h1 (f1.trans hy.symm)
  · rw [d_other (show A + a ≠ A + K + g by omega)] at t
    rw [d_other (show A + b ≠ A + K + g by omega)] at t'
    exact h.ne a b ha hb hne t t'
  · show (A + g' == A + K + g || d (A + g')) = true
    rw [d_other (show A + g' ≠ A + K + g by omega)]
    by_cases e : g' = g
    · subst e; exact h1
    · rw [d_other (show A + K + g' ≠ A + K + g by omega)] at t
      exact h.k g' hg' t
theorem QA.done (h : QA W V A K P d y Wx) (n : Nat) (hn : A + K + K ≤ n) (hd : ∀ i, i < n → d i = true) {g : Nat} (hg : g < K) : ∃ Y : Nat, y (A + g) = .pointer (some ⟨Y, 0, none⟩) ∧ W.heap.size ≤ Y ∧ Pt Wx Y 26 (P g) := by
  obtain ⟨Y, e1, e2, e3⟩ := h.alc g hg (hd _ (by omega))
  rw [hd _ (show A + K + g < n by omega)] at e3
  exact ⟨Y, e1, e2, e3⟩
end
end Go.Proofs.Ytlbgpfddmkpakaa.Nu
