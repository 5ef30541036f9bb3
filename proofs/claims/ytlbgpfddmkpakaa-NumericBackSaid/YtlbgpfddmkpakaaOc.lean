/- Numeric: a drawn region that ends in an append: the invariant; lists compared by EqualFunc; numbers made of a part of an array. -/
import Derived.Test.YtlbgpfddmkpakaaLb
import Derived.Test.YtlbgpfddmkpakaaMa
import Derived.Test.YtlbgpfddmkpakaaJe
import Derived.Test.YtlbgpfddmkpakaaKb
namespace Go.Proofs.Ytlbgpfddmkpakaa.Nu
open Go.RowKit
set_option linter.unusedVariables false
set_option linter.unusedSimpArgs false
theorem wpIn_app {F : Fence} {e st : TypeId} (T : NumTy e st) {W0 : World} {u : Value} {xs : List (Nat × Nat)} {v : Value} {ys : List (Nat × Nat)} {W : World} {X : Nat} {p : Nat × Nat} (h : TN e W0 u xs v ys [(X, p)] W) {n : Nat} {o : Oper} {a : Act} {K : Act → World → Prop} {Q : Exit → Act → World → Prop}
    (s x : Operand) (hop : o.op = Op.call { callee := Callee.builtin Builtin.append, args := #[s, x], argTypes := #[st, st] }) (hs : a.eval s = u) (hx : a.eval x = .slice (some ⟨X, 0, none⟩) 1 1) (hn : xs.length ≤ 2000)
    (hK : ∀ g k w', TN e W0 (.slice (some ⟨g, 0, none⟩) (xs.length + 1) k) (xs ++ [p]) v ys [] w' → (W.heap.size ≤ w'.heap.size ∧ ∀ b, b < W.heap.size → u.ownBlock ≠ some b → w'.heap[b]? = W.heap[b]?) → K (a.put o.dst (.slice (some ⟨g, 0, none⟩) (xs.length + 1) k)) w') : Oper.wpIn F n Try.prog o a W K Q := by
  obtain ⟨u', W', hr, ho, hgr, hb, _, g', k, rfl⟩ := run_app T W o.type h.o1 (h.fresh _ (List.mem_singleton.2 rfl)).1 hn h.below.size
  unfold Oper.wpIn
  refine ⟨?_, ?_⟩
  · simp [Oper.about, hop, resolve, Target.leads, Sem.run_pure]
  · rw [Oper.semAt_plain F _ _ (by rw [hop]; intro c hc'; cases hc')]
    simp [execOp, hop, resolve, invoke, builtin, hs, hx, hr, Result.andThen]
    exact hK g' k W' ((h.re1 hgr ho hb).forget (fr' := []) (fun y hy => by cases hy)) ⟨hgr.size, fun b hb' hne => hgr.block b hb' (fun e => hne e.symm)⟩
section
variable {F : Fence} {n : Nat} {P : Program} {ops : Array Oper} {Q : Exit → Act → World → Prop}
/-- What is done holds all that it waits for. -/
def Closed (ops : Array Oper) (S : Nat → Bool) : Prop := ∀ (j : Nat) (p : Oper), ops[j]? = some p → S j = true → ∀ e ∈ p.after, Region.binds .any e = true → S e.on = true
theorem wpIn_region_cl {id : Nat} {a : Act} {w : World} (hm : P.follows .mixedOrders = true) (hback : ∀ (i : Nat) (o : Oper), ops[i]? = some o → ∀ e ∈ o.after, e.on < i)
    (I : (Nat → Bool) → Act → World → Prop) (h0 : ∀ S, (∀ i, i < ops.size → S i = false) → I S a w.drew)
    (step : ∀ (i : Nat) (o : Oper), ops[i]? = some o → ∀ (S : Nat → Bool) a w, I S a w → S i = false → (∀ e ∈ o.after, Region.binds .any e = true → S e.on = true) → Closed ops S →
      wpOpIn F n P ops Q i (I fun j => j == i || S j) a w)
    (done : ∀ S a w, I S a w → (∀ i, i < ops.size → S i = true) → Q .normal a w) : (Code.region id ops true).wpIn F n P Q a w := by
  refine wpIn_region_inv hm hback (fun S a w => I S a w ∧ Closed ops S) (fun S hS => ⟨h0 S hS, fun j p hp t => ?_⟩) (fun i o ho S a w hI hS hd => ?_) (fun S a w hI hall => done S a w hI.1 hall)
  · have := (Array.getElem?_eq_some_iff.1 hp).1
    rw [hS j this] at t; cases t
  · have hc : Closed ops (fun j => j == i || S j) := by
      intro j p hp t e he hb
      show (e.on == i || S e.on) = true
      by_cases hji : j = i
      · subst hji
        rw [ho] at hp
        injection hp with hp
        subst hp
        rw [hd e he hb, Bool.or_true]
      · have t' : S j = true := by
          have this : (j == i || S j) = true := t
          rwa [d_other hji] at this
        rw [hI.2 j p hp t' e he hb, Bool.or_true]
    have h := step i o ho S a w hI.1 hS hd hI.2
    refine wpOpIn_step ho fun K hK => ?_
    unfold wpOpIn at h
    rw [ho] at h
    dsimp only at h
    split
    · rename_i hw
      rw [if_pos hw] at h
      exact Oper.wpIn_mono (fun a w k => hK a w ⟨k, hc⟩) h
    · rename_i hw
      rw [if_neg hw] at h
      exact ⟨h.1, hK _ _ ⟨h.2, hc⟩⟩
end
/-- Operations below A have the values V; operation A makes a number P in a list of one; A + 1 appends it to the row u; A + 2 assigns. -/
structure QT (e : TypeId) (W0 Wz : World) (u : Value) (xs : List (Nat × Nat)) (v : Value) (ys : List (Nat × Nat)) (V : Nat → Value) (A : Nat) (P : Nat × Nat) (d : Nat → Bool) (y : Nat → Value) (Wx : World) : Prop where
  bu : Below W0.heap.size W0 Wx
  zs : Wz.heap.size ≤ Wx.heap.size
  bz : ∀ b, b < Wz.heap.size → u.ownBlock ≠ some b → Wx.heap[b]? = Wz.heap[b]?
  val : ∀ i, i < A → d i = true → y i = V i
  c0 : d A = false → TN e W0 u xs v ys [] Wx
  c1 : d A = true → d (A + 1) = false → ∃ X, y A = .slice (some ⟨X, 0, none⟩) 1 1 ∧ TN e W0 u xs v ys [(X, P)] Wx
  c2 : d (A + 1) = true → ∃ g k, y (A + 1) = .slice (some ⟨g, 0, none⟩) (xs.length + 1) k ∧ TN e W0 (y (A + 1)) (xs ++ [P]) v ys [] Wx
  k1 : d (A + 1) = true → d A = true
  c3 : d (A + 2) = true → d (A + 1) = true ∧ y (A + 2) = y (A + 1)
  c4 : d (A + 2) = false → y (A + 2) = u
section
variable {e : TypeId} {W0 Wz Wx Wn : World} {u : Value} {xs : List (Nat × Nat)} {v : Value} {ys : List (Nat × Nat)} {V : Nat → Value} {A : Nat} {P : Nat × Nat} {d : Nat → Bool} {y : Nat → Value}
theorem QT.start (h : TN e W0 u xs v ys [] Wz) (hy : y (A + 2) = u) (hd : ∀ i, i < A + 3 → d i = false) : QT e W0 Wz u xs v ys V A P d y Wz.drew := by
  have z : ∀ {i : Nat} {P : Prop}, i < A + 3 → d i = true → P := fun h h' => by rw [hd _ h] at h'; cases h'
  exact ⟨h.drew.below, Nat.le_refl _, fun _ _ _ => rfl, fun i hi t => z (by omega) t, fun _ => h.drew, fun t => z (by omega) t, fun t => z (by omega) t, fun t => z (by omega) t, fun t => z (by omega) t, fun _ => hy⟩
theorem QT.walk (h : QT e W0 Wz u xs v ys V A P d y Wx) (hb : Below Wx.heap.size Wx Wn) : QT e W0 Wz u xs v ys V A P d y Wn :=
  ⟨h.bu.trans (hb.mono h.bu.size), Nat.le_trans h.zs hb.size, (fun b hl hne => (hb.block b (Nat.lt_of_lt_of_le hl h.zs)).trans (h.bz b hl hne)), h.val, fun t => (h.c0 t).step hb, (fun t t' => by obtain ⟨X, a, b⟩ := h.c1 t t'; exact ⟨X, a, b.step hb⟩), (fun t => by obtain ⟨g, k, a, b⟩ := h.c2 t; exact ⟨g, k, a, b.step hb⟩), h.k1, h.c3, h.c4⟩
theorem QT.pure (h : QT e W0 Wz u xs v ys V A P d y Wx) {i : Nat} (hi : i < A) : QT e W0 Wz u xs v ys V A P (fun j => j == i || d j) (upd y i (V i)) Wx := by
  have o0 : A ≠ i := by omega
  have o1 : A + 1 ≠ i := by omega
  have o2 : A + 2 ≠ i := by omega
  refine ⟨h.bu, h.zs, h.bz, fun j hj t => ?_, fun t => ?_, fun t t' => ?_, fun t => ?_, fun t => ?_, fun t => ?_, fun t => ?_⟩
  · by_cases e : j = i
    · subst e; exact upd_same _ _ _
    · rw [upd_other _ _ e]; exact h.val j hj (by rwa [d_other e] at t)
  · rw [d_other o0] at t; exact h.c0 t
  · rw [d_other o0] at t; rw [d_other o1] at t'; rw [upd_other _ _ o0]; exact h.c1 t t'
  · rw [d_other o1] at t; rw [upd_other _ _ o1]; exact h.c2 t
  · rw [d_other o1] at t; show (A == i || d A) = true; rw [d_other o0]; exact h.k1 t
  · rw [d_other o2] at t; show (A + 1 == i || d (A + 1)) = true ∧ _; rw [d_other o1, upd_other _ _ o1, upd_other _ _ o2]; exact h.c3 t
  · rw [d_other o2] at t; rw [upd_other _ _ o2]; exact h.c4 t
theorem QT.make (h : QT e W0 Wz u xs v ys V A P d y Wx) (hd : d A = false) :
    QT e W0 Wz u xs v ys V A P (fun j => j == A || d j) (upd y A (.slice (some ⟨Wx.heap.size, 0, none⟩) 1 1)) (Wx.alloc (Obj.cells #[.int .u32 P.1, .int .u32 P.2] e)) := by
  have o1 : A + 1 ≠ A := by omega
  have o2 : A + 2 ≠ A := by omega
  have n1 : d (A + 1) = false := by
    cases h1 : d (A + 1) with
    | false => rfl
    | true => rw [h.k1 h1] at hd; cases hd
  have n2 : d (A + 2) = false := by
    cases h1 : d (A + 2) with
    | false => rfl
    | true => rw [(h.c3 h1).1] at n1; cases n1
  have ha : Below Wx.heap.size Wx (Wx.alloc (Obj.cells #[.int .u32 (P.1 : Nat), .int .u32 (P.2 : Nat)] e)) := (Below.refl _ _).alloc (Nat.le_refl _) _
  refine ⟨((h.c0 hd).alloc P.1 P.2).below, Nat.le_trans h.zs ha.size, (fun b hl hne => (ha.block b (Nat.lt_of_lt_of_le hl h.zs)).trans (h.bz b hl hne)), fun j hj t => ?_, fun t => ?_, fun t t' => ?_, fun t => ?_, fun t => ?_, fun t => ?_, fun t => ?_⟩
  · have e : j ≠ A := by omega
    rw [upd_other _ _ e]; exact h.val j hj (by rwa [d_other e] at t)
  · rw [beq_self_eq_true, Bool.true_or] at t; cases t
  · exact ⟨Wx.heap.size, upd_same _ _ _, (h.c0 hd).alloc P.1 P.2⟩
  · rw [d_other o1, n1] at t; cases t
  · rw [d_other o1, n1] at t; cases t
  · rw [d_other o2, n2] at t; cases t
  · rw [upd_other _ _ o2]; exact h.c4 n2
theorem QT.app (h : QT e W0 Wz u xs v ys V A P d y Wx) (hd : d A = true) (hd1 : d (A + 1) = false) {g k : Nat} (hN : TN e W0 (.slice (some ⟨g, 0, none⟩) (xs.length + 1) k) (xs ++ [P]) v ys [] Wn) (hB : Wx.heap.size ≤ Wn.heap.size ∧ ∀ b, b < Wx.heap.size → u.ownBlock ≠ some b → Wn.heap[b]? = Wx.heap[b]?) :
    QT e W0 Wz u xs v ys V A P (fun j => j == A + 1 || d j) (upd y (A + 1) (.slice (some ⟨g, 0, none⟩) (xs.length + 1) k)) Wn := by
  have o0 : A ≠ A + 1 := by omega
  have o2 : A + 2 ≠ A + 1 := by omega
  have n2 : d (A + 2) = false := by
    cases h1 : d (A + 2) with
    | false => rfl
    | true => rw [(h.c3 h1).1] at hd1; cases hd1
  refine ⟨hN.below, Nat.le_trans h.zs hB.1, (fun b hl hne => (hB.2 b (Nat.lt_of_lt_of_le hl h.zs) hne).trans (h.bz b hl hne)), fun j hj t => ?_, fun t => ?_, fun t t' => ?_, fun t => ?_, fun t => ?_, fun t => ?_, fun t => ?_⟩
  · have e : j ≠ A + 1 := by omega
    rw [upd_other _ _ e]; exact h.val j hj (by rwa [d_other e] at t)
  · rw [d_other o0, hd] at t; cases t
  · rw [beq_self_eq_true, Bool.true_or] at t'; cases t'
  · rw [upd_same]; exact ⟨g, k, rfl, hN⟩
  · show (A == A + 1 || d A) = true; rw [d_other o0]; exact hd
  · rw [d_other o2, n2] at t; cases t
  · rw [upd_other _ _ o2]; exact h.c4 n2
theorem QT.asg (h : QT e W0 Wz u xs v ys V A P d y Wx) (hd1 : d (A + 1) = true) : QT e W0 Wz u xs v ys V A P (fun j => j == A + 2 || d j) (upd y (A + 2) (y (A + 1))) Wx := by
  have o0 : A ≠ A + 2 := by omega
  have o1 : A + 1 ≠ A + 2 := by omega
  refine ⟨h.bu, h.zs, h.bz, fun j hj t => ?_, fun t => ?_, fun t t' => ?_, fun t => ?_, fun t => ?_, fun t => ?_, fun t => ?_⟩
  · have e : j ≠ A + 2 := by omega
    rw [upd_other _ _ e]; exact h.val j hj (by rwa [d_other e] at t)
  · rw [d_other o0] at t; exact h.c0 t
  · rw [d_other o0] at t; rw [d_other o1] at t'; rw [upd_other _ _ o0]; exact h.c1 t t'
  · rw [d_other o1] at t; rw [upd_other _ _ o1]; exact h.c2 t
  · rw [d_other o1] at t; show (A == A + 2 || d A) = true; rw [d_other o0]; exact h.k1 t
  · show (A + 1 == A + 2 || d (A + 1)) = true ∧ _; rw [d_other o1, upd_other _ _ o1, upd_same]; exact ⟨hd1, rfl⟩
  · rw [beq_self_eq_true, Bool.true_or] at t; cases t
theorem QT.done (h : QT e W0 Wz u xs v ys V A P d y Wx) (hd : ∀ i, i < A + 3 → d i = true) : ∃ g k, y (A + 2) = .slice (some ⟨g, 0, none⟩) (xs.length + 1) k ∧ TN e W0 (.slice (some ⟨g, 0, none⟩) (xs.length + 1) k) (xs ++ [P]) v ys [] Wx := by
  obtain ⟨g, k, a, b⟩ := h.c2 (hd _ (by omega))
  refine ⟨g, k, ((h.c3 (hd _ (by omega))).2).trans a, ?_⟩
  rw [a] at b
  exact b
end
set_option maxRecDepth 100000 in
set_option maxHeartbeats 4000000 in
/-- Lists whose elements are the same whole numbers are told equal. -/
theorem eqf_at (v u : Value) (l m : List (Nat × Nat)) (w : World) (hr : Row w v l) (hs : Row w u m) (hlen : l.length = m.length) (h70 : l.length ≤ 1000) (heq : ∀ i, i < l.length → ∃ z : Int × Int, Nz (el l i) z ∧ Nz (el m i) z) :
    Calls Try.prog 59 #[v, u, .func (.func 13) #[] #[]] w fun e w' => e = .returned (.bool true) ∧ Below w.heap.size w w' := by
  obtain ⟨p, cap, rfl, hcap, hrr⟩ := hr
  obtain ⟨q, cap2, rfl, hcap2, hss⟩ := hs
  have HRR := Lib.hid hrr
  have HSS := Lib.hid hss
  rw [← hlen] at hcap2 ⊢
  obtain ⟨n, hn⟩ : ∃ n, n = l.length := ⟨_, rfl⟩
  have HN := Lib.hid hn
  have HM : Hid (n = m.length) := hn.trans hlen
  rw [← hn] at h70 hcap hcap2 heq ⊢
  have H70 := Lib.hid h70
  have HEQ := Lib.hid heq
  clear hrr hss hn h70 hlen heq
  have te : ((n : Int) == (n : Int)) = true := by simp
  go_enter Try.func59, Try.ntmps59
  go_wp2_with fail
  go_loopw [17] (fun s17 wr => ∃ j : Nat, j ≤ n ∧ s17 = .int .i64 j ∧ Below w.heap.size w wr) (fun s17 _ => n - (intOf s17).toNat)
  case atStart => exact ⟨0, Nat.zero_le _, rfl, Below.refl _ _⟩
  case round =>
    obtain ⟨j, hj, rfl, hbw⟩ := hrel
    have HBW := Lib.hid hbw
    clear hbw
    by_cases hlt : j < n
    · have tl : decide ((j : Int) < (n : Int)) = true := decide_eq_true (by omega)
      have tl' : decide (j < n) = true := decide_eq_true hlt
      rcases HRR.out with h | ⟨g, off, rfl, hg, hc⟩
      · exfalso; have := HN.out; rw [h] at this; simp only [List.length_nil] at this; omega
      rcases HSS.out with h | ⟨g2, off2, rfl, hg2, hc2⟩
      · exfalso; have := HM.out; rw [h] at this; simp only [List.length_nil] at this; omega
      have hx0 := el_get (l := l) (j := j) (by rw [← HN.out]; exact hlt)
      have hx1 := el_get (l := m) (j := j) (by rw [← HM.out]; exact hlt)
      obtain ⟨c0, c1⟩ := hc _ _ hx0
      obtain ⟨d0, d1⟩ := hc2 _ _ hx1
      have c0 := (HBW.out.cell (p := ⟨g, off + j * 2, none⟩) hg).trans c0
      have c1 := (HBW.out.cell (p := ⟨g, off + j * 2 + 1, none⟩) hg).trans c1
      have d0 := (HBW.out.cell (p := ⟨g2, off2 + j * 2, none⟩) hg2).trans d0
      have d1 := (HBW.out.cell (p := ⟨g2, off2 + j * 2 + 1, none⟩) hg2).trans d1
      have h64 := H70.out
      have ek1 : wrap64 ((j : Int) + 1) = ((j + 1 : Nat) : Int) := by unfold wrap64; omega
      have bi : (j : Int) < (n : Int) := by omega
      have bj : j < n := hlt
      have HLT := Lib.hid hlt
      obtain ⟨z, hz1, hz2⟩ := HEQ.out j hlt
      generalize el l j = a at *
      generalize el m j = b at *
      obtain ⟨a0, a1⟩ := a
      obtain ⟨b0, b1⟩ := b
      have HZ1 := Lib.hid hz1
      have HZ2 := Lib.hid hz2
      have HG2 := Lib.hid hg2
      have HD0 := Lib.hid d0
      have HD1 := Lib.hid d1
      clear hj hlt hx0 hx1 h64 hg hc hg2 hc2 hz1 hz2
      go_upto_region 6 with fail
      have b1 : Below wr.heap.size wr (wr.alloc (Obj.cells #[.int .u32 (a0 : Nat), .int .u32 (a1 : Nat)] 26)) := (Below.refl _ _).alloc (Nat.le_refl _) _
      have HX := Lib.hid (B2.made wr (.int .u32 (a0 : Nat)) (.int .u32 (a1 : Nat)) 26)
      have HBW2 := Lib.hid (HBW.out.trans (b1.mono HBW.out.size))
      clear c0 c1 d0 d1
      have e0 := (b1.cell (p := ⟨g2, off2 + j * 2, none⟩) (Nat.lt_of_lt_of_le HG2.out HBW.out.size)).trans HD0.out
      have e1 := (b1.cell (p := ⟨g2, off2 + j * 2 + 1, none⟩) (Nat.lt_of_lt_of_le HG2.out HBW.out.size)).trans HD1.out
      clear b1 HD0 HD1
      generalize wr.alloc (Obj.cells #[.int .u32 (a0 : Nat), .int .u32 (a1 : Nat)] 26) = W2 at *
      generalize wr.heap.size = X at *
      go_upto_region 7 with fail
      have b2 : Below W2.heap.size W2 (W2.alloc (Obj.cells #[.int .u32 (b0 : Nat), .int .u32 (b1 : Nat)] 26)) := (Below.refl _ _).alloc (Nat.le_refl _) _
      have HY := Lib.hid (B2.made W2 (.int .u32 (b0 : Nat)) (.int .u32 (b1 : Nat)) 26)
      have HX2 := Lib.hid (B2.step HX.out b2)
      have HBW3 := Lib.hid (HBW2.out.trans (b2.mono HBW2.out.size))
      clear e0 e1 b2 HX HBW2 HBW
      generalize W2.alloc (Obj.cells #[.int .u32 (b0 : Nat), .int .u32 (b1 : Nat)] 26) = W3 at *
      generalize W2.heap.size = Y at *
      obtain ⟨x0, x1⟩ := HX2.out.cells
      obtain ⟨y0, y1⟩ := HY.out.cells
      go_wp2_with fail
      refine (equal_at a0 a1 b0 b1 _ _ HZ1.out HZ2.out _).mono ?_
      rintro e W4 ⟨rfl, hb⟩
      have HBW4 := Lib.hid (HBW3.out.trans (hb.mono HBW3.out.size))
      clear hb x0 x1 y0 y1 HX2 HY HBW3
      go_wp2_with fail
      try rw [ek1]
      go_roundw
      case rel => exact ⟨j + 1, HLT.out, rfl, HBW4.out⟩
      case measure =>
        have := HLT.out
        show n - ((j + 1 : Nat) : Int).toNat < n - (j : Int).toNat
        omega
    · have hjn : n = j := by omega
      have tl : decide ((j : Int) < (n : Int)) = false := decide_eq_false (by omega)
      have tl' : decide (j < n) = false := decide_eq_false hlt
      subst hjn
      clear hlt hj
      go_wp2_with fail
      go_ret
      exact ⟨rfl, HBW.out⟩
set_option maxRecDepth 100000 in
theorem same_at (v u : Value) (l m : List (Nat × Nat)) (w : World) (hr : Row w v l) (hs : Row w u m) (hlen : l.length = m.length) (h70 : l.length ≤ 1000) (heq : ∀ i, i < l.length → ∃ z : Int × Int, Nz (el l i) z ∧ Nz (el m i) z) :
    Calls Try.prog 34 #[v, u] w fun e w' => e = .returned (.bool true) ∧ Below w.heap.size w w' := by
  have H := fun w' (hb : w' = w) => eqf_at v u l m w' (hb ▸ hr) (hb ▸ hs) hlen h70 heq
  clear hr hs heq hlen h70
  go_enter Try.func34, Try.ntmps34
  go_wp2_with fail
  refine (H _ rfl).mono ?_
  rintro e W1 ⟨rfl, hb⟩
  go_wp2_with fail
  go_ret
  exact ⟨rfl, hb⟩
end Go.Proofs.Ytlbgpfddmkpakaa.Nu
namespace Go.Proofs.Ytlbgpfddmkpakaa.Nu
open Go.RowKit
set_option linter.unusedVariables false
set_option linter.unusedSimpArgs false
/-- An operation whose value is known, that changes the world. -/
theorem wpIn_valw {F : Fence} {n : Nat} {P : Program} {o : Oper} {a : Act} {w w' : World} {K : Act → World → Prop} {Q : Exit → Act → World → Prop} {v : Value} (hab : ∀ f, o.about P w a.eval = some f → F.fn f) (h : (o.semAt F.round a.eval).run P w = .ok (.value v) w') (hK : K (a.put o.dst v) w') : Oper.wpIn F n P o a w K Q :=
  ⟨hab, by rw [h]; exact hK⟩
def eight (X : Nat → Int × Int) : Array Value := #[.int .i16 (X 0).1, .int .i16 (X 0).2, .int .i16 (X 1).1, .int .i16 (X 1).2, .int .i16 (X 2).1, .int .i16 (X 2).2, .int .i16 (X 3).1, .int .i16 (X 3).2]
def In16 (z : Int × Int) : Prop := (Lit.int .i16 z.1).wf = true ∧ (Lit.int .i16 z.2).wf = true
def Eight (W : World) (b : Nat) (X : Nat → Int × Int) : Prop := W.heap[b]? = some (.cells (eight X) 68 (0, 0))
theorem Eight.step {W W' : World} {b : Nat} {X : Nat → Int × Int} (h : Eight W b X) (hb : Below W.heap.size W W') : Eight W' b X := (hb.block _ (blk_lt h)).trans h
theorem Eight.cells {W : World} {b : Nat} {X : Nat → Int × Int} (h : Eight W b X) {j : Nat} (hj : j < 4) : W.cell? ⟨b, j * 2, none⟩ = some (.int .i16 (X j).1) ∧ W.cell? ⟨b, j * 2 + 1, none⟩ = some (.int .i16 (X j).2) := by
  rw [cell_blk h, cell_blk h]
  have : j = 0 ∨ j = 1 ∨ j = 2 ∨ j = 3 := by omega
  rcases this with rfl | rfl | rfl | rfl <;> exact ⟨rfl, rfl⟩
def numL (X : Nat → Int × Int) (n : Nat) : List (Nat × Nat) := upto (fun j => nw (sm (X j).1) (sm (X j).2)) n
theorem det_small {x : Int} (hx : (Lit.int .i16 x).wf = true) (w : World) : Calls Try.prog 9 #[.int .i16 x] w fun e w' => e = .returned (.int .i64 (sm x)) ∧ Below w.heap.size w w' :=
  (small_at x hx w).mono fun e w' ⟨a, b⟩ => ⟨a, by rw [b]; exact Below.refl _ _⟩
set_option maxRecDepth 100000 in
set_option maxHeartbeats 4000000 in
theorem numbers_at (X : Nat → Int × Int) (hX : ∀ j, In16 (X j)) (b n : Nat) (hn : n ≤ 4) (w : World) (hb : Eight w b X) :
    Calls Try.prog 33 #[.slice (some ⟨b, 0, none⟩) n 4] w fun e w' => ∃ v, e = .returned v ∧ Own 26 w.heap.size w' v (numL X n) ∧ Below w.heap.size w w' := by
  have HX := Lib.hid hX
  have HN := Lib.hid hn
  have HB := Lib.hid hb
  clear hX hb hn
  go_enter Try.func33, Try.ntmps33
  go_wp2_with fail
  go_loopw [3, 8] (fun s3 s8 wr => ∃ j : Nat, ∃ c1 : Value, j ≤ n ∧ s8 = .int .i64 j ∧ s3 = c1 ∧ TN 26 w c1 (numL X j) (.slice none 0 0) [] [] wr) (fun _ s8 _ => n - (intOf s8).toNat)
  case atStart => exact ⟨0, _, Nat.zero_le _, rfl, rfl, TN.start w 26⟩
  case round =>
    obtain ⟨j, c1, hj, rfl, rfl, ht⟩ := hrel
    have HT1 := Lib.hid ht
    obtain ⟨pu, cu, rfl⟩ := ht.o1.slice
    clear ht
    have L1 : Hid ((numL X j).length = j) := upto_length _ _
    rw [L1.out] at HT1 ⊢
    by_cases hlt : j < n
    · have tl : decide ((j : Int) < (n : Int)) = true := decide_eq_true (by omega)
      have tl' : decide (j < n) = true := decide_eq_true hlt
      have hj4 : j < 4 := by have := HN.out; omega
      obtain ⟨c0, c1⟩ := HB.out.cells hj4
      have c0 := (HT1.out.below.cell (p := ⟨b, j * 2, none⟩) (blk_lt HB.out)).trans c0
      have c1 := (HT1.out.below.cell (p := ⟨b, j * 2 + 1, none⟩) (blk_lt HB.out)).trans c1
      have ek1 : wrap64 ((j : Int) + 1) = ((j + 1 : Nat) : Int) := by unfold wrap64; omega
      have bi : (j : Int) < (n : Int) := by omega
      have HC : Hid (numL X (j + 1) = numL X j ++ [nw (sm (X j).1) (sm (X j).2)]) := upto_succ _ _
      have HP := Lib.hid (HX.out j).1
      have HQ2 := Lib.hid (HX.out j).2
      generalize (X j).1 = p at *
      generalize (X j).2 = q at *
      have HLT := Lib.hid hlt
      have HLE : Hid ((numL X j).length ≤ 2000) := by show _ ≤ 2000; rw [L1.out]; omega
      obtain ⟨r0, r1, hr⟩ : ∃ u v, (u, v) = nw (sm p) (sm q) := ⟨_, _, rfl⟩
      rw [← hr] at HC
      have HR := Lib.hid hr
      clear hj hlt hj4 hr
      go_upto_region 5 with fail
      have HNE : Hid ((Value.slice pu j cu).ownBlock ≠ some wr.heap.size) := Lib.hid (fun e => by have := HT1.out.o1.lt _ e; omega)
      have HZ := Lib.hid (B2.made wr (.int .i16 p) (.int .i16 q) 23)
      have HT2 := Lib.hid (HT1.out.allocs (Obj.cells #[.int .i16 p, .int .i16 q] 23))
      have HZL : Hid (wr.heap.size < (wr.alloc (Obj.cells #[.int .i16 p, .int .i16 q] 23)).heap.size) := Lib.hid (by simp)
      generalize wr.alloc (Obj.cells #[.int .i16 p, .int .i16 q] 23) = W2 at *
      generalize wr.heap.size = Z at *
      clear c0 c1
      obtain ⟨V, hV⟩ : ∃ V : Nat → Value, V = fun i => ([.slice pu j cu, .pointer (some ⟨Z, 0, none⟩), .int .i16 p, .int .i64 (sm p), .pointer (some ⟨Z, 1, none⟩), .int .i16 q, .int .i64 (sm q), .agg #[.int .u32 r0, .int .u32 r1]] : List Value).getD i undef := ⟨_, rfl⟩
      have v0 : Hid (V 0 = .slice pu j cu) := Lib.hid (by rw [hV]; rfl)
      have v1 : Hid (V 1 = .pointer (some ⟨Z, 0, none⟩)) := Lib.hid (by rw [hV]; rfl)
      have v2 : Hid (V 2 = .int .i16 p) := Lib.hid (by rw [hV]; rfl)
      have v3 : Hid (V 3 = .int .i64 (sm p)) := Lib.hid (by rw [hV]; rfl)
      have v4 : Hid (V 4 = .pointer (some ⟨Z, 1, none⟩)) := Lib.hid (by rw [hV]; rfl)
      have v5 : Hid (V 5 = .int .i16 q) := Lib.hid (by rw [hV]; rfl)
      have v6 : Hid (V 6 = .int .i64 (sm q)) := Lib.hid (by rw [hV]; rfl)
      have v7 : Hid (V 7 = .agg #[.int .u32 r0, .int .u32 r1]) := Lib.hid (by rw [hV]; rfl)
      clear hV
      refine (wpIn_wide (n := 20)).1 ?_
      refine wpIn_region_cl (by kernel_rfl) (back_of (by kernel_rfl)) (fun d act Wn => ∃ y : Nat → Value, act = { tmps := #[.slice (some ⟨b, 0, none⟩) n 4, undef, .slice none 0 0, y 10, undef, .pointer (some ⟨Z, 0, none⟩), .slice (some ⟨b, 0, none⟩) n 4, .int .i64 n, .int .i64 j, .bool true, .pointer (some ⟨b, j * 2, none⟩), .agg #[.int .i16 p, .int .i16 q], y 0, y 1, y 2, y 3, y 4, y 5, y 6, y 7, y 8, y 9, u22, undef], defers := [] } ∧ QT 26 w W2 (.slice pu j cu) (numL X j) (.slice none 0 0) [] V 8 (r0, r1) d y Wn) ?r5 ?s5 ?f5
      case r5 => exact fun d hd => ⟨(upd (upd (upd (upd (upd (upd (upd (upd (upd (upd (upd (fun _ => undef) 0 (u12)) 1 (u13)) 2 (u14)) 3 (u15)) 4 (u16)) 5 (u17)) 6 (u18)) 7 (u19)) 8 (u20)) 9 (u21)) 10 (.slice pu j cu)), rfl, QT.start HT2.out rfl (fun i hi => hd i hi)⟩
      case s5 =>
        rintro i oi hop d act Wx ⟨y, rfl, hR⟩ hSi hdep hcl
        have hi : i < 11 := (Array.getElem?_eq_some_iff.1 hop).1
        have HQ := Lib.hid hR
        have HD := Lib.hid hdep
        have HSI := Lib.hid hSi
        have HCL := Lib.hid hcl
        clear hR hdep hSi hcl
        obtain rfl | rfl | rfl | rfl | rfl | rfl | rfl | rfl | rfl | rfl | rfl : i = 0 ∨ i = 1 ∨ i = 2 ∨ i = 3 ∨ i = 4 ∨ i = 5 ∨ i = 6 ∨ i = 7 ∨ i = 8 ∨ i = 9 ∨ i = 10 := by omega
        · have hoo := hop
          obtain rfl := Option.some.inj hop
          have SI : d 0 = false := HSI.out
          have eu : y 10 = .slice pu j cu := HQ.out.c4 (Bool.eq_false_iff.2 (fun h => by have h' := HCL.out 10 _ rfl h ⟨0, .phase⟩ (by simp) rfl; have h' : d 0 = true := h'; rw [SI] at h'; cases h'))
          clear SI
          clear HD HSI HCL
          refine op_wanted hoo (by kernel_rfl) fun K hK => ?_
          clear hoo
          refine wpIn_val (v := .slice pu j cu) (fun _ _ => trivial) (by go_simp) ?_
          exact hK _ _ ⟨upd y 0 (V 0), by rw [v0.out]; kernel_rfl, HQ.out.pure (i := 0) (by omega)⟩
        · have hoo := hop
          obtain rfl := Option.some.inj hop
          clear HD HSI HCL
          refine op_wanted hoo (by kernel_rfl) fun K hK => ?_
          clear hoo
          refine wpIn_val (v := .pointer (some ⟨Z, 0, none⟩)) (fun _ _ => trivial) (by go_simp) ?_
          exact hK _ _ ⟨upd y 1 (V 1), by rw [v1.out]; kernel_rfl, HQ.out.pure (i := 1) (by omega)⟩
        · have hoo := hop
          obtain rfl := Option.some.inj hop
          have t1 : d 1 = true := HD.out ⟨1, .data⟩ (by simp) rfl
          have e1 : y 1 = .pointer (some ⟨Z, 0, none⟩) := (HQ.out.val 1 (by omega) t1).trans v1.out
          obtain ⟨k0, k1⟩ := B2.cells ((HQ.out.bz Z HZL.out HNE.out).trans HZ.out)
          clear HD HSI HCL
          refine op_wanted hoo (by kernel_rfl) fun K hK => ?_
          clear hoo
          refine wpIn_val (v := .int .i16 p) (fun _ _ => trivial) (by go_simp) ?_
          exact hK _ _ ⟨upd y 2 (V 2), by rw [v2.out]; kernel_rfl, HQ.out.pure (i := 2) (by omega)⟩
        · have hoo := hop
          obtain rfl := Option.some.inj hop
          have t2 : d 2 = true := HD.out ⟨2, .data⟩ (by simp) rfl
          have e2 : y 2 = .int .i16 p := (HQ.out.val 2 (by omega) t2).trans v2.out
          clear HD HSI HCL
          refine op_wanted hoo (by kernel_rfl) fun K hK => ?_
          clear hoo
          refine wpIn_det' (v := .int .i64 (sm p)) (by go_simp) (det_small HP.out _) fun Wn hb => ?_
          exact hK _ _ ⟨upd y 3 (V 3), by rw [v3.out]; kernel_rfl, (HQ.out.walk hb).pure (i := 3) (by omega)⟩
        · have hoo := hop
          obtain rfl := Option.some.inj hop
          clear HD HSI HCL
          refine op_wanted hoo (by kernel_rfl) fun K hK => ?_
          clear hoo
          refine wpIn_val (v := .pointer (some ⟨Z, 1, none⟩)) (fun _ _ => trivial) (by go_simp) ?_
          exact hK _ _ ⟨upd y 4 (V 4), by rw [v4.out]; kernel_rfl, HQ.out.pure (i := 4) (by omega)⟩
        · have hoo := hop
          obtain rfl := Option.some.inj hop
          have t4 : d 4 = true := HD.out ⟨4, .data⟩ (by simp) rfl
          have e4 : y 4 = .pointer (some ⟨Z, 1, none⟩) := (HQ.out.val 4 (by omega) t4).trans v4.out
          obtain ⟨k0, k1⟩ := B2.cells ((HQ.out.bz Z HZL.out HNE.out).trans HZ.out)
          clear HD HSI HCL
          refine op_wanted hoo (by kernel_rfl) fun K hK => ?_
          clear hoo
          refine wpIn_val (v := .int .i16 q) (fun _ _ => trivial) (by go_simp) ?_
          exact hK _ _ ⟨upd y 5 (V 5), by rw [v5.out]; kernel_rfl, HQ.out.pure (i := 5) (by omega)⟩
        · have hoo := hop
          obtain rfl := Option.some.inj hop
          have t5 : d 5 = true := HD.out ⟨5, .data⟩ (by simp) rfl
          have e5 : y 5 = .int .i16 q := (HQ.out.val 5 (by omega) t5).trans v5.out
          clear HD HSI HCL
          refine op_wanted hoo (by kernel_rfl) fun K hK => ?_
          clear hoo
          refine wpIn_det' (v := .int .i64 (sm q)) (by go_simp) (det_small HQ2.out _) fun Wn hb => ?_
          exact hK _ _ ⟨upd y 6 (V 6), by rw [v6.out]; kernel_rfl, (HQ.out.walk hb).pure (i := 6) (by omega)⟩
        · have hoo := hop
          obtain rfl := Option.some.inj hop
          have t3 : d 3 = true := HD.out ⟨3, .data⟩ (by simp) rfl
          have e3 : y 3 = .int .i64 (sm p) := (HQ.out.val 3 (by omega) t3).trans v3.out
          have t6 : d 6 = true := HD.out ⟨6, .data⟩ (by simp) rfl
          have e6 : y 6 = .int .i64 (sm q) := (HQ.out.val 6 (by omega) t6).trans v6.out
          clear HD HSI HCL
          refine op_wanted hoo (by kernel_rfl) fun K hK => ?_
          clear hoo
          refine wpIn_det' (v := .agg #[.int .u32 r0, .int .u32 r1]) (by go_simp) (det_of HR.out _) fun Wn hb => ?_
          exact hK _ _ ⟨upd y 7 (V 7), by rw [v7.out]; kernel_rfl, (HQ.out.walk hb).pure (i := 7) (by omega)⟩
        · have hoo := hop
          obtain rfl := Option.some.inj hop
          have t7 : d 7 = true := HD.out ⟨7, .data⟩ (by simp) rfl
          have e7 : y 7 = .agg #[.int .u32 r0, .int .u32 r1] := (HQ.out.val 7 (by omega) t7).trans v7.out
          have SI : d 8 = false := HSI.out
          clear HD HSI HCL
          refine op_wanted hoo (by kernel_rfl) fun K hK => ?_
          clear hoo
          refine wpIn_valw (v := .slice (some ⟨Wx.heap.size, 0, none⟩) 1 1) (w' := Wx.alloc (Obj.cells #[.int .u32 (r0 : Nat), .int .u32 (r1 : Nat)] 26)) (fun _ _ => trivial) (by go_simp) ?_
          exact hK _ _ ⟨upd y 8 (.slice (some ⟨Wx.heap.size, 0, none⟩) 1 1), by kernel_rfl, HQ.out.make SI⟩
        · have hoo := hop
          obtain rfl := Option.some.inj hop
          have t0 : d 0 = true := HD.out ⟨0, .data⟩ (by simp) rfl
          have e0 : y 0 = .slice pu j cu := (HQ.out.val 0 (by omega) t0).trans v0.out
          have t8 : d 8 = true := HD.out ⟨8, .data⟩ (by simp) rfl
          have SI : d 9 = false := HSI.out
          obtain ⟨X, eX, hT⟩ := HQ.out.c1 t8 SI
          clear HD HSI HCL
          refine op_wanted hoo (by kernel_rfl) fun K hK => ?_
          clear hoo
          refine wpIn_app nt26 hT (.tmp 12) (.tmp 20) rfl e0 eX HLE.out fun g8 k8 Wn hN hB => ?_
          exact hK _ _ ⟨upd y 9 _, by kernel_rfl, HQ.out.app t8 SI hN hB⟩
        · have hoo := hop
          obtain rfl := Option.some.inj hop
          have t9 : d 9 = true := HD.out ⟨9, .data⟩ (by simp) rfl
          clear HD HSI HCL
          refine op_wanted hoo (by kernel_rfl) fun K hK => ?_
          clear hoo
          refine wpIn_val (v := y 9) (fun _ _ => trivial) (by go_simp) ?_
          exact hK _ _ ⟨upd y 10 (y 9), by kernel_rfl, HQ.out.asg t9⟩
      case f5 =>
        rintro d act Wx ⟨y, rfl, hR⟩ hall
        obtain ⟨g8, k8, q10, hT8⟩ := hR.done (fun i hi => hall i hi)
        have q10' : y 10 = _ := q10
        rw [q10']
        have HT8 := Lib.hid hT8
        rw [L1.out]
        rw [L1.out] at HT8
        clear hR hall hT8
        try dsimp only
        go_wp2_with fail
        try rw [ek1]
        go_roundw
        case rel => exact ⟨j + 1, _, HLT.out, rfl, rfl, by rw [HC.out]; exact HT8.out⟩
        case measure =>
          have := HLT.out
          show n - ((j + 1 : Nat) : Int).toNat < n - (j : Int).toNat
          omega
    · have hjn : n = j := by omega
      have tl : decide ((j : Int) < (n : Int)) = false := decide_eq_false (by omega)
      have tl' : decide (j < n) = false := decide_eq_false hlt
      subst hjn
      clear hlt hj
      go_wp2_with fail
      go_ret
      exact ⟨_, rfl, HT1.out.o1, HT1.out.below⟩
end Go.Proofs.Ytlbgpfddmkpakaa.Nu
