/- Parts Ta, Tb of the proof. -/
import Derived.RangeFuncNested
import Derived.RangeFuncCalls
import Derived.RangeFuncBox
import Derived.Shelf.Abstract
import Derived.OwnWalkIn
import Derived.TacticsInMore
import Derived.Test.YtgbafpjeapkklaaG0
namespace Go.Proofs.Ytgbafpjeapkklaa.Mb
open Go.RowKit Go.Shelf
set_option linter.unusedVariables false
set_option linter.unusedSimpArgs false
section
variable {F : Fence} {n : Nat} {P : Program} {ops : Array Oper} {Q : Exit → Act → World → Prop}
def left (ops : Array Oper) (listed : Array Bool) : Nat := (List.range ops.size).countP fun i => !listed.getD i true
theorem left_set {listed : Array Bool} {i : Nat} (hi : i < ops.size) (h : listed.getD i true = false) : left ops (listed.setIfInBounds i true) + 1 = left ops listed := by
 unfold left
 have hlt : i < listed.size := by
  rcases Nat.lt_or_ge i listed.size with h' | h'
  ·exact h'
  ·simp [Array.getElem?_eq_none h'] at h
 have key : ∀ l : List Nat, l.Nodup → (l.countP fun j => !(listed.setIfInBounds i true).getD j true) + (if i ∈ l then 1 else 0) = l.countP fun j => !listed.getD j true := by
  intro l
  induction l with
  | nil => intro _; simp
  | cons x l ih =>
   intro hnd
   obtain ⟨h1, h2⟩ := List.nodup_cons.1 hnd
   have ih := ih h2
   rw [List.countP_cons, List.countP_cons]
   by_cases hx : i = x
   ·subst hx
    have e1 : (listed.setIfInBounds i true).getD i true = true := by simp [hlt]
    rw [if_neg h1] at ih
    rw [e1, h]
    simp at ih ⊢
    exact ih
   ·rw [getD_set_ne true hx]
    have e2 : (i ∈ x :: l) ↔ i ∈ l := by simp [hx]
    simp only [e2]
    omega
 have := key (List.range ops.size) List.nodup_range
 rw [if_pos (by simpa using hi)] at this
 exact this
theorem wpAnyIn_inv (hback : ∀ (i : Nat) (o : Oper), ops[i]? = some o → ∀ e ∈ o.after, e.on < i)
  (I : (Nat → Bool) → Act → World → Prop)
  (step : ∀ (i : Nat) (o : Oper), ops[i]? = some o → ∀ (S : Nat → Bool) a w, I S a w → S i = false → (∀ e ∈ o.after, Region.binds .any e = true → S e.on = true) →
   wpOpIn F n P ops Q i (I fun j => j == i || S j) a w)
  (done : ∀ S a w, I S a w → (∀ i, i < ops.size → S i = true) → Q .normal a w) :
  ∀ (fuel : Nat) (listed : Array Bool) a w, listed.size = ops.size → left ops listed ≤ fuel → I (fun j => listed.getD j true) a w → wpAnyIn F n P .any ops Q fuel listed a w := by
 have hall : ∀ listed : Array Bool, listed.size = ops.size → Region.ready .any ops listed = [] → ∀ i, i < ops.size → listed.getD i true = true := by
  intro listed hsz hr i
  induction i using Nat.strongRecOn with
  | ind i ih =>
   intro hi
   cases hl : listed.getD i true with
   | true => rfl
   | false =>
    exfalso
    have : i ∈ Region.ready .any ops listed := by
     rw [mem_ready]
     refine ⟨hl, ops[i], by simp [hi], fun e he _ => ?_⟩
     have hlt := hback i ops[i] (by simp [hi]) e he
     have := ih e.on hlt (by omega)
     simp [show e.on < listed.size by omega] at this ⊢
     exact this
    rw [hr] at this
    cases this
 intro fuel
 induction fuel with
 | zero =>
  intro listed a w hsz hleft hI
  have hr : Region.ready .any ops listed = [] := by
   rw [List.eq_nil_iff_forall_not_mem]
   intro j hj
   obtain ⟨h0, o, ho, _⟩ := mem_ready.1 hj
   have hlt := (Array.getElem?_eq_some_iff.1 ho).1
   have := left_set hlt h0
   omega
  exact ⟨hr, done _ a w hI (hall listed hsz hr)⟩
 | succ fuel ih =>
  intro listed a w hsz hleft hI
  refine ⟨fun hr => done _ a w hI (hall listed hsz hr), fun i hi => ?_⟩
  obtain ⟨h0, o, ho, hdep⟩ := mem_ready.1 hi
  have hlt := (Array.getElem?_eq_some_iff.1 ho).1
  have hs := step i o ho _ a w hI h0 (fun e he hb => by
   have h := hdep e he hb
   have hel := hback i o ho e he
   simp [show e.on < listed.size by omega] at h ⊢
   exact h)
  refine wpOpIn_mono (fun a' w' h' => ih _ a' w' (by simp [hsz]) (by have := left_set hlt h0; omega) ?_) hs
  have e : (fun j => (listed.setIfInBounds i true).getD j true) = fun j => j == i || listed.getD j true := by
   funext j
   by_cases hj : i = j
   ·subst hj; simp [show i < listed.size by omega]
   ·rw [getD_set_ne true hj]
    have : (j == i) = false := by simp; omega
    simp [this]
  rw [e]
  exact h'
theorem wpIn_region_inv {id : Nat} {a : Act} {w : World} (hm : P.follows .mixedOrders = true) (hback : ∀ (i : Nat) (o : Oper), ops[i]? = some o → ∀ e ∈ o.after, e.on < i)
  (I : (Nat → Bool) → Act → World → Prop) (h0 : ∀ S, (∀ i, i < ops.size → S i = false) → I S a w.drew)
  (step : ∀ (i : Nat) (o : Oper), ops[i]? = some o → ∀ (S : Nat → Bool) a w, I S a w → S i = false → (∀ e ∈ o.after, Region.binds .any e = true → S e.on = true) →
   wpOpIn F n P ops Q i (I fun j => j == i || S j) a w)
  (done : ∀ S a w, I S a w → (∀ i, i < ops.size → S i = true) → Q .normal a w) : (Code.region id ops true).wpIn F n P Q a w := by
 refine wpIn_region_any hm ?_
 refine wpAnyIn_inv hback I step done _ _ _ _ (by simp) ?_ (h0 _ fun i hi => by simp [hi])
 exact Nat.le_trans List.countP_le_length (by simp)
end
theorem back_of {ops : Array Oper} (h : ((List.range ops.size).all fun i => ((ops[i]?).map fun o => o.after.all fun e => decide (e.on < i)).getD true) = true) : ∀ (i : Nat) (o : Oper), ops[i]? = some o → ∀ e ∈ o.after, e.on < i := by
 intro i o ho e he
 have hlt := (Array.getElem?_eq_some_iff.1 ho).1
 have := List.all_eq_true.1 h i (by simpa using hlt)
 rw [ho] at this
 simp only [Option.map_some, Option.getD_some, Array.all_eq_true_iff_forall_mem] at this
 simpa using this e he
def upd (y : Nat → Value) (i : Nat) (v : Value) : Nat → Value := fun j => if j = i then v else y j
theorem upd_same (y : Nat → Value) (i : Nat) (v : Value) : upd y i v i = v := if_pos rfl
theorem upd_other (y : Nat → Value) {i j : Nat} (v : Value) (h : j ≠ i) : upd y i v j = y j := if_neg h
theorem d_other {d : Nat → Bool} {i j : Nat} (h : j ≠ i) : (j == i || d j) = d j := by rw [beq_false_of_ne h]; rfl
section
variable {F : Fence} {n : Nat} {P : Program} {ops : Array Oper} {Q : Exit → Act → World → Prop}
theorem oW {i : Nat} {o : Oper} {K : Act → World → Prop} {a : Act} {w : World} (ho : ops[i]? = some o) (hw : Region.wanted o (yielded ops a.tmps) = true)
  (h : ∀ K' : Act → World → Prop, (∀ a w, K a w → K' a w) → Oper.wpIn F n P o a w K' Q) : wpOpIn F n P ops Q i K a w :=
 wpOpIn_step ho fun K' hK => by rw [if_pos hw]; exact h K' hK
theorem oU {i : Nat} {o : Oper} {K : Act → World → Prop} {a : Act} {w : World} (ho : ops[i]? = some o) (hw : Region.wanted o (yielded ops a.tmps) = false)
  (hab : ∀ f, o.about P w a.eval = some f → F.fn f) (h : K (a.put o.dst undef) w) : wpOpIn F n P ops Q i K a w :=
 wpOpIn_step ho fun K' hK => by rw [hw]; exact ⟨hab, hK _ _ h⟩
theorem wV {o : Oper} {a : Act} {w : World} {K : Act → World → Prop} {v : Value} (hab : ∀ f, o.about P w a.eval = some f → F.fn f) (h : (o.semAt F.round a.eval).run P w = .ok (.value v) w) (hK : K (a.put o.dst v) w) : Oper.wpIn F n P o a w K Q :=
 ⟨hab, by rw [h]; exact hK⟩
end
theorem wpIn_det {n : Nat} {o : Oper} {a : Act} {w : World} {K : Act → World → Prop} {Q : Exit → Act → World → Prop} {f : FuncId} {args : Array Value} {v : Value} (h : (o.semAt Fence.wide.round a.eval).run Try.prog w = .ok (.enter f args) w)
  (hd : Calls Try.prog f args w fun e w' => e = .returned v ∧ Below w.heap.size w w')
  (hK : ∀ w', Below w.heap.size w w' → K (a.put o.dst v) w') : Oper.wpIn Fence.wide n Try.prog o a w K Q := by
 refine ⟨fun _ _ => trivial, ?_⟩
 rw [h, Oper.uponIn_enter]
 refine ⟨(fun h => by cases h), ?_⟩
 refine (callsIn_wide.2 hd).mono ?_
 rintro e w' ⟨rfl, hb⟩
 exact hK w' hb
structure QA (W : World) (V : Nat → Value) (A : Nat) (d : Nat → Bool) (y : Nat → Value) (Wx : World) : Prop where
 bu : Below W.heap.size W Wx
 val : ∀ i, i < A → d i = true → y i = V i
theorem QA.start {W : World} {V : Nat → Value} {A : Nat} {d : Nat → Bool} {y : Nat → Value} (hd : ∀ i, i < A → d i = false) : QA W V A d y W.drew :=
 ⟨(Below.refl _ _).drew, fun i hi t => by rw [hd i hi] at t; cases t⟩
theorem QA.walk {W Wx Wn : World} {V : Nat → Value} {A : Nat} {d : Nat → Bool} {y : Nat → Value} (h : QA W V A d y Wx) (hb : Below Wx.heap.size Wx Wn) : QA W V A d y Wn := ⟨h.bu.trans (hb.mono h.bu.size), h.val⟩
theorem QA.pure {W Wx : World} {V : Nat → Value} {A : Nat} {d : Nat → Bool} {y : Nat → Value} (h : QA W V A d y Wx) {i : Nat} (hi : i < A) : QA W V A (fun j => j == i || d j) (upd y i (V i)) Wx :=
 ⟨h.bu, fun j hj t => by
  by_cases e : j = i
  ·subst e; exact upd_same _ _ _
  ·rw [upd_other _ _ e]; exact h.val j hj (by rwa [d_other e] at t)⟩
end Go.Proofs.Ytgbafpjeapkklaa.Mb
namespace Go.Proofs.Ytgbafpjeapkklaa.Mb
open Go.RowKit
set_option linter.unusedVariables false
set_option linter.unusedSimpArgs false
abbrev T3 := Int × Int × Int
def InR (N : Nat) (n : Int) : Prop := 0 ≤ n ∧ n < N
theorem is_no (A B : Option Addr) (L cap l2 c2 : Nat) (a b : Int) (e : Bool) (n : Int) (h : ¬ InR L n) (w : World) :
  Calls Try.prog 66 #[.agg #[.slice A L cap, .int .i64 a, .int .i64 b, .slice B l2 c2, .bool e], .int .i64 n] w fun e w' => e = .returned (.bool false) ∧ Below w.heap.size w w' := by
 by_cases h1 : 0 ≤ n
 ·have t1 : decide (0 ≤ n) = true := decide_eq_true h1
  have t2 : decide (n < (L : Int)) = false := decide_eq_false (fun h2 => h ⟨h1, h2⟩)
  go_enter Try.func66, Try.ntmps66
  go_wp2_with fail
  go_ret
  exact ⟨rfl, (Below.refl _ _).alloc (Nat.le_refl _) _⟩
 ·have t1 : decide (0 ≤ n) = false := decide_eq_false h1
  go_enter Try.func66, Try.ntmps66
  go_wp2_with fail
  go_ret
  exact ⟨rfl, (Below.refl _ _).alloc (Nat.le_refl _) _⟩
structure Gx (w : World) (ns : Value) (m d : Int) (ps : Value) (b : Bool) (g : Nat) (W : World) : Prop where
 below : Below w.heap.size w W
 box : W.heap[g]? = some (.cells #[ns, .int .i64 m, .int .i64 d, ps, .bool b] 28 (0, 0))
theorem Gx.step {w : World} {ns : Value} {m d : Int} {ps : Value} {b : Bool} {g : Nat} {W W' : World} (h : Gx w ns m d ps b g W) (hb : Below W.heap.size W W') : Gx w ns m d ps b g W' :=
 ⟨h.below.trans (hb.mono h.below.size), (hb.block g (blk_lt h.box)).trans h.box⟩
theorem Gx.facts {w : World} {ns : Value} {m d : Int} {ps : Value} {b : Bool} {g : Nat} {W : World} (h : Gx w ns m d ps b g W) :
  W.cell? ⟨g, 0, none⟩ = some ns ∧ W.cell? ⟨g, 1, none⟩ = some (.int .i64 m) ∧ W.cell? ⟨g, 2, none⟩ = some (.int .i64 d) ∧ W.cell? ⟨g, 3, none⟩ = some ps ∧ W.cell? ⟨g, 4, none⟩ = some (.bool b) :=
 ⟨cB h.box 0, cB h.box 1, cB h.box 2, cB h.box 3, cB h.box 4⟩
def NodeOk (N k : Nat) (x : T3) : Prop := (x.2.2 = -1 ∨ InR N x.2.2) ∧ (0 < k → 0 ≤ x.2.1)
def PushOk (ns ps : List T3) (k : Nat) (p : T3) : Prop :=
 InR ns.length p.2.1 ∧ InR ns.length p.2.2 ∧ 0 ≤ p.1 ∧ (∀ j q, j + 1 = k → ps[j]? = some q → q.1 < p.1) ∧ (∀ x, ns[p.2.1.toNat]? = some x → x.2.2 = -1) ∧ (∀ x, ns[p.2.2.toNat]? = some x → x.2.1 = p.1)
structure Formed (ns : List T3) (last done : Int) (ps : List T3) : Prop where
 n1 : 1 ≤ ns.length
 n2 : ns.length ≤ 2000
 last : InR ns.length last
 done : InR ns.length done
 first : ∀ x, ns[0]? = some x → x.1 = 0 ∧ x.2.1 = -1
 node : ∀ k x, ns[k]? = some x → NodeOk ns.length k x
 push : ∀ k p, ps[k]? = some p → PushOk ns ps k p
theorem bool_no {b : Bool} {P : Prop} (h : b = true ↔ P) (hn : ¬ P) : b = false := by
 cases b
 ·rfl
 ·exact absurd (h.1 rfl) hn
theorem Tri.at {w : World} {A : Option Addr} {n cap : Nat} {l : List T3} (h : Tri w (.slice A n cap) l) {k : Nat} {x : T3} (hx : l[k]? = some x) :
  ∃ g off, A = some ⟨g, off, none⟩ ∧ g < w.heap.size ∧ ∀ (k : Nat) (x : T3), l[k]? = some x → w.cell? ⟨g, off + k * 3, none⟩ = some (.int .i64 x.1) ∧ w.cell? ⟨g, off + k * 3 + 1, none⟩ = some (.int .i64 x.2.1) ∧ w.cell? ⟨g, off + k * 3 + 2, none⟩ = some (.int .i64 x.2.2) := by
 obtain ⟨p, c, e, _, h0 | h1⟩ := h
 ·rw [h0] at hx; simp at hx
 ·injection e with e1 e2 e3
  subst e1
  exact h1
set_option maxRecDepth 100000 in
set_option maxHeartbeats 8000000 in
theorem formed_g (ns ps : List T3) (last done : Int) (em : Bool) (b : Bool) (hb : b = true ↔ Formed ns last done ps) (vn vp : Value) (w : World) (hn : Tri w vn ns) (hp : Tri w vp ps) (hl1 : ns.length ≤ 100000) (hl2 : ps.length ≤ 100000) :
  Calls Try.prog 53 #[.agg #[vn, .int .i64 last, .int .i64 done, vp, .bool em]] w fun e w' => e = .returned (.bool b) ∧ Below w.heap.size w w' := by
 obtain ⟨A, cap, rfl⟩ := hn.slice
 obtain ⟨B, cap2, rfl⟩ := hp.slice
 have HN := Lib.hid hn
 have HP := Lib.hid hp
 have HB := Lib.hid hb
 obtain ⟨N, hN⟩ : ∃ N, N = ns.length := ⟨_, rfl⟩
 obtain ⟨M, hM⟩ : ∃ M, M = ps.length := ⟨_, rfl⟩
 rw [← hN] at hl1 HN ⊢
 rw [← hM] at hl2 HP ⊢
 have HNN := Lib.hid hN
 have HMM := Lib.hid hM
 have HS0 : Hid (Gx w (.slice A N cap) last done (.slice B M cap2) em w.heap.size (w.alloc (Obj.cells #[.slice A N cap, .int .i64 last, .int .i64 done, .slice B M cap2, .bool em] 28))) :=
  Lib.hid ⟨(Below.refl _ _).alloc (Nat.le_refl _) _, (MapKept.heap_alloc _ _).1⟩
 clear hn hp hb hN hM
 by_cases hN1 : N < 1
 ·obtain rfl := bool_no HB.out (fun h => by have := h.n1; rw [← HNN.out] at this; omega)
  have t1 : decide ((N : Int) < 1) = true := decide_eq_true (by omega)
  go_enter Try.func53, Try.ntmps53
  go_upto_region 1 with fail
  generalize (w.alloc (Obj.cells #[.slice A N cap, .int .i64 last, .int .i64 done, .slice B M cap2, .bool em] 28)) = W0 at *
  obtain ⟨c0, c1, c2, c3, c4⟩ := HS0.out.facts
  go_wp2_with fail
  go_ret
  exact ⟨rfl, HS0.out.below⟩
 by_cases hN2 : 2000 < N
 ·obtain rfl := bool_no HB.out (fun h => by have := h.n2; rw [← HNN.out] at this; omega)
  have t1 : decide ((N : Int) < 1) = false := decide_eq_false (by omega)
  have t2 : decide ((2000 : Int) < (N : Int)) = true := decide_eq_true (by omega)
  have t2' : decide (2000 < N) = true := decide_eq_true hN2
  go_enter Try.func53, Try.ntmps53
  go_upto_region 1 with fail
  generalize (w.alloc (Obj.cells #[.slice A N cap, .int .i64 last, .int .i64 done, .slice B M cap2, .bool em] 28)) = W0 at *
  obtain ⟨c0, c1, c2, c3, c4⟩ := HS0.out.facts
  go_wp2_with fail
  go_ret
  exact ⟨rfl, HS0.out.below⟩
 have t1 : decide ((N : Int) < 1) = false := decide_eq_false (by omega)
 have t2 : decide ((2000 : Int) < (N : Int)) = false := decide_eq_false (by omega)
 have t2' : decide (2000 < N) = false := decide_eq_false hN2
 have H1 : Hid (1 ≤ N ∧ N ≤ 2000) := Lib.hid ⟨by omega, by omega⟩
 have HM2 := Lib.hid hl2
 clear hN1 hN2 hl1 hl2
 go_enter Try.func53, Try.ntmps53
 go_upto_region 1 with fail
 generalize (w.alloc (Obj.cells #[.slice A N cap, .int .i64 last, .int .i64 done, .slice B M cap2, .bool em] 28)) = W0 at *
 obtain ⟨c0, c1, c2, c3, c4⟩ := HS0.out.facts
 go_wp2_with fail
 clear t1 t2 t2'
 by_cases hla : InR N last
 rotate_left
 ·refine (is_no _ _ _ _ _ _ _ _ _ last hla _).mono ?_
  rintro e W1 ⟨rfl, hb1⟩
  have HS1 := Lib.hid (HS0.out.step hb1)
  obtain rfl := bool_no HB.out (fun h => hla (HNN.out ▸ h.last))
  clear hb1 c0 c1 c2 c3 c4
  go_wp2_with fail
  go_ret
  exact ⟨rfl, HS1.out.below⟩
 refine (is_at _ _ _ _ _ _ _ _ _ last hla.1 hla.2 _).mono ?_
 rintro e W1 ⟨rfl, hb1⟩
 have HS1 := Lib.hid (HS0.out.step hb1)
 clear hb1 c0 c1 c2 c3 c4 HS0
 obtain ⟨c0, c1, c2, c3, c4⟩ := HS1.out.facts
 go_wp2_with fail
 by_cases hdo : InR N done
 rotate_left
 ·refine (is_no _ _ _ _ _ _ _ _ _ done hdo _).mono ?_
  rintro e W2 ⟨rfl, hb1⟩
  have HS2 := Lib.hid (HS1.out.step hb1)
  obtain rfl := bool_no HB.out (fun h => hdo (HNN.out ▸ h.done))
  clear hb1 c0 c1 c2 c3 c4
  go_wp2_with fail
  go_ret
  exact ⟨rfl, HS2.out.below⟩
 refine (is_at _ _ _ _ _ _ _ _ _ done hdo.1 hdo.2 _).mono ?_
 rintro e W2 ⟨rfl, hb1⟩
 have HS2 := Lib.hid (HS1.out.step hb1)
 clear hb1 c0 c1 c2 c3 c4 HS1
 have HLA := Lib.hid hla
 have HDO := Lib.hid hdo
 clear hla hdo
 obtain ⟨x00, hx0⟩ : ∃ x, ns[0]? = some x := ⟨ns[0]'(by rw [← HNN.out]; exact H1.out.1), by simp⟩
 obtain ⟨g, off, rfl, hg, hc⟩ := HN.out.at hx0
 have HG := Lib.hid hg
 have HC := Lib.hid hc
 obtain ⟨z0, z1, z2⟩ := hc 0 _ hx0
 obtain ⟨v0, v1, v2⟩ := x00
 have HX0 := Lib.hid hx0
 have y0 : W2.cell? ⟨g, off, none⟩ = some (.int .i64 v0) := by
  have := (HS2.out.below.cell (p := ⟨g, off + 0 * 3, none⟩) hg).trans z0
  simpa using this
 have y1 : W2.cell? ⟨g, off + 1, none⟩ = some (.int .i64 v1) := by
  have := (HS2.out.below.cell (p := ⟨g, off + 0 * 3 + 1, none⟩) hg).trans z1
  simpa using this
 have y2 : W2.cell? ⟨g, off + 2, none⟩ = some (.int .i64 v2) := by
  have := (HS2.out.below.cell (p := ⟨g, off + 0 * 3 + 2, none⟩) hg).trans z2
  simpa using this
 obtain ⟨N', hN'⟩ : ∃ N', N = N' + 1 := ⟨N - 1, by have := H1.out.1; omega⟩
 have harr := toArr g off N' cap W2
 rw [← hN'] at harr
 clear z0 z1 z2 hg hc hx0 hN'
 obtain ⟨c0, c1, c2, c3, c4⟩ := HS2.out.facts
 go_upto_region 4 with fail
 obtain ⟨XF, hX⟩ : ∃ XF, XF = W2.heap.size := ⟨_, rfl⟩
 obtain ⟨W3, hW3⟩ : ∃ W3, W3 = W2.alloc (Obj.cells #[.int .i64 v0, .int .i64 v1, .int .i64 v2] 134) := ⟨_, rfl⟩
 rw [← hW3, ← hX]
 have hb3 : Below W2.heap.size W2 W3 := by rw [hW3]; exact (Below.refl _ _).alloc (Nat.le_refl _) _
 have hx3 : W3.heap[XF]? = some (.cells #[.int .i64 v0, .int .i64 v1, .int .i64 v2] 134 (0, 0)) := by rw [hW3, hX]; exact (MapKept.heap_alloc _ _).1
 have x0 : W3.cell? ⟨XF, 0, none⟩ = some (.int .i64 v0) := cB hx3 0
 have x1 : W3.cell? ⟨XF, 1, none⟩ = some (.int .i64 v1) := cB hx3 1
 have HS3 := Lib.hid (HS2.out.step hb3)
 clear hb3 hx3 hW3 hX y0 y1 y2 c0 c1 c2 c3 c4 harr HS2
 by_cases hv0 : v0 = 0
 rotate_left
 ·obtain rfl := bool_no HB.out (fun h => hv0 (h.first _ HX0.out).1)
  have te : (v0 == (0 : Int)) = false := by simpa using hv0
  go_wp2_with fail
  go_ret
  exact ⟨rfl, HS3.out.below⟩
 by_cases hv1 : v1 = -1
 rotate_left
 ·obtain rfl := bool_no HB.out (fun h => hv1 (h.first _ HX0.out).2)
  have te : (v1 == (-1 : Int)) = false := by simpa using hv1
  subst hv0
  go_wp2_with fail
  go_ret
  exact ⟨rfl, HS3.out.below⟩
 subst hv0
 subst hv1
 obtain ⟨c0, c1, c2, c3, c4⟩ := HS3.out.facts
 go_wp2_with fail
 clear x0 x1 c0 c1 c2 c3 c4
 go_loopw [49] (fun s49 wr => ∃ k : Nat, k ≤ N ∧ s49 = .int .i64 k ∧ Gx w (.slice (some ⟨g, off, none⟩) N cap) last done (.slice B M cap2) em w.heap.size wr ∧ ∀ j, j < k → ∀ x, ns[j]? = some x → NodeOk N j x) (fun s49 _ => N - (intOf s49).toNat)
 case atStart => exact ⟨0, Nat.zero_le _, rfl, HS3.out, fun j hj => absurd hj (Nat.not_lt_zero _)⟩
 case round =>
  obtain ⟨k, hk, rfl, hS, hall⟩ := hrel
  have HS := Lib.hid hS
  have HA := Lib.hid hall
  clear hS hall HS3
  obtain ⟨c0, c1, c2, c3, c4⟩ := HS.out.facts
  by_cases hlt : k < N
  ·have tl : decide ((k : Int) < (N : Int)) = true := decide_eq_true (by omega)
   have tl' : decide (k < N) = true := decide_eq_true hlt
   obtain ⟨x, hx⟩ : ∃ x, ns[k]? = some x := ⟨ns[k]'(by rw [← HNN.out]; exact hlt), by simp⟩
   obtain ⟨z0, z1, z2⟩ := HC.out k _ hx
   have d0 := (HS.out.below.cell (p := ⟨g, off + k * 3, none⟩) HG.out).trans z0
   have d1 := (HS.out.below.cell (p := ⟨g, off + k * 3 + 1, none⟩) HG.out).trans z1
   have d2 := (HS.out.below.cell (p := ⟨g, off + k * 3 + 2, none⟩) HG.out).trans z2
   obtain ⟨n1, n2, n3⟩ := x
   dsimp only at d0 d1 d2
   have HX := Lib.hid hx
   have ek1 : wrap64 ((k : Int) + 1) = ((k + 1 : Nat) : Int) := by have := H1.out.2; unfold wrap64; omega
   have EK := Lib.hid ek1
   have HLT := Lib.hid hlt
   clear z0 z1 z2 hx ek1 hk hlt
   go_upto_region 9 with fail
   obtain ⟨X, hX⟩ : ∃ X, X = wr.heap.size := ⟨_, rfl⟩
   obtain ⟨W5, hW5⟩ : ∃ W5, W5 = wr.alloc (Obj.cells #[.int .i64 n1, .int .i64 n2, .int .i64 n3] 99) := ⟨_, rfl⟩
   rw [← hW5, ← hX]
   have hb5 : Below wr.heap.size wr W5 := by rw [hW5]; exact (Below.refl _ _).alloc (Nat.le_refl _) _
   have hx5 : W5.heap[X]? = some (.cells #[.int .i64 n1, .int .i64 n2, .int .i64 n3] 99 (0, 0)) := by rw [hW5, hX]; exact (MapKept.heap_alloc _ _).1
   have HX5 := Lib.hid hx5
   have HS5 := Lib.hid (HS.out.step hb5)
   clear hb5 hx5 hW5 hX d0 d1 d2 c0 c1 c2 c3 c4 HS tl tl'
   have NO : ∀ {P : Prop}, ¬ NodeOk N k (n1, n2, n3) → (b = false → P) → P := fun hno f => f (bool_no HB.out (fun h => hno (HNN.out ▸ h.node k _ HX.out)))
   have HNO : Hid (∀ {P : Prop}, ¬ NodeOk N k (n1, n2, n3) → (b = false → P) → P) := Lib.hid NO
   have HYES : Hid (NodeOk N k (n1, n2, n3) → ∀ j, j < k + 1 → ∀ x, ns[j]? = some x → NodeOk N j x) := Lib.hid (fun hok j hj x hx => by
    rcases Nat.lt_or_ge j k with h | h
    ·exact HA.out j h x hx
    ·obtain rfl : j = k := by omega
     rw [HX.out] at hx
     injection hx with hx
     subst hx
     exact hok)
   clear NO
   have x1 : W5.cell? ⟨X, 1, none⟩ = some (.int .i64 n2) := cB HX5.out 1
   have x2 : W5.cell? ⟨X, 2, none⟩ = some (.int .i64 n3) := cB HX5.out 2
   obtain ⟨c0, c1, c2, c3, c4⟩ := HS5.out.facts
   by_cases h3 : n3 = -1
   ·subst h3
    by_cases h0 : k = 0
    ·subst h0
     go_wp2_with fail
     try rw [EK.out]
     go_roundw
     case rel => exact ⟨0 + 1, HLT.out, rfl, HS5.out, HYES.out ⟨.inl rfl, fun h => absurd h (Nat.lt_irrefl 0)⟩⟩
     case measure =>
      have := HLT.out
      show N - ((0 + 1 : Nat) : Int).toNat < N - ((0 : Nat) : Int).toNat
      omega
    ·have tk : decide ((0 : Int) < (k : Int)) = true := decide_eq_true (by omega)
     have tk' : decide (0 < k) = true := decide_eq_true (by omega)
     have HK0 := Lib.hid h0
     clear h0
     by_cases h2 : n2 < 0
     ·have tp : decide (n2 < 0) = true := decide_eq_true h2
      refine HNO.out (fun h => by have := h.2 (by have := HK0.out; omega); exact absurd this (by show ¬ 0 ≤ n2; omega)) (fun e => ?_)
      subst e
      go_wp2_with fail
      go_ret
      exact ⟨rfl, HS5.out.below⟩
     ·have tp : decide (n2 < 0) = false := decide_eq_false h2
      have HH2 := Lib.hid h2
      clear h2
      go_wp2_with fail
      try rw [EK.out]
      go_roundw
      case rel => exact ⟨k + 1, HLT.out, rfl, HS5.out, HYES.out ⟨.inl rfl, fun _ => by have := HH2.out; show 0 ≤ n2; omega⟩⟩
      case measure =>
       have := HLT.out
       show N - ((k + 1 : Nat) : Int).toNat < N - (k : Int).toNat
       omega
   ·have te : (n3 == (-1 : Int)) = false := by simpa using h3
    have te' : (n3 != (-1 : Int)) = true := by simpa using h3
    have HN3 := Lib.hid h3
    go_wp2_with fail
    by_cases hr : InR N n3
    ·have HR := Lib.hid hr
     refine (is_at _ _ _ _ _ _ _ _ _ n3 hr.1 hr.2 _).mono ?_
     rintro e W6 ⟨rfl, hb6⟩
     have HS6 := Lib.hid (HS5.out.step hb6)
     have x1' : W6.cell? ⟨X, 1, none⟩ = some (.int .i64 n2) := cB ((hb6.block X (blk_lt HX5.out)).trans HX5.out) 1
     clear hb6 c0 c1 c2 c3 c4 x1 x2 te te' h3 hr
     by_cases h0 : k = 0
     ·subst h0
      go_wp2_with fail
      try rw [EK.out]
      go_roundw
      case rel => exact ⟨0 + 1, HLT.out, rfl, HS6.out, HYES.out ⟨.inr HR.out, fun h => absurd h (Nat.lt_irrefl 0)⟩⟩
      case measure =>
       have := HLT.out
       show N - ((0 + 1 : Nat) : Int).toNat < N - ((0 : Nat) : Int).toNat
       omega
     ·have tk : decide ((0 : Int) < (k : Int)) = true := decide_eq_true (by omega)
      have tk' : decide (0 < k) = true := decide_eq_true (by omega)
      have HK0 := Lib.hid h0
      clear h0
      by_cases h2 : n2 < 0
      ·have tp : decide (n2 < 0) = true := decide_eq_true h2
       refine HNO.out (fun h => by have := h.2 (by have := HK0.out; omega); exact absurd this (by show ¬ 0 ≤ n2; omega)) (fun e => ?_)
       subst e
       go_wp2_with fail
       go_ret
       exact ⟨rfl, HS6.out.below⟩
      ·have tp : decide (n2 < 0) = false := decide_eq_false h2
       have HH2 := Lib.hid h2
       clear h2
       go_wp2_with fail
       try rw [EK.out]
       go_roundw
       case rel => exact ⟨k + 1, HLT.out, rfl, HS6.out, HYES.out ⟨.inr HR.out, fun _ => by have := HH2.out; show 0 ≤ n2; omega⟩⟩
       case measure =>
        have := HLT.out
        show N - ((k + 1 : Nat) : Int).toNat < N - (k : Int).toNat
        omega
    ·refine (is_no _ _ _ _ _ _ _ _ _ n3 hr _).mono ?_
     rintro e W6 ⟨rfl, hb6⟩
     have HS6 := Lib.hid (HS5.out.step hb6)
     clear hb6 c0 c1 c2 c3 c4 x1 x2
     refine HNO.out (fun h => h.1.elim HN3.out hr) (fun e => ?_)
     subst e
     clear te te' h3 hr
     go_wp2_with fail
     go_ret
     exact ⟨rfl, HS6.out.below⟩
  ·have hjn : N = k := by omega
   have tl : decide ((k : Int) < (N : Int)) = false := decide_eq_false (by omega)
   have tl' : decide (k < N) = false := decide_eq_false hlt
   have HA2 : Hid (∀ j x, ns[j]? = some x → NodeOk N j x) := Lib.hid (fun j x hx => HA.out j (by have := (List.getElem?_eq_some_iff.1 hx).1; rw [← HNN.out] at this; omega) x hx)
   clear hlt hk hjn HA
   go_upto_region 12 with fail
   clear tl tl' c0 c1 c2 c3 c4
   obtain ⟨Wv, rfl⟩ : ∃ W, W = wr := ⟨_, rfl⟩
   obtain ⟨c0, c1, c2, c3, c4⟩ := HS.out.facts
   go_wp2_with fail
   clear c0 c1 c2 c3 c4
   go_loopw [77] (fun s77 wr => ∃ i : Nat, i ≤ M ∧ s77 = .int .i64 i ∧ Gx w (.slice (some ⟨g, off, none⟩) N cap) last done (.slice B M cap2) em w.heap.size wr ∧ ∀ j, j < i → ∀ p, ps[j]? = some p → PushOk ns ps j p) (fun s77 _ => M - (intOf s77).toNat)
   case atStart => exact ⟨0, Nat.zero_le _, rfl, HS.out, fun j hj => absurd hj (Nat.not_lt_zero _)⟩
   case round =>
    obtain ⟨i, hi, rfl, hS2, hall⟩ := hrel
    have HS2 := Lib.hid hS2
    have HAP := Lib.hid hall
    clear hS2 hall HS
    obtain ⟨c0, c1, c2, c3, c4⟩ := HS2.out.facts
    by_cases hlt : i < M
    ·have tl : decide ((i : Int) < (M : Int)) = true := decide_eq_true (by omega)
     have tl' : decide (i < M) = true := decide_eq_true hlt
     obtain ⟨x, hx⟩ : ∃ x, ps[i]? = some x := ⟨ps[i]'(by rw [← HMM.out]; exact hlt), by simp⟩
     obtain ⟨gp, op, rfl, hgp, hcp⟩ := HP.out.at hx
     obtain ⟨z0, z1, z2⟩ := hcp i _ hx
     have d0 := (HS2.out.below.cell (p := ⟨gp, op + i * 3, none⟩) hgp).trans z0
     have d1 := (HS2.out.below.cell (p := ⟨gp, op + i * 3 + 1, none⟩) hgp).trans z1
     have d2 := (HS2.out.below.cell (p := ⟨gp, op + i * 3 + 2, none⟩) hgp).trans z2
     obtain ⟨p1, p2, p3⟩ := x
     dsimp only at d0 d1 d2
     have HX := Lib.hid hx
     have HGP := Lib.hid hgp
     have HCP := Lib.hid hcp
     have ek1 : wrap64 ((i : Int) + 1) = ((i + 1 : Nat) : Int) := by have := HM2.out; unfold wrap64; omega
     have EK := Lib.hid ek1
     have HLT := Lib.hid hlt
     clear z0 z1 z2 hx ek1 hi hlt hgp hcp
     go_upto_region 15 with fail
     obtain ⟨X, hX⟩ : ∃ X, X = wr.heap.size := ⟨_, rfl⟩
     obtain ⟨W5, hW5⟩ : ∃ W5, W5 = wr.alloc (Obj.cells #[.int .i64 p1, .int .i64 p2, .int .i64 p3] 102) := ⟨_, rfl⟩
     rw [← hW5, ← hX]
     have hb5 : Below wr.heap.size wr W5 := by rw [hW5]; exact (Below.refl _ _).alloc (Nat.le_refl _) _
     have hx5 : W5.heap[X]? = some (.cells #[.int .i64 p1, .int .i64 p2, .int .i64 p3] 102 (0, 0)) := by rw [hW5, hX]; exact (MapKept.heap_alloc _ _).1
     have HX5 := Lib.hid hx5
     have HS5 := Lib.hid (HS2.out.step hb5)
     clear hb5 hx5 hW5 hX d0 d1 d2 c0 c1 c2 c3 c4 HS2 tl tl'
     have HNO : Hid (∀ {P : Prop}, ¬ PushOk ns ps i (p1, p2, p3) → (b = false → P) → P) := Lib.hid (fun hno f => f (bool_no HB.out (fun h => hno (h.push i _ HX.out))))
     have HYES : Hid (PushOk ns ps i (p1, p2, p3) → ∀ j, j < i + 1 → ∀ p, ps[j]? = some p → PushOk ns ps j p) := Lib.hid (fun hok j hj x hx => by
      rcases Nat.lt_or_ge j i with h | h
      ·exact HAP.out j h x hx
      ·obtain rfl : j = i := by omega
       rw [HX.out] at hx
       injection hx with hx
       subst hx
       exact hok)
     by_cases hb1 : InR N p2
     rotate_left
     ·have HB1 := Lib.hid hb1
      refine HNO.out (fun h => hb1 (by have := h.1; rw [← HNN.out] at this; exact this)) (fun e => ?_)
      clear hb1
      obtain ⟨V, hV⟩ : ∃ V : Nat → Value, V = fun vv => ([.agg #[.slice (some ⟨g, off, none⟩) N cap, .int .i64 last, .int .i64 done, .slice (some ⟨gp, op, none⟩) M cap2, .bool em], .pointer (some ⟨X, 1, none⟩), .int .i64 p2, .bool false, .bool true, .bool true, undef, undef, undef, undef, undef, .bool true, .bool true, undef, undef, undef, .bool true, .bool true, undef, undef, undef, undef, undef, undef, undef, undef, undef, undef, undef, undef, undef, undef, .bool true] : List Value).getD vv undef := ⟨_, rfl⟩
      have vv0 : Hid (V 0 = .agg #[.slice (some ⟨g, off, none⟩) N cap, .int .i64 last, .int .i64 done, .slice (some ⟨gp, op, none⟩) M cap2, .bool em]) := Lib.hid (by rw [hV]; rfl)
      have vv1 : Hid (V 1 = .pointer (some ⟨X, 1, none⟩)) := Lib.hid (by rw [hV]; rfl)
      have vv2 : Hid (V 2 = .int .i64 p2) := Lib.hid (by rw [hV]; rfl)
      have vv3 : Hid (V 3 = .bool false) := Lib.hid (by rw [hV]; rfl)
      have vv4 : Hid (V 4 = .bool true) := Lib.hid (by rw [hV]; rfl)
      have vv5 : Hid (V 5 = .bool true) := Lib.hid (by rw [hV]; rfl)
      have vv6 : Hid (V 6 = undef) := Lib.hid (by rw [hV]; rfl)
      have vv7 : Hid (V 7 = undef) := Lib.hid (by rw [hV]; rfl)
      have vv8 : Hid (V 8 = undef) := Lib.hid (by rw [hV]; rfl)
      have vv9 : Hid (V 9 = undef) := Lib.hid (by rw [hV]; rfl)
      have vv10 : Hid (V 10 = undef) := Lib.hid (by rw [hV]; rfl)
      have vv11 : Hid (V 11 = .bool true) := Lib.hid (by rw [hV]; rfl)
      have vv12 : Hid (V 12 = .bool true) := Lib.hid (by rw [hV]; rfl)
      have vv13 : Hid (V 13 = undef) := Lib.hid (by rw [hV]; rfl)
      have vv14 : Hid (V 14 = undef) := Lib.hid (by rw [hV]; rfl)
      have vv15 : Hid (V 15 = undef) := Lib.hid (by rw [hV]; rfl)
      have vv16 : Hid (V 16 = .bool true) := Lib.hid (by rw [hV]; rfl)
      have vv17 : Hid (V 17 = .bool true) := Lib.hid (by rw [hV]; rfl)
      have vv18 : Hid (V 18 = undef) := Lib.hid (by rw [hV]; rfl)
      have vv19 : Hid (V 19 = undef) := Lib.hid (by rw [hV]; rfl)
      have vv20 : Hid (V 20 = undef) := Lib.hid (by rw [hV]; rfl)
      have vv21 : Hid (V 21 = undef) := Lib.hid (by rw [hV]; rfl)
      have vv22 : Hid (V 22 = undef) := Lib.hid (by rw [hV]; rfl)
      have vv23 : Hid (V 23 = undef) := Lib.hid (by rw [hV]; rfl)
      have vv24 : Hid (V 24 = undef) := Lib.hid (by rw [hV]; rfl)
      have vv25 : Hid (V 25 = undef) := Lib.hid (by rw [hV]; rfl)
      have vv26 : Hid (V 26 = undef) := Lib.hid (by rw [hV]; rfl)
      have vv27 : Hid (V 27 = undef) := Lib.hid (by rw [hV]; rfl)
      have vv28 : Hid (V 28 = undef) := Lib.hid (by rw [hV]; rfl)
      have vv29 : Hid (V 29 = undef) := Lib.hid (by rw [hV]; rfl)
      have vv30 : Hid (V 30 = undef) := Lib.hid (by rw [hV]; rfl)
      have vv31 : Hid (V 31 = undef) := Lib.hid (by rw [hV]; rfl)
      have vv32 : Hid (V 32 = .bool true) := Lib.hid (by rw [hV]; rfl)
      clear hV
      refine (wpIn_wide (n := 20)).1 ?_
      refine wpIn_region_inv (by kernel_rfl) (back_of (by kernel_rfl)) (fun d act Wn => ∃ y : Nat → Value, act = { tmps := #[.agg #[.slice (some ⟨g, off, none⟩) N cap, .int .i64 last, .int .i64 done, .slice (some ⟨gp, op, none⟩) M cap2, .bool em], .pointer (some ⟨w.heap.size, 0, none⟩), u2, .pointer (some ⟨XF, 0, none⟩), u4, u5, .int .i64 ↑i, .pointer (some ⟨X, 0, none⟩), .pointer (some ⟨w.heap.size, 0, none⟩), .slice (some ⟨g, off, none⟩) N cap, .int .i64 ↑N, .bool false, .bool false, .pointer (some ⟨w.heap.size, 0, none⟩), .slice (some ⟨g, off, none⟩) N cap, .int .i64 ↑N, .bool false, .bool false, .bool false, .agg #[.slice (some ⟨g, off, none⟩) N cap, .int .i64 last, .int .i64 done, .slice (some ⟨gp, op, none⟩) M cap2, .bool em], .pointer (some ⟨w.heap.size, 1, none⟩), .int .i64 last, .bool true, .bool false, .bool false, .bool false, .agg #[.slice (some ⟨g, off, none⟩) N cap, .int .i64 last, .int .i64 done, .slice (some ⟨gp, op, none⟩) M cap2, .bool em], .pointer (some ⟨w.heap.size, 2, none⟩), .int .i64 done, .bool true, .bool false, .bool false, .pointer (some ⟨w.heap.size, 0, none⟩), .slice (some ⟨g, off, none⟩) N cap, .pointer (some ⟨g, off, none⟩), .agg #[.int .i64 0, .int .i64 (-1), .int .i64 v2], .pointer (some ⟨XF, 0, none⟩), .pointer (some ⟨XF, 0, none⟩), .int .i64 0, .bool false, .bool false, .pointer (some ⟨XF, 0, none⟩), .pointer (some ⟨XF, 1, none⟩), .int .i64 (-1), .bool false, .bool false, .pointer (some ⟨w.heap.size, 0, none⟩), .slice (some ⟨g, off, none⟩) N cap, .int .i64 ↑N, .int .i64 ↑k, .bool false, u51, u52, u53, u54, u55, u56, u57, u58, u59, u60, u61, u62, u63, u64, u65, u66, u67, u68, u69, u70, u71, u72, u73, .pointer (some ⟨w.heap.size, 3, none⟩), .slice (some ⟨gp, op, none⟩) M cap2, .int .i64 ↑M, .int .i64 ↑i, .bool true, .int .i64 ↑i, .pointer (some ⟨gp, op + i * 3, none⟩), .agg #[.int .i64 p1, .int .i64 p2, .int .i64 p3], y 0, y 1, y 2, y 3, y 4, y 5, y 6, y 7, y 8, y 9, y 10, y 11, y 12, y 13, y 14, y 15, y 16, y 17, y 18, y 19, y 20, y 21, y 22, y 23, y 24, y 25, y 26, y 27, y 28, y 29, y 30, y 31, y 32, u115, u116, u117, u118, u119, u120, u121, u122, u123, u124, u125, u126, u127, u128, u129, u130, u131, u132, u133, u134, u135], defers := [] } ∧ QA W5 V 33 d y Wn) ?rc1 ?sc1 ?fc1
      case rc1 => exact fun d hd => ⟨(upd (upd (upd (upd (upd (upd (upd (upd (upd (upd (upd (upd (upd (upd (upd (upd (upd (upd (upd (upd (upd (upd (upd (upd (upd (upd (upd (upd (upd (upd (upd (upd (upd (fun _ => undef) 0 (u82)) 1 (u83)) 2 (u84)) 3 (u85)) 4 (u86)) 5 (u87)) 6 (u88)) 7 (u89)) 8 (u90)) 9 (u91)) 10 (u92)) 11 (u93)) 12 (u94)) 13 (u95)) 14 (u96)) 15 (u97)) 16 (u98)) 17 (u99)) 18 (u100)) 19 (u101)) 20 (u102)) 21 (u103)) 22 (u104)) 23 (u105)) 24 (u106)) 25 (u107)) 26 (u108)) 27 (u109)) 28 (u110)) 29 (u111)) 30 (u112)) 31 (u113)) 32 (u114)), rfl, QA.start (fun i hi => hd i hi)⟩
      case sc1 =>
       rintro ix oi hop d act Wt ⟨y, rfl, hR⟩ hSi hdep
       have hix : ix < 33 := (Array.getElem?_eq_some_iff.1 hop).1
       have HQ := Lib.hid hR
       have HD := Lib.hid hdep
       clear hR hdep hSi
       obtain rfl | rfl | rfl | rfl | rfl | rfl | rfl | rfl | rfl | rfl | rfl | rfl | rfl | rfl | rfl | rfl | rfl | rfl | rfl | rfl | rfl | rfl | rfl | rfl | rfl | rfl | rfl | rfl | rfl | rfl | rfl | rfl | rfl : ix = 0 ∨ ix = 1 ∨ ix = 2 ∨ ix = 3 ∨ ix = 4 ∨ ix = 5 ∨ ix = 6 ∨ ix = 7 ∨ ix = 8 ∨ ix = 9 ∨ ix = 10 ∨ ix = 11 ∨ ix = 12 ∨ ix = 13 ∨ ix = 14 ∨ ix = 15 ∨ ix = 16 ∨ ix = 17 ∨ ix = 18 ∨ ix = 19 ∨ ix = 20 ∨ ix = 21 ∨ ix = 22 ∨ ix = 23 ∨ ix = 24 ∨ ix = 25 ∨ ix = 26 ∨ ix = 27 ∨ ix = 28 ∨ ix = 29 ∨ ix = 30 ∨ ix = 31 ∨ ix = 32 := by omega
       all_goals (have hoo := hop; obtain rfl := Option.some.inj hop)
       ·refine oW hoo (by kernel_rfl) fun K hK => ?_
        obtain ⟨c0, c1, c2, c3, c4⟩ := (HS5.out.step HQ.out.bu).facts
        refine wV (v := .agg #[.slice (some ⟨g, off, none⟩) N cap, .int .i64 last, .int .i64 done, .slice (some ⟨gp, op, none⟩) M cap2, .bool em]) (fun _ _ => trivial) (by go_simp) ?_
        exact hK _ _ ⟨upd y 0 (V 0), by rw [vv0.out]; kernel_rfl, HQ.out.pure (i := 0) (by omega)⟩
       ·exact oW hoo (by kernel_rfl) fun K hK => wV (v := .pointer (some ⟨X, 1, none⟩)) (fun _ _ => trivial) (by go_simp) (hK _ _ ⟨upd y 1 (V 1), by rw [vv1.out]; kernel_rfl, HQ.out.pure (i := 1) (by omega)⟩)
       ·have e1 := (HQ.out.val 1 (by omega) (HD.out ⟨1, .data⟩ (by simp) rfl)).trans vv1.out
        refine oW hoo (by kernel_rfl) fun K hK => ?_
        have hx5 := (HQ.out.bu.block X (blk_lt HX5.out)).trans HX5.out
        have l0 := cB hx5 0
        have l1 := cB hx5 1
        have l2 := cB hx5 2
        refine wV (v := .int .i64 p2) (fun _ _ => trivial) (by go_simp) ?_
        exact hK _ _ ⟨upd y 2 (V 2), by rw [vv2.out]; kernel_rfl, HQ.out.pure (i := 2) (by omega)⟩
       ·have e0 := (HQ.out.val 0 (by omega) (HD.out ⟨0, .data⟩ (by simp) rfl)).trans vv0.out
        have e2 := (HQ.out.val 2 (by omega) (HD.out ⟨2, .data⟩ (by simp) rfl)).trans vv2.out
        refine oW hoo (by kernel_rfl) fun K hK => ?_
        refine wpIn_det (v := .bool false) (by go_simp) (is_no (some ⟨g, off, none⟩) (some ⟨gp, op, none⟩) N cap M cap2 last done em p2 HB1.out _) fun Wn hb => ?_
        exact hK _ _ ⟨upd y 3 (V 3), by rw [vv3.out]; kernel_rfl, (HQ.out.walk hb).pure (i := 3) (by omega)⟩
       ·have e3 := (HQ.out.val 3 (by omega) (HD.out ⟨3, .data⟩ (by simp) rfl)).trans vv3.out
        exact oW hoo (by kernel_rfl) fun K hK => wV (v := .bool true) (fun _ _ => trivial) (by go_simp) (hK _ _ ⟨upd y 4 (V 4), by rw [vv4.out]; kernel_rfl, HQ.out.pure (i := 4) (by omega)⟩)
       ·have e4 := (HQ.out.val 4 (by omega) (HD.out ⟨4, .data⟩ (by simp) rfl)).trans vv4.out
        exact oW hoo (by kernel_rfl) fun K hK => wV (v := .bool true) (fun _ _ => trivial) (by go_simp) (hK _ _ ⟨upd y 5 (V 5), by rw [vv5.out]; kernel_rfl, HQ.out.pure (i := 5) (by omega)⟩)
       ·have e5 := (HQ.out.val 5 (by omega) (HD.out ⟨5, .guard⟩ (by simp) rfl)).trans vv5.out
        exact oU hoo (by rw [e5]; kernel_rfl) (fun _ _ => trivial) ⟨upd y 6 (V 6), by rw [vv6.out]; kernel_rfl, HQ.out.pure (i := 6) (by omega)⟩
       ·have e5 := (HQ.out.val 5 (by omega) (HD.out ⟨5, .guard⟩ (by simp) rfl)).trans vv5.out
        exact oU hoo (by rw [e5]; kernel_rfl) (fun _ _ => trivial) ⟨upd y 7 (V 7), by rw [vv7.out]; kernel_rfl, HQ.out.pure (i := 7) (by omega)⟩
       ·have e5 := (HQ.out.val 5 (by omega) (HD.out ⟨5, .guard⟩ (by simp) rfl)).trans vv5.out
        exact oU hoo (by rw [e5]; kernel_rfl) (fun _ _ => trivial) ⟨upd y 8 (V 8), by rw [vv8.out]; kernel_rfl, HQ.out.pure (i := 8) (by omega)⟩
       ·have e5 := (HQ.out.val 5 (by omega) (HD.out ⟨5, .guard⟩ (by simp) rfl)).trans vv5.out
        exact oU hoo (by rw [e5]; kernel_rfl) (fun _ _ => trivial) ⟨upd y 9 (V 9), by rw [vv9.out]; kernel_rfl, HQ.out.pure (i := 9) (by omega)⟩
       ·have e5 := (HQ.out.val 5 (by omega) (HD.out ⟨5, .guard⟩ (by simp) rfl)).trans vv5.out
        exact oU hoo (by rw [e5]; kernel_rfl) (fun _ _ => trivial) ⟨upd y 10 (V 10), by rw [vv10.out]; kernel_rfl, HQ.out.pure (i := 10) (by omega)⟩
       ·have e5 := (HQ.out.val 5 (by omega) (HD.out ⟨5, .data⟩ (by simp) rfl)).trans vv5.out
        have e10 := (HQ.out.val 10 (by omega) (HD.out ⟨10, .data⟩ (by simp) rfl)).trans vv10.out
        exact oW hoo (by kernel_rfl) fun K hK => wV (v := .bool true) (fun _ _ => trivial) (by go_simp) (hK _ _ ⟨upd y 11 (V 11), by rw [vv11.out]; kernel_rfl, HQ.out.pure (i := 11) (by omega)⟩)
       ·have e11 := (HQ.out.val 11 (by omega) (HD.out ⟨11, .data⟩ (by simp) rfl)).trans vv11.out
        exact oW hoo (by kernel_rfl) fun K hK => wV (v := .bool true) (fun _ _ => trivial) (by go_simp) (hK _ _ ⟨upd y 12 (V 12), by rw [vv12.out]; kernel_rfl, HQ.out.pure (i := 12) (by omega)⟩)
       ·have e12 := (HQ.out.val 12 (by omega) (HD.out ⟨12, .guard⟩ (by simp) rfl)).trans vv12.out
        exact oU hoo (by rw [e12]; kernel_rfl) (fun _ _ => trivial) ⟨upd y 13 (V 13), by rw [vv13.out]; kernel_rfl, HQ.out.pure (i := 13) (by omega)⟩
       ·have e12 := (HQ.out.val 12 (by omega) (HD.out ⟨12, .guard⟩ (by simp) rfl)).trans vv12.out
        exact oU hoo (by rw [e12]; kernel_rfl) (fun _ _ => trivial) ⟨upd y 14 (V 14), by rw [vv14.out]; kernel_rfl, HQ.out.pure (i := 14) (by omega)⟩
       ·have e12 := (HQ.out.val 12 (by omega) (HD.out ⟨12, .guard⟩ (by simp) rfl)).trans vv12.out
        exact oU hoo (by rw [e12]; kernel_rfl) (fun _ _ => trivial) ⟨upd y 15 (V 15), by rw [vv15.out]; kernel_rfl, HQ.out.pure (i := 15) (by omega)⟩
       ·have e12 := (HQ.out.val 12 (by omega) (HD.out ⟨12, .data⟩ (by simp) rfl)).trans vv12.out
        have e15 := (HQ.out.val 15 (by omega) (HD.out ⟨15, .data⟩ (by simp) rfl)).trans vv15.out
        exact oW hoo (by kernel_rfl) fun K hK => wV (v := .bool true) (fun _ _ => trivial) (by go_simp) (hK _ _ ⟨upd y 16 (V 16), by rw [vv16.out]; kernel_rfl, HQ.out.pure (i := 16) (by omega)⟩)
       ·have e16 := (HQ.out.val 16 (by omega) (HD.out ⟨16, .data⟩ (by simp) rfl)).trans vv16.out
        exact oW hoo (by kernel_rfl) fun K hK => wV (v := .bool true) (fun _ _ => trivial) (by go_simp) (hK _ _ ⟨upd y 17 (V 17), by rw [vv17.out]; kernel_rfl, HQ.out.pure (i := 17) (by omega)⟩)
       ·have e17 := (HQ.out.val 17 (by omega) (HD.out ⟨17, .guard⟩ (by simp) rfl)).trans vv17.out
        exact oU hoo (by rw [e17]; kernel_rfl) (fun _ _ => trivial) ⟨upd y 18 (V 18), by rw [vv18.out]; kernel_rfl, HQ.out.pure (i := 18) (by omega)⟩
       ·have e17 := (HQ.out.val 17 (by omega) (HD.out ⟨17, .guard⟩ (by simp) rfl)).trans vv17.out
        exact oU hoo (by rw [e17]; kernel_rfl) (fun _ _ => trivial) ⟨upd y 19 (V 19), by rw [vv19.out]; kernel_rfl, HQ.out.pure (i := 19) (by omega)⟩
       ·have e17 := (HQ.out.val 17 (by omega) (HD.out ⟨17, .guard⟩ (by simp) rfl)).trans vv17.out
        exact oU hoo (by rw [e17]; kernel_rfl) (fun _ _ => trivial) ⟨upd y 20 (V 20), by rw [vv20.out]; kernel_rfl, HQ.out.pure (i := 20) (by omega)⟩
       ·have e20 := (HQ.out.val 20 (by omega) (HD.out ⟨20, .guard⟩ (by simp) rfl)).trans vv20.out
        exact oU hoo (by rw [e20]; kernel_rfl) (fun _ _ => trivial) ⟨upd y 21 (V 21), by rw [vv21.out]; kernel_rfl, HQ.out.pure (i := 21) (by omega)⟩
       ·have e20 := (HQ.out.val 20 (by omega) (HD.out ⟨20, .guard⟩ (by simp) rfl)).trans vv20.out
        exact oU hoo (by rw [e20]; kernel_rfl) (fun _ _ => trivial) ⟨upd y 22 (V 22), by rw [vv22.out]; kernel_rfl, HQ.out.pure (i := 22) (by omega)⟩
       ·have e20 := (HQ.out.val 20 (by omega) (HD.out ⟨20, .guard⟩ (by simp) rfl)).trans vv20.out
        exact oU hoo (by rw [e20]; kernel_rfl) (fun _ _ => trivial) ⟨upd y 23 (V 23), by rw [vv23.out]; kernel_rfl, HQ.out.pure (i := 23) (by omega)⟩
       ·have e20 := (HQ.out.val 20 (by omega) (HD.out ⟨20, .guard⟩ (by simp) rfl)).trans vv20.out
        exact oU hoo (by rw [e20]; kernel_rfl) (fun _ _ => trivial) ⟨upd y 24 (V 24), by rw [vv24.out]; kernel_rfl, HQ.out.pure (i := 24) (by omega)⟩
       ·have e20 := (HQ.out.val 20 (by omega) (HD.out ⟨20, .guard⟩ (by simp) rfl)).trans vv20.out
        exact oU hoo (by rw [e20]; kernel_rfl) (fun _ _ => trivial) ⟨upd y 25 (V 25), by rw [vv25.out]; kernel_rfl, HQ.out.pure (i := 25) (by omega)⟩
       ·have e20 := (HQ.out.val 20 (by omega) (HD.out ⟨20, .guard⟩ (by simp) rfl)).trans vv20.out
        exact oU hoo (by rw [e20]; kernel_rfl) (fun _ _ => trivial) ⟨upd y 26 (V 26), by rw [vv26.out]; kernel_rfl, HQ.out.pure (i := 26) (by omega)⟩
       ·have e20 := (HQ.out.val 20 (by omega) (HD.out ⟨20, .guard⟩ (by simp) rfl)).trans vv20.out
        exact oU hoo (by rw [e20]; kernel_rfl) (fun _ _ => trivial) ⟨upd y 27 (V 27), by rw [vv27.out]; kernel_rfl, HQ.out.pure (i := 27) (by omega)⟩
       ·have e20 := (HQ.out.val 20 (by omega) (HD.out ⟨20, .guard⟩ (by simp) rfl)).trans vv20.out
        exact oU hoo (by rw [e20]; kernel_rfl) (fun _ _ => trivial) ⟨upd y 28 (V 28), by rw [vv28.out]; kernel_rfl, HQ.out.pure (i := 28) (by omega)⟩
       ·have e20 := (HQ.out.val 20 (by omega) (HD.out ⟨20, .guard⟩ (by simp) rfl)).trans vv20.out
        exact oU hoo (by rw [e20]; kernel_rfl) (fun _ _ => trivial) ⟨upd y 29 (V 29), by rw [vv29.out]; kernel_rfl, HQ.out.pure (i := 29) (by omega)⟩
       ·have e20 := (HQ.out.val 20 (by omega) (HD.out ⟨20, .guard⟩ (by simp) rfl)).trans vv20.out
        exact oU hoo (by rw [e20]; kernel_rfl) (fun _ _ => trivial) ⟨upd y 30 (V 30), by rw [vv30.out]; kernel_rfl, HQ.out.pure (i := 30) (by omega)⟩
       ·have e17 := (HQ.out.val 17 (by omega) (HD.out ⟨17, .guard⟩ (by simp) rfl)).trans vv17.out
        exact oU hoo (by rw [e17]; kernel_rfl) (fun _ _ => trivial) ⟨upd y 31 (V 31), by rw [vv31.out]; kernel_rfl, HQ.out.pure (i := 31) (by omega)⟩
       ·have e17 := (HQ.out.val 17 (by omega) (HD.out ⟨17, .data⟩ (by simp) rfl)).trans vv17.out
        have e31 := (HQ.out.val 31 (by omega) (HD.out ⟨31, .data⟩ (by simp) rfl)).trans vv31.out
        exact oW hoo (by kernel_rfl) fun K hK => wV (v := .bool true) (fun _ _ => trivial) (by go_simp) (hK _ _ ⟨upd y 32 (V 32), by rw [vv32.out]; kernel_rfl, HQ.out.pure (i := 32) (by omega)⟩)
      case fc1 =>
       rintro d act Wt ⟨y, rfl, hR⟩ hall
       have q32 : y 32 = .bool true := (hR.val 32 (by omega) (hall 32 (by decide))).trans vv32.out
       rw [q32]
       have HSE := Lib.hid (HS5.out.step hR.bu)
       clear hR hall
       subst e
       try dsimp only
       go_wp2_with fail
       go_ret
       exact ⟨rfl, HSE.out.below⟩
     have HB1 := Lib.hid hb1
     clear hb1
     by_cases hb2 : InR N p3
     rotate_left
     ·have HB2 := Lib.hid hb2
      refine HNO.out (fun h => hb2 (by have := h.2.1; rw [← HNN.out] at this; exact this)) (fun e => ?_)
      clear hb2
      obtain ⟨V, hV⟩ : ∃ V : Nat → Value, V = fun vv => ([.agg #[.slice (some ⟨g, off, none⟩) N cap, .int .i64 last, .int .i64 done, .slice (some ⟨gp, op, none⟩) M cap2, .bool em], .pointer (some ⟨X, 1, none⟩), .int .i64 p2, .bool true, .bool false, .bool false, .agg #[.slice (some ⟨g, off, none⟩) N cap, .int .i64 last, .int .i64 done, .slice (some ⟨gp, op, none⟩) M cap2, .bool em], .pointer (some ⟨X, 2, none⟩), .int .i64 p3, .bool false, .bool true, .bool true, .bool true, undef, undef, undef, .bool true, .bool true, undef, undef, undef, undef, undef, undef, undef, undef, undef, undef, undef, undef, undef, undef, .bool true] : List Value).getD vv undef := ⟨_, rfl⟩
      have vv0 : Hid (V 0 = .agg #[.slice (some ⟨g, off, none⟩) N cap, .int .i64 last, .int .i64 done, .slice (some ⟨gp, op, none⟩) M cap2, .bool em]) := Lib.hid (by rw [hV]; rfl)
      have vv1 : Hid (V 1 = .pointer (some ⟨X, 1, none⟩)) := Lib.hid (by rw [hV]; rfl)
      have vv2 : Hid (V 2 = .int .i64 p2) := Lib.hid (by rw [hV]; rfl)
      have vv3 : Hid (V 3 = .bool true) := Lib.hid (by rw [hV]; rfl)
      have vv4 : Hid (V 4 = .bool false) := Lib.hid (by rw [hV]; rfl)
      have vv5 : Hid (V 5 = .bool false) := Lib.hid (by rw [hV]; rfl)
      have vv6 : Hid (V 6 = .agg #[.slice (some ⟨g, off, none⟩) N cap, .int .i64 last, .int .i64 done, .slice (some ⟨gp, op, none⟩) M cap2, .bool em]) := Lib.hid (by rw [hV]; rfl)
      have vv7 : Hid (V 7 = .pointer (some ⟨X, 2, none⟩)) := Lib.hid (by rw [hV]; rfl)
      have vv8 : Hid (V 8 = .int .i64 p3) := Lib.hid (by rw [hV]; rfl)
      have vv9 : Hid (V 9 = .bool false) := Lib.hid (by rw [hV]; rfl)
      have vv10 : Hid (V 10 = .bool true) := Lib.hid (by rw [hV]; rfl)
      have vv11 : Hid (V 11 = .bool true) := Lib.hid (by rw [hV]; rfl)
      have vv12 : Hid (V 12 = .bool true) := Lib.hid (by rw [hV]; rfl)
      have vv13 : Hid (V 13 = undef) := Lib.hid (by rw [hV]; rfl)
      have vv14 : Hid (V 14 = undef) := Lib.hid (by rw [hV]; rfl)
      have vv15 : Hid (V 15 = undef) := Lib.hid (by rw [hV]; rfl)
      have vv16 : Hid (V 16 = .bool true) := Lib.hid (by rw [hV]; rfl)
      have vv17 : Hid (V 17 = .bool true) := Lib.hid (by rw [hV]; rfl)
      have vv18 : Hid (V 18 = undef) := Lib.hid (by rw [hV]; rfl)
      have vv19 : Hid (V 19 = undef) := Lib.hid (by rw [hV]; rfl)
      have vv20 : Hid (V 20 = undef) := Lib.hid (by rw [hV]; rfl)
      have vv21 : Hid (V 21 = undef) := Lib.hid (by rw [hV]; rfl)
      have vv22 : Hid (V 22 = undef) := Lib.hid (by rw [hV]; rfl)
      have vv23 : Hid (V 23 = undef) := Lib.hid (by rw [hV]; rfl)
      have vv24 : Hid (V 24 = undef) := Lib.hid (by rw [hV]; rfl)
      have vv25 : Hid (V 25 = undef) := Lib.hid (by rw [hV]; rfl)
      have vv26 : Hid (V 26 = undef) := Lib.hid (by rw [hV]; rfl)
      have vv27 : Hid (V 27 = undef) := Lib.hid (by rw [hV]; rfl)
      have vv28 : Hid (V 28 = undef) := Lib.hid (by rw [hV]; rfl)
      have vv29 : Hid (V 29 = undef) := Lib.hid (by rw [hV]; rfl)
      have vv30 : Hid (V 30 = undef) := Lib.hid (by rw [hV]; rfl)
      have vv31 : Hid (V 31 = undef) := Lib.hid (by rw [hV]; rfl)
      have vv32 : Hid (V 32 = .bool true) := Lib.hid (by rw [hV]; rfl)
      clear hV
      refine (wpIn_wide (n := 20)).1 ?_
      refine wpIn_region_inv (by kernel_rfl) (back_of (by kernel_rfl)) (fun d act Wn => ∃ y : Nat → Value, act = { tmps := #[.agg #[.slice (some ⟨g, off, none⟩) N cap, .int .i64 last, .int .i64 done, .slice (some ⟨gp, op, none⟩) M cap2, .bool em], .pointer (some ⟨w.heap.size, 0, none⟩), u2, .pointer (some ⟨XF, 0, none⟩), u4, u5, .int .i64 ↑i, .pointer (some ⟨X, 0, none⟩), .pointer (some ⟨w.heap.size, 0, none⟩), .slice (some ⟨g, off, none⟩) N cap, .int .i64 ↑N, .bool false, .bool false, .pointer (some ⟨w.heap.size, 0, none⟩), .slice (some ⟨g, off, none⟩) N cap, .int .i64 ↑N, .bool false, .bool false, .bool false, .agg #[.slice (some ⟨g, off, none⟩) N cap, .int .i64 last, .int .i64 done, .slice (some ⟨gp, op, none⟩) M cap2, .bool em], .pointer (some ⟨w.heap.size, 1, none⟩), .int .i64 last, .bool true, .bool false, .bool false, .bool false, .agg #[.slice (some ⟨g, off, none⟩) N cap, .int .i64 last, .int .i64 done, .slice (some ⟨gp, op, none⟩) M cap2, .bool em], .pointer (some ⟨w.heap.size, 2, none⟩), .int .i64 done, .bool true, .bool false, .bool false, .pointer (some ⟨w.heap.size, 0, none⟩), .slice (some ⟨g, off, none⟩) N cap, .pointer (some ⟨g, off, none⟩), .agg #[.int .i64 0, .int .i64 (-1), .int .i64 v2], .pointer (some ⟨XF, 0, none⟩), .pointer (some ⟨XF, 0, none⟩), .int .i64 0, .bool false, .bool false, .pointer (some ⟨XF, 0, none⟩), .pointer (some ⟨XF, 1, none⟩), .int .i64 (-1), .bool false, .bool false, .pointer (some ⟨w.heap.size, 0, none⟩), .slice (some ⟨g, off, none⟩) N cap, .int .i64 ↑N, .int .i64 ↑k, .bool false, u51, u52, u53, u54, u55, u56, u57, u58, u59, u60, u61, u62, u63, u64, u65, u66, u67, u68, u69, u70, u71, u72, u73, .pointer (some ⟨w.heap.size, 3, none⟩), .slice (some ⟨gp, op, none⟩) M cap2, .int .i64 ↑M, .int .i64 ↑i, .bool true, .int .i64 ↑i, .pointer (some ⟨gp, op + i * 3, none⟩), .agg #[.int .i64 p1, .int .i64 p2, .int .i64 p3], y 0, y 1, y 2, y 3, y 4, y 5, y 6, y 7, y 8, y 9, y 10, y 11, y 12, y 13, y 14, y 15, y 16, y 17, y 18, y 19, y 20, y 21, y 22, y 23, y 24, y 25, y 26, y 27, y 28, y 29, y 30, y 31, y 32, u115, u116, u117, u118, u119, u120, u121, u122, u123, u124, u125, u126, u127, u128, u129, u130, u131, u132, u133, u134, u135], defers := [] } ∧ QA W5 V 33 d y Wn) ?rc2 ?sc2 ?fc2
      case rc2 => exact fun d hd => ⟨(upd (upd (upd (upd (upd (upd (upd (upd (upd (upd (upd (upd (upd (upd (upd (upd (upd (upd (upd (upd (upd (upd (upd (upd (upd (upd (upd (upd (upd (upd (upd (upd (upd (fun _ => undef) 0 (u82)) 1 (u83)) 2 (u84)) 3 (u85)) 4 (u86)) 5 (u87)) 6 (u88)) 7 (u89)) 8 (u90)) 9 (u91)) 10 (u92)) 11 (u93)) 12 (u94)) 13 (u95)) 14 (u96)) 15 (u97)) 16 (u98)) 17 (u99)) 18 (u100)) 19 (u101)) 20 (u102)) 21 (u103)) 22 (u104)) 23 (u105)) 24 (u106)) 25 (u107)) 26 (u108)) 27 (u109)) 28 (u110)) 29 (u111)) 30 (u112)) 31 (u113)) 32 (u114)), rfl, QA.start (fun i hi => hd i hi)⟩
      case sc2 =>
       rintro ix oi hop d act Wt ⟨y, rfl, hR⟩ hSi hdep
       have hix : ix < 33 := (Array.getElem?_eq_some_iff.1 hop).1
       have HQ := Lib.hid hR
       have HD := Lib.hid hdep
       clear hR hdep hSi
       obtain rfl | rfl | rfl | rfl | rfl | rfl | rfl | rfl | rfl | rfl | rfl | rfl | rfl | rfl | rfl | rfl | rfl | rfl | rfl | rfl | rfl | rfl | rfl | rfl | rfl | rfl | rfl | rfl | rfl | rfl | rfl | rfl | rfl : ix = 0 ∨ ix = 1 ∨ ix = 2 ∨ ix = 3 ∨ ix = 4 ∨ ix = 5 ∨ ix = 6 ∨ ix = 7 ∨ ix = 8 ∨ ix = 9 ∨ ix = 10 ∨ ix = 11 ∨ ix = 12 ∨ ix = 13 ∨ ix = 14 ∨ ix = 15 ∨ ix = 16 ∨ ix = 17 ∨ ix = 18 ∨ ix = 19 ∨ ix = 20 ∨ ix = 21 ∨ ix = 22 ∨ ix = 23 ∨ ix = 24 ∨ ix = 25 ∨ ix = 26 ∨ ix = 27 ∨ ix = 28 ∨ ix = 29 ∨ ix = 30 ∨ ix = 31 ∨ ix = 32 := by omega
       all_goals (have hoo := hop; obtain rfl := Option.some.inj hop)
       ·refine oW hoo (by kernel_rfl) fun K hK => ?_
        obtain ⟨c0, c1, c2, c3, c4⟩ := (HS5.out.step HQ.out.bu).facts
        refine wV (v := .agg #[.slice (some ⟨g, off, none⟩) N cap, .int .i64 last, .int .i64 done, .slice (some ⟨gp, op, none⟩) M cap2, .bool em]) (fun _ _ => trivial) (by go_simp) ?_
        exact hK _ _ ⟨upd y 0 (V 0), by rw [vv0.out]; kernel_rfl, HQ.out.pure (i := 0) (by omega)⟩
       ·exact oW hoo (by kernel_rfl) fun K hK => wV (v := .pointer (some ⟨X, 1, none⟩)) (fun _ _ => trivial) (by go_simp) (hK _ _ ⟨upd y 1 (V 1), by rw [vv1.out]; kernel_rfl, HQ.out.pure (i := 1) (by omega)⟩)
       ·have e1 := (HQ.out.val 1 (by omega) (HD.out ⟨1, .data⟩ (by simp) rfl)).trans vv1.out
        refine oW hoo (by kernel_rfl) fun K hK => ?_
        have hx5 := (HQ.out.bu.block X (blk_lt HX5.out)).trans HX5.out
        have l0 := cB hx5 0
        have l1 := cB hx5 1
        have l2 := cB hx5 2
        refine wV (v := .int .i64 p2) (fun _ _ => trivial) (by go_simp) ?_
        exact hK _ _ ⟨upd y 2 (V 2), by rw [vv2.out]; kernel_rfl, HQ.out.pure (i := 2) (by omega)⟩
       ·have e0 := (HQ.out.val 0 (by omega) (HD.out ⟨0, .data⟩ (by simp) rfl)).trans vv0.out
        have e2 := (HQ.out.val 2 (by omega) (HD.out ⟨2, .data⟩ (by simp) rfl)).trans vv2.out
        refine oW hoo (by kernel_rfl) fun K hK => ?_
        refine wpIn_det (v := .bool true) (by go_simp) (is_at (some ⟨g, off, none⟩) (some ⟨gp, op, none⟩) N cap M cap2 last done em p2 HB1.out.1 HB1.out.2 _) fun Wn hb => ?_
        exact hK _ _ ⟨upd y 3 (V 3), by rw [vv3.out]; kernel_rfl, (HQ.out.walk hb).pure (i := 3) (by omega)⟩
       ·have e3 := (HQ.out.val 3 (by omega) (HD.out ⟨3, .data⟩ (by simp) rfl)).trans vv3.out
        exact oW hoo (by kernel_rfl) fun K hK => wV (v := .bool false) (fun _ _ => trivial) (by go_simp) (hK _ _ ⟨upd y 4 (V 4), by rw [vv4.out]; kernel_rfl, HQ.out.pure (i := 4) (by omega)⟩)
       ·have e4 := (HQ.out.val 4 (by omega) (HD.out ⟨4, .data⟩ (by simp) rfl)).trans vv4.out
        exact oW hoo (by kernel_rfl) fun K hK => wV (v := .bool false) (fun _ _ => trivial) (by go_simp) (hK _ _ ⟨upd y 5 (V 5), by rw [vv5.out]; kernel_rfl, HQ.out.pure (i := 5) (by omega)⟩)
       ·have e5 := (HQ.out.val 5 (by omega) (HD.out ⟨5, .guard⟩ (by simp) rfl)).trans vv5.out
        refine oW hoo (by rw [e5]; kernel_rfl) fun K hK => ?_
        obtain ⟨c0, c1, c2, c3, c4⟩ := (HS5.out.step HQ.out.bu).facts
        refine wV (v := .agg #[.slice (some ⟨g, off, none⟩) N cap, .int .i64 last, .int .i64 done, .slice (some ⟨gp, op, none⟩) M cap2, .bool em]) (fun _ _ => trivial) (by go_simp) ?_
        exact hK _ _ ⟨upd y 6 (V 6), by rw [vv6.out]; kernel_rfl, HQ.out.pure (i := 6) (by omega)⟩
       ·have e5 := (HQ.out.val 5 (by omega) (HD.out ⟨5, .guard⟩ (by simp) rfl)).trans vv5.out
        exact oW hoo (by rw [e5]; kernel_rfl) fun K hK => wV (v := .pointer (some ⟨X, 2, none⟩)) (fun _ _ => trivial) (by go_simp) (hK _ _ ⟨upd y 7 (V 7), by rw [vv7.out]; kernel_rfl, HQ.out.pure (i := 7) (by omega)⟩)
       ·have e7 := (HQ.out.val 7 (by omega) (HD.out ⟨7, .data⟩ (by simp) rfl)).trans vv7.out
        have e5 := (HQ.out.val 5 (by omega) (HD.out ⟨5, .guard⟩ (by simp) rfl)).trans vv5.out
        refine oW hoo (by rw [e5]; kernel_rfl) fun K hK => ?_
        have hx5 := (HQ.out.bu.block X (blk_lt HX5.out)).trans HX5.out
        have l0 := cB hx5 0
        have l1 := cB hx5 1
        have l2 := cB hx5 2
        refine wV (v := .int .i64 p3) (fun _ _ => trivial) (by go_simp) ?_
        exact hK _ _ ⟨upd y 8 (V 8), by rw [vv8.out]; kernel_rfl, HQ.out.pure (i := 8) (by omega)⟩
       ·have e6 := (HQ.out.val 6 (by omega) (HD.out ⟨6, .data⟩ (by simp) rfl)).trans vv6.out
        have e8 := (HQ.out.val 8 (by omega) (HD.out ⟨8, .data⟩ (by simp) rfl)).trans vv8.out
        have e5 := (HQ.out.val 5 (by omega) (HD.out ⟨5, .guard⟩ (by simp) rfl)).trans vv5.out
        refine oW hoo (by rw [e5]; kernel_rfl) fun K hK => ?_
        refine wpIn_det (v := .bool false) (by go_simp) (is_no (some ⟨g, off, none⟩) (some ⟨gp, op, none⟩) N cap M cap2 last done em p3 HB2.out _) fun Wn hb => ?_
        exact hK _ _ ⟨upd y 9 (V 9), by rw [vv9.out]; kernel_rfl, (HQ.out.walk hb).pure (i := 9) (by omega)⟩
       ·have e9 := (HQ.out.val 9 (by omega) (HD.out ⟨9, .data⟩ (by simp) rfl)).trans vv9.out
        have e5 := (HQ.out.val 5 (by omega) (HD.out ⟨5, .guard⟩ (by simp) rfl)).trans vv5.out
        exact oW hoo (by rw [e5]; kernel_rfl) fun K hK => wV (v := .bool true) (fun _ _ => trivial) (by go_simp) (hK _ _ ⟨upd y 10 (V 10), by rw [vv10.out]; kernel_rfl, HQ.out.pure (i := 10) (by omega)⟩)
       ·have e5 := (HQ.out.val 5 (by omega) (HD.out ⟨5, .data⟩ (by simp) rfl)).trans vv5.out
        have e10 := (HQ.out.val 10 (by omega) (HD.out ⟨10, .data⟩ (by simp) rfl)).trans vv10.out
        exact oW hoo (by kernel_rfl) fun K hK => wV (v := .bool true) (fun _ _ => trivial) (by go_simp) (hK _ _ ⟨upd y 11 (V 11), by rw [vv11.out]; kernel_rfl, HQ.out.pure (i := 11) (by omega)⟩)
       ·have e11 := (HQ.out.val 11 (by omega) (HD.out ⟨11, .data⟩ (by simp) rfl)).trans vv11.out
        exact oW hoo (by kernel_rfl) fun K hK => wV (v := .bool true) (fun _ _ => trivial) (by go_simp) (hK _ _ ⟨upd y 12 (V 12), by rw [vv12.out]; kernel_rfl, HQ.out.pure (i := 12) (by omega)⟩)
       ·have e12 := (HQ.out.val 12 (by omega) (HD.out ⟨12, .guard⟩ (by simp) rfl)).trans vv12.out
        exact oU hoo (by rw [e12]; kernel_rfl) (fun _ _ => trivial) ⟨upd y 13 (V 13), by rw [vv13.out]; kernel_rfl, HQ.out.pure (i := 13) (by omega)⟩
       ·have e12 := (HQ.out.val 12 (by omega) (HD.out ⟨12, .guard⟩ (by simp) rfl)).trans vv12.out
        exact oU hoo (by rw [e12]; kernel_rfl) (fun _ _ => trivial) ⟨upd y 14 (V 14), by rw [vv14.out]; kernel_rfl, HQ.out.pure (i := 14) (by omega)⟩
       ·have e12 := (HQ.out.val 12 (by omega) (HD.out ⟨12, .guard⟩ (by simp) rfl)).trans vv12.out
        exact oU hoo (by rw [e12]; kernel_rfl) (fun _ _ => trivial) ⟨upd y 15 (V 15), by rw [vv15.out]; kernel_rfl, HQ.out.pure (i := 15) (by omega)⟩
       ·have e12 := (HQ.out.val 12 (by omega) (HD.out ⟨12, .data⟩ (by simp) rfl)).trans vv12.out
        have e15 := (HQ.out.val 15 (by omega) (HD.out ⟨15, .data⟩ (by simp) rfl)).trans vv15.out
        exact oW hoo (by kernel_rfl) fun K hK => wV (v := .bool true) (fun _ _ => trivial) (by go_simp) (hK _ _ ⟨upd y 16 (V 16), by rw [vv16.out]; kernel_rfl, HQ.out.pure (i := 16) (by omega)⟩)
       ·have e16 := (HQ.out.val 16 (by omega) (HD.out ⟨16, .data⟩ (by simp) rfl)).trans vv16.out
        exact oW hoo (by kernel_rfl) fun K hK => wV (v := .bool true) (fun _ _ => trivial) (by go_simp) (hK _ _ ⟨upd y 17 (V 17), by rw [vv17.out]; kernel_rfl, HQ.out.pure (i := 17) (by omega)⟩)
       ·have e17 := (HQ.out.val 17 (by omega) (HD.out ⟨17, .guard⟩ (by simp) rfl)).trans vv17.out
        exact oU hoo (by rw [e17]; kernel_rfl) (fun _ _ => trivial) ⟨upd y 18 (V 18), by rw [vv18.out]; kernel_rfl, HQ.out.pure (i := 18) (by omega)⟩
       ·have e17 := (HQ.out.val 17 (by omega) (HD.out ⟨17, .guard⟩ (by simp) rfl)).trans vv17.out
        exact oU hoo (by rw [e17]; kernel_rfl) (fun _ _ => trivial) ⟨upd y 19 (V 19), by rw [vv19.out]; kernel_rfl, HQ.out.pure (i := 19) (by omega)⟩
       ·have e17 := (HQ.out.val 17 (by omega) (HD.out ⟨17, .guard⟩ (by simp) rfl)).trans vv17.out
        exact oU hoo (by rw [e17]; kernel_rfl) (fun _ _ => trivial) ⟨upd y 20 (V 20), by rw [vv20.out]; kernel_rfl, HQ.out.pure (i := 20) (by omega)⟩
       ·have e20 := (HQ.out.val 20 (by omega) (HD.out ⟨20, .guard⟩ (by simp) rfl)).trans vv20.out
        exact oU hoo (by rw [e20]; kernel_rfl) (fun _ _ => trivial) ⟨upd y 21 (V 21), by rw [vv21.out]; kernel_rfl, HQ.out.pure (i := 21) (by omega)⟩
       ·have e20 := (HQ.out.val 20 (by omega) (HD.out ⟨20, .guard⟩ (by simp) rfl)).trans vv20.out
        exact oU hoo (by rw [e20]; kernel_rfl) (fun _ _ => trivial) ⟨upd y 22 (V 22), by rw [vv22.out]; kernel_rfl, HQ.out.pure (i := 22) (by omega)⟩
       ·have e20 := (HQ.out.val 20 (by omega) (HD.out ⟨20, .guard⟩ (by simp) rfl)).trans vv20.out
        exact oU hoo (by rw [e20]; kernel_rfl) (fun _ _ => trivial) ⟨upd y 23 (V 23), by rw [vv23.out]; kernel_rfl, HQ.out.pure (i := 23) (by omega)⟩
       ·have e20 := (HQ.out.val 20 (by omega) (HD.out ⟨20, .guard⟩ (by simp) rfl)).trans vv20.out
        exact oU hoo (by rw [e20]; kernel_rfl) (fun _ _ => trivial) ⟨upd y 24 (V 24), by rw [vv24.out]; kernel_rfl, HQ.out.pure (i := 24) (by omega)⟩
       ·have e20 := (HQ.out.val 20 (by omega) (HD.out ⟨20, .guard⟩ (by simp) rfl)).trans vv20.out
        exact oU hoo (by rw [e20]; kernel_rfl) (fun _ _ => trivial) ⟨upd y 25 (V 25), by rw [vv25.out]; kernel_rfl, HQ.out.pure (i := 25) (by omega)⟩
       ·have e20 := (HQ.out.val 20 (by omega) (HD.out ⟨20, .guard⟩ (by simp) rfl)).trans vv20.out
        exact oU hoo (by rw [e20]; kernel_rfl) (fun _ _ => trivial) ⟨upd y 26 (V 26), by rw [vv26.out]; kernel_rfl, HQ.out.pure (i := 26) (by omega)⟩
       ·have e20 := (HQ.out.val 20 (by omega) (HD.out ⟨20, .guard⟩ (by simp) rfl)).trans vv20.out
        exact oU hoo (by rw [e20]; kernel_rfl) (fun _ _ => trivial) ⟨upd y 27 (V 27), by rw [vv27.out]; kernel_rfl, HQ.out.pure (i := 27) (by omega)⟩
       ·have e20 := (HQ.out.val 20 (by omega) (HD.out ⟨20, .guard⟩ (by simp) rfl)).trans vv20.out
        exact oU hoo (by rw [e20]; kernel_rfl) (fun _ _ => trivial) ⟨upd y 28 (V 28), by rw [vv28.out]; kernel_rfl, HQ.out.pure (i := 28) (by omega)⟩
       ·have e20 := (HQ.out.val 20 (by omega) (HD.out ⟨20, .guard⟩ (by simp) rfl)).trans vv20.out
        exact oU hoo (by rw [e20]; kernel_rfl) (fun _ _ => trivial) ⟨upd y 29 (V 29), by rw [vv29.out]; kernel_rfl, HQ.out.pure (i := 29) (by omega)⟩
       ·have e20 := (HQ.out.val 20 (by omega) (HD.out ⟨20, .guard⟩ (by simp) rfl)).trans vv20.out
        exact oU hoo (by rw [e20]; kernel_rfl) (fun _ _ => trivial) ⟨upd y 30 (V 30), by rw [vv30.out]; kernel_rfl, HQ.out.pure (i := 30) (by omega)⟩
       ·have e17 := (HQ.out.val 17 (by omega) (HD.out ⟨17, .guard⟩ (by simp) rfl)).trans vv17.out
        exact oU hoo (by rw [e17]; kernel_rfl) (fun _ _ => trivial) ⟨upd y 31 (V 31), by rw [vv31.out]; kernel_rfl, HQ.out.pure (i := 31) (by omega)⟩
       ·have e17 := (HQ.out.val 17 (by omega) (HD.out ⟨17, .data⟩ (by simp) rfl)).trans vv17.out
        have e31 := (HQ.out.val 31 (by omega) (HD.out ⟨31, .data⟩ (by simp) rfl)).trans vv31.out
        exact oW hoo (by kernel_rfl) fun K hK => wV (v := .bool true) (fun _ _ => trivial) (by go_simp) (hK _ _ ⟨upd y 32 (V 32), by rw [vv32.out]; kernel_rfl, HQ.out.pure (i := 32) (by omega)⟩)
      case fc2 =>
       rintro d act Wt ⟨y, rfl, hR⟩ hall
       have q32 : y 32 = .bool true := (hR.val 32 (by omega) (hall 32 (by decide))).trans vv32.out
       rw [q32]
       have HSE := Lib.hid (HS5.out.step hR.bu)
       clear hR hall
       subst e
       try dsimp only
       go_wp2_with fail
       go_ret
       exact ⟨rfl, HSE.out.below⟩
     have HB2 := Lib.hid hb2
     clear hb2
     by_cases hb3 : p1 < 0
     ·have HB3 : Hid (decide (p1 < 0) = true) := Lib.hid (decide_eq_true hb3)
      refine HNO.out (fun h => by have := h.2.2.1; exact absurd this (by show ¬ 0 ≤ p1; omega)) (fun e => ?_)
      clear hb3
      obtain ⟨V, hV⟩ : ∃ V : Nat → Value, V = fun vv => ([.agg #[.slice (some ⟨g, off, none⟩) N cap, .int .i64 last, .int .i64 done, .slice (some ⟨gp, op, none⟩) M cap2, .bool em], .pointer (some ⟨X, 1, none⟩), .int .i64 p2, .bool true, .bool false, .bool false, .agg #[.slice (some ⟨g, off, none⟩) N cap, .int .i64 last, .int .i64 done, .slice (some ⟨gp, op, none⟩) M cap2, .bool em], .pointer (some ⟨X, 2, none⟩), .int .i64 p3, .bool true, .bool false, .bool false, .bool false, .pointer (some ⟨X, 0, none⟩), .int .i64 p1, .bool true, .bool true, .bool true, undef, undef, undef, undef, undef, undef, undef, undef, undef, undef, undef, undef, undef, undef, .bool true] : List Value).getD vv undef := ⟨_, rfl⟩
      have vv0 : Hid (V 0 = .agg #[.slice (some ⟨g, off, none⟩) N cap, .int .i64 last, .int .i64 done, .slice (some ⟨gp, op, none⟩) M cap2, .bool em]) := Lib.hid (by rw [hV]; rfl)
      have vv1 : Hid (V 1 = .pointer (some ⟨X, 1, none⟩)) := Lib.hid (by rw [hV]; rfl)
      have vv2 : Hid (V 2 = .int .i64 p2) := Lib.hid (by rw [hV]; rfl)
      have vv3 : Hid (V 3 = .bool true) := Lib.hid (by rw [hV]; rfl)
      have vv4 : Hid (V 4 = .bool false) := Lib.hid (by rw [hV]; rfl)
      have vv5 : Hid (V 5 = .bool false) := Lib.hid (by rw [hV]; rfl)
      have vv6 : Hid (V 6 = .agg #[.slice (some ⟨g, off, none⟩) N cap, .int .i64 last, .int .i64 done, .slice (some ⟨gp, op, none⟩) M cap2, .bool em]) := Lib.hid (by rw [hV]; rfl)
      have vv7 : Hid (V 7 = .pointer (some ⟨X, 2, none⟩)) := Lib.hid (by rw [hV]; rfl)
      have vv8 : Hid (V 8 = .int .i64 p3) := Lib.hid (by rw [hV]; rfl)
      have vv9 : Hid (V 9 = .bool true) := Lib.hid (by rw [hV]; rfl)
      have vv10 : Hid (V 10 = .bool false) := Lib.hid (by rw [hV]; rfl)
      have vv11 : Hid (V 11 = .bool false) := Lib.hid (by rw [hV]; rfl)
      have vv12 : Hid (V 12 = .bool false) := Lib.hid (by rw [hV]; rfl)
      have vv13 : Hid (V 13 = .pointer (some ⟨X, 0, none⟩)) := Lib.hid (by rw [hV]; rfl)
      have vv14 : Hid (V 14 = .int .i64 p1) := Lib.hid (by rw [hV]; rfl)
      have vv15 : Hid (V 15 = .bool true) := Lib.hid (by rw [hV]; rfl)
      have vv16 : Hid (V 16 = .bool true) := Lib.hid (by rw [hV]; rfl)
      have vv17 : Hid (V 17 = .bool true) := Lib.hid (by rw [hV]; rfl)
      have vv18 : Hid (V 18 = undef) := Lib.hid (by rw [hV]; rfl)
      have vv19 : Hid (V 19 = undef) := Lib.hid (by rw [hV]; rfl)
      have vv20 : Hid (V 20 = undef) := Lib.hid (by rw [hV]; rfl)
      have vv21 : Hid (V 21 = undef) := Lib.hid (by rw [hV]; rfl)
      have vv22 : Hid (V 22 = undef) := Lib.hid (by rw [hV]; rfl)
      have vv23 : Hid (V 23 = undef) := Lib.hid (by rw [hV]; rfl)
      have vv24 : Hid (V 24 = undef) := Lib.hid (by rw [hV]; rfl)
      have vv25 : Hid (V 25 = undef) := Lib.hid (by rw [hV]; rfl)
      have vv26 : Hid (V 26 = undef) := Lib.hid (by rw [hV]; rfl)
      have vv27 : Hid (V 27 = undef) := Lib.hid (by rw [hV]; rfl)
      have vv28 : Hid (V 28 = undef) := Lib.hid (by rw [hV]; rfl)
      have vv29 : Hid (V 29 = undef) := Lib.hid (by rw [hV]; rfl)
      have vv30 : Hid (V 30 = undef) := Lib.hid (by rw [hV]; rfl)
      have vv31 : Hid (V 31 = undef) := Lib.hid (by rw [hV]; rfl)
      have vv32 : Hid (V 32 = .bool true) := Lib.hid (by rw [hV]; rfl)
      clear hV
      refine (wpIn_wide (n := 20)).1 ?_
      refine wpIn_region_inv (by kernel_rfl) (back_of (by kernel_rfl)) (fun d act Wn => ∃ y : Nat → Value, act = { tmps := #[.agg #[.slice (some ⟨g, off, none⟩) N cap, .int .i64 last, .int .i64 done, .slice (some ⟨gp, op, none⟩) M cap2, .bool em], .pointer (some ⟨w.heap.size, 0, none⟩), u2, .pointer (some ⟨XF, 0, none⟩), u4, u5, .int .i64 ↑i, .pointer (some ⟨X, 0, none⟩), .pointer (some ⟨w.heap.size, 0, none⟩), .slice (some ⟨g, off, none⟩) N cap, .int .i64 ↑N, .bool false, .bool false, .pointer (some ⟨w.heap.size, 0, none⟩), .slice (some ⟨g, off, none⟩) N cap, .int .i64 ↑N, .bool false, .bool false, .bool false, .agg #[.slice (some ⟨g, off, none⟩) N cap, .int .i64 last, .int .i64 done, .slice (some ⟨gp, op, none⟩) M cap2, .bool em], .pointer (some ⟨w.heap.size, 1, none⟩), .int .i64 last, .bool true, .bool false, .bool false, .bool false, .agg #[.slice (some ⟨g, off, none⟩) N cap, .int .i64 last, .int .i64 done, .slice (some ⟨gp, op, none⟩) M cap2, .bool em], .pointer (some ⟨w.heap.size, 2, none⟩), .int .i64 done, .bool true, .bool false, .bool false, .pointer (some ⟨w.heap.size, 0, none⟩), .slice (some ⟨g, off, none⟩) N cap, .pointer (some ⟨g, off, none⟩), .agg #[.int .i64 0, .int .i64 (-1), .int .i64 v2], .pointer (some ⟨XF, 0, none⟩), .pointer (some ⟨XF, 0, none⟩), .int .i64 0, .bool false, .bool false, .pointer (some ⟨XF, 0, none⟩), .pointer (some ⟨XF, 1, none⟩), .int .i64 (-1), .bool false, .bool false, .pointer (some ⟨w.heap.size, 0, none⟩), .slice (some ⟨g, off, none⟩) N cap, .int .i64 ↑N, .int .i64 ↑k, .bool false, u51, u52, u53, u54, u55, u56, u57, u58, u59, u60, u61, u62, u63, u64, u65, u66, u67, u68, u69, u70, u71, u72, u73, .pointer (some ⟨w.heap.size, 3, none⟩), .slice (some ⟨gp, op, none⟩) M cap2, .int .i64 ↑M, .int .i64 ↑i, .bool true, .int .i64 ↑i, .pointer (some ⟨gp, op + i * 3, none⟩), .agg #[.int .i64 p1, .int .i64 p2, .int .i64 p3], y 0, y 1, y 2, y 3, y 4, y 5, y 6, y 7, y 8, y 9, y 10, y 11, y 12, y 13, y 14, y 15, y 16, y 17, y 18, y 19, y 20, y 21, y 22, y 23, y 24, y 25, y 26, y 27, y 28, y 29, y 30, y 31, y 32, u115, u116, u117, u118, u119, u120, u121, u122, u123, u124, u125, u126, u127, u128, u129, u130, u131, u132, u133, u134, u135], defers := [] } ∧ QA W5 V 33 d y Wn) ?rc3 ?sc3 ?fc3
      case rc3 => exact fun d hd => ⟨(upd (upd (upd (upd (upd (upd (upd (upd (upd (upd (upd (upd (upd (upd (upd (upd (upd (upd (upd (upd (upd (upd (upd (upd (upd (upd (upd (upd (upd (upd (upd (upd (upd (fun _ => undef) 0 (u82)) 1 (u83)) 2 (u84)) 3 (u85)) 4 (u86)) 5 (u87)) 6 (u88)) 7 (u89)) 8 (u90)) 9 (u91)) 10 (u92)) 11 (u93)) 12 (u94)) 13 (u95)) 14 (u96)) 15 (u97)) 16 (u98)) 17 (u99)) 18 (u100)) 19 (u101)) 20 (u102)) 21 (u103)) 22 (u104)) 23 (u105)) 24 (u106)) 25 (u107)) 26 (u108)) 27 (u109)) 28 (u110)) 29 (u111)) 30 (u112)) 31 (u113)) 32 (u114)), rfl, QA.start (fun i hi => hd i hi)⟩
      case sc3 =>
       rintro ix oi hop d act Wt ⟨y, rfl, hR⟩ hSi hdep
       have hix : ix < 33 := (Array.getElem?_eq_some_iff.1 hop).1
       have HQ := Lib.hid hR
       have HD := Lib.hid hdep
       clear hR hdep hSi
       obtain rfl | rfl | rfl | rfl | rfl | rfl | rfl | rfl | rfl | rfl | rfl | rfl | rfl | rfl | rfl | rfl | rfl | rfl | rfl | rfl | rfl | rfl | rfl | rfl | rfl | rfl | rfl | rfl | rfl | rfl | rfl | rfl | rfl : ix = 0 ∨ ix = 1 ∨ ix = 2 ∨ ix = 3 ∨ ix = 4 ∨ ix = 5 ∨ ix = 6 ∨ ix = 7 ∨ ix = 8 ∨ ix = 9 ∨ ix = 10 ∨ ix = 11 ∨ ix = 12 ∨ ix = 13 ∨ ix = 14 ∨ ix = 15 ∨ ix = 16 ∨ ix = 17 ∨ ix = 18 ∨ ix = 19 ∨ ix = 20 ∨ ix = 21 ∨ ix = 22 ∨ ix = 23 ∨ ix = 24 ∨ ix = 25 ∨ ix = 26 ∨ ix = 27 ∨ ix = 28 ∨ ix = 29 ∨ ix = 30 ∨ ix = 31 ∨ ix = 32 := by omega
       all_goals (have hoo := hop; obtain rfl := Option.some.inj hop)
       ·refine oW hoo (by kernel_rfl) fun K hK => ?_
        obtain ⟨c0, c1, c2, c3, c4⟩ := (HS5.out.step HQ.out.bu).facts
        refine wV (v := .agg #[.slice (some ⟨g, off, none⟩) N cap, .int .i64 last, .int .i64 done, .slice (some ⟨gp, op, none⟩) M cap2, .bool em]) (fun _ _ => trivial) (by go_simp) ?_
        exact hK _ _ ⟨upd y 0 (V 0), by rw [vv0.out]; kernel_rfl, HQ.out.pure (i := 0) (by omega)⟩
       ·exact oW hoo (by kernel_rfl) fun K hK => wV (v := .pointer (some ⟨X, 1, none⟩)) (fun _ _ => trivial) (by go_simp) (hK _ _ ⟨upd y 1 (V 1), by rw [vv1.out]; kernel_rfl, HQ.out.pure (i := 1) (by omega)⟩)
       ·have e1 := (HQ.out.val 1 (by omega) (HD.out ⟨1, .data⟩ (by simp) rfl)).trans vv1.out
        refine oW hoo (by kernel_rfl) fun K hK => ?_
        have hx5 := (HQ.out.bu.block X (blk_lt HX5.out)).trans HX5.out
        have l0 := cB hx5 0
        have l1 := cB hx5 1
        have l2 := cB hx5 2
        refine wV (v := .int .i64 p2) (fun _ _ => trivial) (by go_simp) ?_
        exact hK _ _ ⟨upd y 2 (V 2), by rw [vv2.out]; kernel_rfl, HQ.out.pure (i := 2) (by omega)⟩
       ·have e0 := (HQ.out.val 0 (by omega) (HD.out ⟨0, .data⟩ (by simp) rfl)).trans vv0.out
        have e2 := (HQ.out.val 2 (by omega) (HD.out ⟨2, .data⟩ (by simp) rfl)).trans vv2.out
        refine oW hoo (by kernel_rfl) fun K hK => ?_
        refine wpIn_det (v := .bool true) (by go_simp) (is_at (some ⟨g, off, none⟩) (some ⟨gp, op, none⟩) N cap M cap2 last done em p2 HB1.out.1 HB1.out.2 _) fun Wn hb => ?_
        exact hK _ _ ⟨upd y 3 (V 3), by rw [vv3.out]; kernel_rfl, (HQ.out.walk hb).pure (i := 3) (by omega)⟩
       ·have e3 := (HQ.out.val 3 (by omega) (HD.out ⟨3, .data⟩ (by simp) rfl)).trans vv3.out
        exact oW hoo (by kernel_rfl) fun K hK => wV (v := .bool false) (fun _ _ => trivial) (by go_simp) (hK _ _ ⟨upd y 4 (V 4), by rw [vv4.out]; kernel_rfl, HQ.out.pure (i := 4) (by omega)⟩)
       ·have e4 := (HQ.out.val 4 (by omega) (HD.out ⟨4, .data⟩ (by simp) rfl)).trans vv4.out
        exact oW hoo (by kernel_rfl) fun K hK => wV (v := .bool false) (fun _ _ => trivial) (by go_simp) (hK _ _ ⟨upd y 5 (V 5), by rw [vv5.out]; kernel_rfl, HQ.out.pure (i := 5) (by omega)⟩)
       ·have e5 := (HQ.out.val 5 (by omega) (HD.out ⟨5, .guard⟩ (by simp) rfl)).trans vv5.out
        refine oW hoo (by rw [e5]; kernel_rfl) fun K hK => ?_
        obtain ⟨c0, c1, c2, c3, c4⟩ := (HS5.out.step HQ.out.bu).facts
        refine wV (v := .agg #[.slice (some ⟨g, off, none⟩) N cap, .int .i64 last, .int .i64 done, .slice (some ⟨gp, op, none⟩) M cap2, .bool em]) (fun _ _ => trivial) (by go_simp) ?_
        exact hK _ _ ⟨upd y 6 (V 6), by rw [vv6.out]; kernel_rfl, HQ.out.pure (i := 6) (by omega)⟩
       ·have e5 := (HQ.out.val 5 (by omega) (HD.out ⟨5, .guard⟩ (by simp) rfl)).trans vv5.out
        exact oW hoo (by rw [e5]; kernel_rfl) fun K hK => wV (v := .pointer (some ⟨X, 2, none⟩)) (fun _ _ => trivial) (by go_simp) (hK _ _ ⟨upd y 7 (V 7), by rw [vv7.out]; kernel_rfl, HQ.out.pure (i := 7) (by omega)⟩)
       ·have e7 := (HQ.out.val 7 (by omega) (HD.out ⟨7, .data⟩ (by simp) rfl)).trans vv7.out
        have e5 := (HQ.out.val 5 (by omega) (HD.out ⟨5, .guard⟩ (by simp) rfl)).trans vv5.out
        refine oW hoo (by rw [e5]; kernel_rfl) fun K hK => ?_
        have hx5 := (HQ.out.bu.block X (blk_lt HX5.out)).trans HX5.out
        have l0 := cB hx5 0
        have l1 := cB hx5 1
        have l2 := cB hx5 2
        refine wV (v := .int .i64 p3) (fun _ _ => trivial) (by go_simp) ?_
        exact hK _ _ ⟨upd y 8 (V 8), by rw [vv8.out]; kernel_rfl, HQ.out.pure (i := 8) (by omega)⟩
       ·have e6 := (HQ.out.val 6 (by omega) (HD.out ⟨6, .data⟩ (by simp) rfl)).trans vv6.out
        have e8 := (HQ.out.val 8 (by omega) (HD.out ⟨8, .data⟩ (by simp) rfl)).trans vv8.out
        have e5 := (HQ.out.val 5 (by omega) (HD.out ⟨5, .guard⟩ (by simp) rfl)).trans vv5.out
        refine oW hoo (by rw [e5]; kernel_rfl) fun K hK => ?_
        refine wpIn_det (v := .bool true) (by go_simp) (is_at (some ⟨g, off, none⟩) (some ⟨gp, op, none⟩) N cap M cap2 last done em p3 HB2.out.1 HB2.out.2 _) fun Wn hb => ?_
        exact hK _ _ ⟨upd y 9 (V 9), by rw [vv9.out]; kernel_rfl, (HQ.out.walk hb).pure (i := 9) (by omega)⟩
       ·have e9 := (HQ.out.val 9 (by omega) (HD.out ⟨9, .data⟩ (by simp) rfl)).trans vv9.out
        have e5 := (HQ.out.val 5 (by omega) (HD.out ⟨5, .guard⟩ (by simp) rfl)).trans vv5.out
        exact oW hoo (by rw [e5]; kernel_rfl) fun K hK => wV (v := .bool false) (fun _ _ => trivial) (by go_simp) (hK _ _ ⟨upd y 10 (V 10), by rw [vv10.out]; kernel_rfl, HQ.out.pure (i := 10) (by omega)⟩)
       ·have e5 := (HQ.out.val 5 (by omega) (HD.out ⟨5, .data⟩ (by simp) rfl)).trans vv5.out
        have e10 := (HQ.out.val 10 (by omega) (HD.out ⟨10, .data⟩ (by simp) rfl)).trans vv10.out
        exact oW hoo (by kernel_rfl) fun K hK => wV (v := .bool false) (fun _ _ => trivial) (by go_simp) (hK _ _ ⟨upd y 11 (V 11), by rw [vv11.out]; kernel_rfl, HQ.out.pure (i := 11) (by omega)⟩)
       ·have e11 := (HQ.out.val 11 (by omega) (HD.out ⟨11, .data⟩ (by simp) rfl)).trans vv11.out
        exact oW hoo (by kernel_rfl) fun K hK => wV (v := .bool false) (fun _ _ => trivial) (by go_simp) (hK _ _ ⟨upd y 12 (V 12), by rw [vv12.out]; kernel_rfl, HQ.out.pure (i := 12) (by omega)⟩)
       ·have e12 := (HQ.out.val 12 (by omega) (HD.out ⟨12, .guard⟩ (by simp) rfl)).trans vv12.out
        exact oW hoo (by rw [e12]; kernel_rfl) fun K hK => wV (v := .pointer (some ⟨X, 0, none⟩)) (fun _ _ => trivial) (by go_simp) (hK _ _ ⟨upd y 13 (V 13), by rw [vv13.out]; kernel_rfl, HQ.out.pure (i := 13) (by omega)⟩)
       ·have e13 := (HQ.out.val 13 (by omega) (HD.out ⟨13, .data⟩ (by simp) rfl)).trans vv13.out
        have e12 := (HQ.out.val 12 (by omega) (HD.out ⟨12, .guard⟩ (by simp) rfl)).trans vv12.out
        refine oW hoo (by rw [e12]; kernel_rfl) fun K hK => ?_
        have hx5 := (HQ.out.bu.block X (blk_lt HX5.out)).trans HX5.out
        have l0 := cB hx5 0
        have l1 := cB hx5 1
        have l2 := cB hx5 2
        refine wV (v := .int .i64 p1) (fun _ _ => trivial) (by go_simp) ?_
        exact hK _ _ ⟨upd y 14 (V 14), by rw [vv14.out]; kernel_rfl, HQ.out.pure (i := 14) (by omega)⟩
       ·have e14 := (HQ.out.val 14 (by omega) (HD.out ⟨14, .data⟩ (by simp) rfl)).trans vv14.out
        have e12 := (HQ.out.val 12 (by omega) (HD.out ⟨12, .guard⟩ (by simp) rfl)).trans vv12.out
        refine oW hoo (by rw [e12]; kernel_rfl) fun K hK => ?_
        have tp : decide (p1 < 0) = true := HB3.out
        refine wV (v := .bool true) (fun _ _ => trivial) (by go_simp) ?_
        exact hK _ _ ⟨upd y 15 (V 15), by rw [vv15.out]; kernel_rfl, HQ.out.pure (i := 15) (by omega)⟩
       ·have e12 := (HQ.out.val 12 (by omega) (HD.out ⟨12, .data⟩ (by simp) rfl)).trans vv12.out
        have e15 := (HQ.out.val 15 (by omega) (HD.out ⟨15, .data⟩ (by simp) rfl)).trans vv15.out
        exact oW hoo (by kernel_rfl) fun K hK => wV (v := .bool true) (fun _ _ => trivial) (by go_simp) (hK _ _ ⟨upd y 16 (V 16), by rw [vv16.out]; kernel_rfl, HQ.out.pure (i := 16) (by omega)⟩)
       ·have e16 := (HQ.out.val 16 (by omega) (HD.out ⟨16, .data⟩ (by simp) rfl)).trans vv16.out
        exact oW hoo (by kernel_rfl) fun K hK => wV (v := .bool true) (fun _ _ => trivial) (by go_simp) (hK _ _ ⟨upd y 17 (V 17), by rw [vv17.out]; kernel_rfl, HQ.out.pure (i := 17) (by omega)⟩)
       ·have e17 := (HQ.out.val 17 (by omega) (HD.out ⟨17, .guard⟩ (by simp) rfl)).trans vv17.out
        exact oU hoo (by rw [e17]; kernel_rfl) (fun _ _ => trivial) ⟨upd y 18 (V 18), by rw [vv18.out]; kernel_rfl, HQ.out.pure (i := 18) (by omega)⟩
       ·have e17 := (HQ.out.val 17 (by omega) (HD.out ⟨17, .guard⟩ (by simp) rfl)).trans vv17.out
        exact oU hoo (by rw [e17]; kernel_rfl) (fun _ _ => trivial) ⟨upd y 19 (V 19), by rw [vv19.out]; kernel_rfl, HQ.out.pure (i := 19) (by omega)⟩
       ·have e17 := (HQ.out.val 17 (by omega) (HD.out ⟨17, .guard⟩ (by simp) rfl)).trans vv17.out
        exact oU hoo (by rw [e17]; kernel_rfl) (fun _ _ => trivial) ⟨upd y 20 (V 20), by rw [vv20.out]; kernel_rfl, HQ.out.pure (i := 20) (by omega)⟩
       ·have e20 := (HQ.out.val 20 (by omega) (HD.out ⟨20, .guard⟩ (by simp) rfl)).trans vv20.out
        exact oU hoo (by rw [e20]; kernel_rfl) (fun _ _ => trivial) ⟨upd y 21 (V 21), by rw [vv21.out]; kernel_rfl, HQ.out.pure (i := 21) (by omega)⟩
       ·have e20 := (HQ.out.val 20 (by omega) (HD.out ⟨20, .guard⟩ (by simp) rfl)).trans vv20.out
        exact oU hoo (by rw [e20]; kernel_rfl) (fun _ _ => trivial) ⟨upd y 22 (V 22), by rw [vv22.out]; kernel_rfl, HQ.out.pure (i := 22) (by omega)⟩
       ·have e20 := (HQ.out.val 20 (by omega) (HD.out ⟨20, .guard⟩ (by simp) rfl)).trans vv20.out
        exact oU hoo (by rw [e20]; kernel_rfl) (fun _ _ => trivial) ⟨upd y 23 (V 23), by rw [vv23.out]; kernel_rfl, HQ.out.pure (i := 23) (by omega)⟩
       ·have e20 := (HQ.out.val 20 (by omega) (HD.out ⟨20, .guard⟩ (by simp) rfl)).trans vv20.out
        exact oU hoo (by rw [e20]; kernel_rfl) (fun _ _ => trivial) ⟨upd y 24 (V 24), by rw [vv24.out]; kernel_rfl, HQ.out.pure (i := 24) (by omega)⟩
       ·have e20 := (HQ.out.val 20 (by omega) (HD.out ⟨20, .guard⟩ (by simp) rfl)).trans vv20.out
        exact oU hoo (by rw [e20]; kernel_rfl) (fun _ _ => trivial) ⟨upd y 25 (V 25), by rw [vv25.out]; kernel_rfl, HQ.out.pure (i := 25) (by omega)⟩
       ·have e20 := (HQ.out.val 20 (by omega) (HD.out ⟨20, .guard⟩ (by simp) rfl)).trans vv20.out
        exact oU hoo (by rw [e20]; kernel_rfl) (fun _ _ => trivial) ⟨upd y 26 (V 26), by rw [vv26.out]; kernel_rfl, HQ.out.pure (i := 26) (by omega)⟩
       ·have e20 := (HQ.out.val 20 (by omega) (HD.out ⟨20, .guard⟩ (by simp) rfl)).trans vv20.out
        exact oU hoo (by rw [e20]; kernel_rfl) (fun _ _ => trivial) ⟨upd y 27 (V 27), by rw [vv27.out]; kernel_rfl, HQ.out.pure (i := 27) (by omega)⟩
       ·have e20 := (HQ.out.val 20 (by omega) (HD.out ⟨20, .guard⟩ (by simp) rfl)).trans vv20.out
        exact oU hoo (by rw [e20]; kernel_rfl) (fun _ _ => trivial) ⟨upd y 28 (V 28), by rw [vv28.out]; kernel_rfl, HQ.out.pure (i := 28) (by omega)⟩
       ·have e20 := (HQ.out.val 20 (by omega) (HD.out ⟨20, .guard⟩ (by simp) rfl)).trans vv20.out
        exact oU hoo (by rw [e20]; kernel_rfl) (fun _ _ => trivial) ⟨upd y 29 (V 29), by rw [vv29.out]; kernel_rfl, HQ.out.pure (i := 29) (by omega)⟩
       ·have e20 := (HQ.out.val 20 (by omega) (HD.out ⟨20, .guard⟩ (by simp) rfl)).trans vv20.out
        exact oU hoo (by rw [e20]; kernel_rfl) (fun _ _ => trivial) ⟨upd y 30 (V 30), by rw [vv30.out]; kernel_rfl, HQ.out.pure (i := 30) (by omega)⟩
       ·have e17 := (HQ.out.val 17 (by omega) (HD.out ⟨17, .guard⟩ (by simp) rfl)).trans vv17.out
        exact oU hoo (by rw [e17]; kernel_rfl) (fun _ _ => trivial) ⟨upd y 31 (V 31), by rw [vv31.out]; kernel_rfl, HQ.out.pure (i := 31) (by omega)⟩
       ·have e17 := (HQ.out.val 17 (by omega) (HD.out ⟨17, .data⟩ (by simp) rfl)).trans vv17.out
        have e31 := (HQ.out.val 31 (by omega) (HD.out ⟨31, .data⟩ (by simp) rfl)).trans vv31.out
        exact oW hoo (by kernel_rfl) fun K hK => wV (v := .bool true) (fun _ _ => trivial) (by go_simp) (hK _ _ ⟨upd y 32 (V 32), by rw [vv32.out]; kernel_rfl, HQ.out.pure (i := 32) (by omega)⟩)
      case fc3 =>
       rintro d act Wt ⟨y, rfl, hR⟩ hall
       have q32 : y 32 = .bool true := (hR.val 32 (by omega) (hall 32 (by decide))).trans vv32.out
       rw [q32]
       have HSE := Lib.hid (HS5.out.step hR.bu)
       clear hR hall
       subst e
       try dsimp only
       go_wp2_with fail
       go_ret
       exact ⟨rfl, HSE.out.below⟩
     have HB3 : Hid (decide (p1 < 0) = false) := Lib.hid (decide_eq_false hb3)
     clear hb3
     by_cases hb4 : 0 < i
     rotate_left
     ·have HB4 : Hid (decide ((0 : Int) < (i : Int)) = false ∧ decide (0 < i) = false) := Lib.hid ⟨decide_eq_false (by omega), decide_eq_false hb4⟩
      clear hb4
      obtain ⟨V, hV⟩ : ∃ V : Nat → Value, V = fun vv => ([.agg #[.slice (some ⟨g, off, none⟩) N cap, .int .i64 last, .int .i64 done, .slice (some ⟨gp, op, none⟩) M cap2, .bool em], .pointer (some ⟨X, 1, none⟩), .int .i64 p2, .bool true, .bool false, .bool false, .agg #[.slice (some ⟨g, off, none⟩) N cap, .int .i64 last, .int .i64 done, .slice (some ⟨gp, op, none⟩) M cap2, .bool em], .pointer (some ⟨X, 2, none⟩), .int .i64 p3, .bool true, .bool false, .bool false, .bool false, .pointer (some ⟨X, 0, none⟩), .int .i64 p1, .bool false, .bool false, .bool false, .int .i64 ↑i, .bool false, .bool false, undef, undef, undef, undef, undef, undef, undef, undef, undef, undef, .bool false, .bool false] : List Value).getD vv undef := ⟨_, rfl⟩
      have vv0 : Hid (V 0 = .agg #[.slice (some ⟨g, off, none⟩) N cap, .int .i64 last, .int .i64 done, .slice (some ⟨gp, op, none⟩) M cap2, .bool em]) := Lib.hid (by rw [hV]; rfl)
      have vv1 : Hid (V 1 = .pointer (some ⟨X, 1, none⟩)) := Lib.hid (by rw [hV]; rfl)
      have vv2 : Hid (V 2 = .int .i64 p2) := Lib.hid (by rw [hV]; rfl)
      have vv3 : Hid (V 3 = .bool true) := Lib.hid (by rw [hV]; rfl)
      have vv4 : Hid (V 4 = .bool false) := Lib.hid (by rw [hV]; rfl)
      have vv5 : Hid (V 5 = .bool false) := Lib.hid (by rw [hV]; rfl)
      have vv6 : Hid (V 6 = .agg #[.slice (some ⟨g, off, none⟩) N cap, .int .i64 last, .int .i64 done, .slice (some ⟨gp, op, none⟩) M cap2, .bool em]) := Lib.hid (by rw [hV]; rfl)
      have vv7 : Hid (V 7 = .pointer (some ⟨X, 2, none⟩)) := Lib.hid (by rw [hV]; rfl)
      have vv8 : Hid (V 8 = .int .i64 p3) := Lib.hid (by rw [hV]; rfl)
      have vv9 : Hid (V 9 = .bool true) := Lib.hid (by rw [hV]; rfl)
      have vv10 : Hid (V 10 = .bool false) := Lib.hid (by rw [hV]; rfl)
      have vv11 : Hid (V 11 = .bool false) := Lib.hid (by rw [hV]; rfl)
      have vv12 : Hid (V 12 = .bool false) := Lib.hid (by rw [hV]; rfl)
      have vv13 : Hid (V 13 = .pointer (some ⟨X, 0, none⟩)) := Lib.hid (by rw [hV]; rfl)
      have vv14 : Hid (V 14 = .int .i64 p1) := Lib.hid (by rw [hV]; rfl)
      have vv15 : Hid (V 15 = .bool false) := Lib.hid (by rw [hV]; rfl)
      have vv16 : Hid (V 16 = .bool false) := Lib.hid (by rw [hV]; rfl)
      have vv17 : Hid (V 17 = .bool false) := Lib.hid (by rw [hV]; rfl)
      have vv18 : Hid (V 18 = .int .i64 ↑i) := Lib.hid (by rw [hV]; rfl)
      have vv19 : Hid (V 19 = .bool false) := Lib.hid (by rw [hV]; rfl)
      have vv20 : Hid (V 20 = .bool false) := Lib.hid (by rw [hV]; rfl)
      have vv21 : Hid (V 21 = undef) := Lib.hid (by rw [hV]; rfl)
      have vv22 : Hid (V 22 = undef) := Lib.hid (by rw [hV]; rfl)
      have vv23 : Hid (V 23 = undef) := Lib.hid (by rw [hV]; rfl)
      have vv24 : Hid (V 24 = undef) := Lib.hid (by rw [hV]; rfl)
      have vv25 : Hid (V 25 = undef) := Lib.hid (by rw [hV]; rfl)
      have vv26 : Hid (V 26 = undef) := Lib.hid (by rw [hV]; rfl)
      have vv27 : Hid (V 27 = undef) := Lib.hid (by rw [hV]; rfl)
      have vv28 : Hid (V 28 = undef) := Lib.hid (by rw [hV]; rfl)
      have vv29 : Hid (V 29 = undef) := Lib.hid (by rw [hV]; rfl)
      have vv30 : Hid (V 30 = undef) := Lib.hid (by rw [hV]; rfl)
      have vv31 : Hid (V 31 = .bool false) := Lib.hid (by rw [hV]; rfl)
      have vv32 : Hid (V 32 = .bool false) := Lib.hid (by rw [hV]; rfl)
      clear hV
      refine (wpIn_wide (n := 20)).1 ?_
      refine wpIn_region_inv (by kernel_rfl) (back_of (by kernel_rfl)) (fun d act Wn => ∃ y : Nat → Value, act = { tmps := #[.agg #[.slice (some ⟨g, off, none⟩) N cap, .int .i64 last, .int .i64 done, .slice (some ⟨gp, op, none⟩) M cap2, .bool em], .pointer (some ⟨w.heap.size, 0, none⟩), u2, .pointer (some ⟨XF, 0, none⟩), u4, u5, .int .i64 ↑i, .pointer (some ⟨X, 0, none⟩), .pointer (some ⟨w.heap.size, 0, none⟩), .slice (some ⟨g, off, none⟩) N cap, .int .i64 ↑N, .bool false, .bool false, .pointer (some ⟨w.heap.size, 0, none⟩), .slice (some ⟨g, off, none⟩) N cap, .int .i64 ↑N, .bool false, .bool false, .bool false, .agg #[.slice (some ⟨g, off, none⟩) N cap, .int .i64 last, .int .i64 done, .slice (some ⟨gp, op, none⟩) M cap2, .bool em], .pointer (some ⟨w.heap.size, 1, none⟩), .int .i64 last, .bool true, .bool false, .bool false, .bool false, .agg #[.slice (some ⟨g, off, none⟩) N cap, .int .i64 last, .int .i64 done, .slice (some ⟨gp, op, none⟩) M cap2, .bool em], .pointer (some ⟨w.heap.size, 2, none⟩), .int .i64 done, .bool true, .bool false, .bool false, .pointer (some ⟨w.heap.size, 0, none⟩), .slice (some ⟨g, off, none⟩) N cap, .pointer (some ⟨g, off, none⟩), .agg #[.int .i64 0, .int .i64 (-1), .int .i64 v2], .pointer (some ⟨XF, 0, none⟩), .pointer (some ⟨XF, 0, none⟩), .int .i64 0, .bool false, .bool false, .pointer (some ⟨XF, 0, none⟩), .pointer (some ⟨XF, 1, none⟩), .int .i64 (-1), .bool false, .bool false, .pointer (some ⟨w.heap.size, 0, none⟩), .slice (some ⟨g, off, none⟩) N cap, .int .i64 ↑N, .int .i64 ↑k, .bool false, u51, u52, u53, u54, u55, u56, u57, u58, u59, u60, u61, u62, u63, u64, u65, u66, u67, u68, u69, u70, u71, u72, u73, .pointer (some ⟨w.heap.size, 3, none⟩), .slice (some ⟨gp, op, none⟩) M cap2, .int .i64 ↑M, .int .i64 ↑i, .bool true, .int .i64 ↑i, .pointer (some ⟨gp, op + i * 3, none⟩), .agg #[.int .i64 p1, .int .i64 p2, .int .i64 p3], y 0, y 1, y 2, y 3, y 4, y 5, y 6, y 7, y 8, y 9, y 10, y 11, y 12, y 13, y 14, y 15, y 16, y 17, y 18, y 19, y 20, y 21, y 22, y 23, y 24, y 25, y 26, y 27, y 28, y 29, y 30, y 31, y 32, u115, u116, u117, u118, u119, u120, u121, u122, u123, u124, u125, u126, u127, u128, u129, u130, u131, u132, u133, u134, u135], defers := [] } ∧ QA W5 V 33 d y Wn) ?rc4 ?sc4 ?fc4
      case rc4 => exact fun d hd => ⟨(upd (upd (upd (upd (upd (upd (upd (upd (upd (upd (upd (upd (upd (upd (upd (upd (upd (upd (upd (upd (upd (upd (upd (upd (upd (upd (upd (upd (upd (upd (upd (upd (upd (fun _ => undef) 0 (u82)) 1 (u83)) 2 (u84)) 3 (u85)) 4 (u86)) 5 (u87)) 6 (u88)) 7 (u89)) 8 (u90)) 9 (u91)) 10 (u92)) 11 (u93)) 12 (u94)) 13 (u95)) 14 (u96)) 15 (u97)) 16 (u98)) 17 (u99)) 18 (u100)) 19 (u101)) 20 (u102)) 21 (u103)) 22 (u104)) 23 (u105)) 24 (u106)) 25 (u107)) 26 (u108)) 27 (u109)) 28 (u110)) 29 (u111)) 30 (u112)) 31 (u113)) 32 (u114)), rfl, QA.start (fun i hi => hd i hi)⟩
      case sc4 =>
       rintro ix oi hop d act Wt ⟨y, rfl, hR⟩ hSi hdep
       have hix : ix < 33 := (Array.getElem?_eq_some_iff.1 hop).1
       have HQ := Lib.hid hR
       have HD := Lib.hid hdep
       clear hR hdep hSi
       obtain rfl | rfl | rfl | rfl | rfl | rfl | rfl | rfl | rfl | rfl | rfl | rfl | rfl | rfl | rfl | rfl | rfl | rfl | rfl | rfl | rfl | rfl | rfl | rfl | rfl | rfl | rfl | rfl | rfl | rfl | rfl | rfl | rfl : ix = 0 ∨ ix = 1 ∨ ix = 2 ∨ ix = 3 ∨ ix = 4 ∨ ix = 5 ∨ ix = 6 ∨ ix = 7 ∨ ix = 8 ∨ ix = 9 ∨ ix = 10 ∨ ix = 11 ∨ ix = 12 ∨ ix = 13 ∨ ix = 14 ∨ ix = 15 ∨ ix = 16 ∨ ix = 17 ∨ ix = 18 ∨ ix = 19 ∨ ix = 20 ∨ ix = 21 ∨ ix = 22 ∨ ix = 23 ∨ ix = 24 ∨ ix = 25 ∨ ix = 26 ∨ ix = 27 ∨ ix = 28 ∨ ix = 29 ∨ ix = 30 ∨ ix = 31 ∨ ix = 32 := by omega
       all_goals (have hoo := hop; obtain rfl := Option.some.inj hop)
       ·refine oW hoo (by kernel_rfl) fun K hK => ?_
        obtain ⟨c0, c1, c2, c3, c4⟩ := (HS5.out.step HQ.out.bu).facts
        refine wV (v := .agg #[.slice (some ⟨g, off, none⟩) N cap, .int .i64 last, .int .i64 done, .slice (some ⟨gp, op, none⟩) M cap2, .bool em]) (fun _ _ => trivial) (by go_simp) ?_
        exact hK _ _ ⟨upd y 0 (V 0), by rw [vv0.out]; kernel_rfl, HQ.out.pure (i := 0) (by omega)⟩
       ·exact oW hoo (by kernel_rfl) fun K hK => wV (v := .pointer (some ⟨X, 1, none⟩)) (fun _ _ => trivial) (by go_simp) (hK _ _ ⟨upd y 1 (V 1), by rw [vv1.out]; kernel_rfl, HQ.out.pure (i := 1) (by omega)⟩)
       ·have e1 := (HQ.out.val 1 (by omega) (HD.out ⟨1, .data⟩ (by simp) rfl)).trans vv1.out
        refine oW hoo (by kernel_rfl) fun K hK => ?_
        have hx5 := (HQ.out.bu.block X (blk_lt HX5.out)).trans HX5.out
        have l0 := cB hx5 0
        have l1 := cB hx5 1
        have l2 := cB hx5 2
        refine wV (v := .int .i64 p2) (fun _ _ => trivial) (by go_simp) ?_
        exact hK _ _ ⟨upd y 2 (V 2), by rw [vv2.out]; kernel_rfl, HQ.out.pure (i := 2) (by omega)⟩
       ·have e0 := (HQ.out.val 0 (by omega) (HD.out ⟨0, .data⟩ (by simp) rfl)).trans vv0.out
        have e2 := (HQ.out.val 2 (by omega) (HD.out ⟨2, .data⟩ (by simp) rfl)).trans vv2.out
        refine oW hoo (by kernel_rfl) fun K hK => ?_
        refine wpIn_det (v := .bool true) (by go_simp) (is_at (some ⟨g, off, none⟩) (some ⟨gp, op, none⟩) N cap M cap2 last done em p2 HB1.out.1 HB1.out.2 _) fun Wn hb => ?_
        exact hK _ _ ⟨upd y 3 (V 3), by rw [vv3.out]; kernel_rfl, (HQ.out.walk hb).pure (i := 3) (by omega)⟩
       ·have e3 := (HQ.out.val 3 (by omega) (HD.out ⟨3, .data⟩ (by simp) rfl)).trans vv3.out
        exact oW hoo (by kernel_rfl) fun K hK => wV (v := .bool false) (fun _ _ => trivial) (by go_simp) (hK _ _ ⟨upd y 4 (V 4), by rw [vv4.out]; kernel_rfl, HQ.out.pure (i := 4) (by omega)⟩)
       ·have e4 := (HQ.out.val 4 (by omega) (HD.out ⟨4, .data⟩ (by simp) rfl)).trans vv4.out
        exact oW hoo (by kernel_rfl) fun K hK => wV (v := .bool false) (fun _ _ => trivial) (by go_simp) (hK _ _ ⟨upd y 5 (V 5), by rw [vv5.out]; kernel_rfl, HQ.out.pure (i := 5) (by omega)⟩)
       ·have e5 := (HQ.out.val 5 (by omega) (HD.out ⟨5, .guard⟩ (by simp) rfl)).trans vv5.out
        refine oW hoo (by rw [e5]; kernel_rfl) fun K hK => ?_
        obtain ⟨c0, c1, c2, c3, c4⟩ := (HS5.out.step HQ.out.bu).facts
        refine wV (v := .agg #[.slice (some ⟨g, off, none⟩) N cap, .int .i64 last, .int .i64 done, .slice (some ⟨gp, op, none⟩) M cap2, .bool em]) (fun _ _ => trivial) (by go_simp) ?_
        exact hK _ _ ⟨upd y 6 (V 6), by rw [vv6.out]; kernel_rfl, HQ.out.pure (i := 6) (by omega)⟩
       ·have e5 := (HQ.out.val 5 (by omega) (HD.out ⟨5, .guard⟩ (by simp) rfl)).trans vv5.out
        exact oW hoo (by rw [e5]; kernel_rfl) fun K hK => wV (v := .pointer (some ⟨X, 2, none⟩)) (fun _ _ => trivial) (by go_simp) (hK _ _ ⟨upd y 7 (V 7), by rw [vv7.out]; kernel_rfl, HQ.out.pure (i := 7) (by omega)⟩)
       ·have e7 := (HQ.out.val 7 (by omega) (HD.out ⟨7, .data⟩ (by simp) rfl)).trans vv7.out
        have e5 := (HQ.out.val 5 (by omega) (HD.out ⟨5, .guard⟩ (by simp) rfl)).trans vv5.out
        refine oW hoo (by rw [e5]; kernel_rfl) fun K hK => ?_
        have hx5 := (HQ.out.bu.block X (blk_lt HX5.out)).trans HX5.out
        have l0 := cB hx5 0
        have l1 := cB hx5 1
        have l2 := cB hx5 2
        refine wV (v := .int .i64 p3) (fun _ _ => trivial) (by go_simp) ?_
        exact hK _ _ ⟨upd y 8 (V 8), by rw [vv8.out]; kernel_rfl, HQ.out.pure (i := 8) (by omega)⟩
       ·have e6 := (HQ.out.val 6 (by omega) (HD.out ⟨6, .data⟩ (by simp) rfl)).trans vv6.out
        have e8 := (HQ.out.val 8 (by omega) (HD.out ⟨8, .data⟩ (by simp) rfl)).trans vv8.out
        have e5 := (HQ.out.val 5 (by omega) (HD.out ⟨5, .guard⟩ (by simp) rfl)).trans vv5.out
        refine oW hoo (by rw [e5]; kernel_rfl) fun K hK => ?_
        refine wpIn_det (v := .bool true) (by go_simp) (is_at (some ⟨g, off, none⟩) (some ⟨gp, op, none⟩) N cap M cap2 last done em p3 HB2.out.1 HB2.out.2 _) fun Wn hb => ?_
        exact hK _ _ ⟨upd y 9 (V 9), by rw [vv9.out]; kernel_rfl, (HQ.out.walk hb).pure (i := 9) (by omega)⟩
       ·have e9 := (HQ.out.val 9 (by omega) (HD.out ⟨9, .data⟩ (by simp) rfl)).trans vv9.out
        have e5 := (HQ.out.val 5 (by omega) (HD.out ⟨5, .guard⟩ (by simp) rfl)).trans vv5.out
        exact oW hoo (by rw [e5]; kernel_rfl) fun K hK => wV (v := .bool false) (fun _ _ => trivial) (by go_simp) (hK _ _ ⟨upd y 10 (V 10), by rw [vv10.out]; kernel_rfl, HQ.out.pure (i := 10) (by omega)⟩)
       ·have e5 := (HQ.out.val 5 (by omega) (HD.out ⟨5, .data⟩ (by simp) rfl)).trans vv5.out
        have e10 := (HQ.out.val 10 (by omega) (HD.out ⟨10, .data⟩ (by simp) rfl)).trans vv10.out
        exact oW hoo (by kernel_rfl) fun K hK => wV (v := .bool false) (fun _ _ => trivial) (by go_simp) (hK _ _ ⟨upd y 11 (V 11), by rw [vv11.out]; kernel_rfl, HQ.out.pure (i := 11) (by omega)⟩)
       ·have e11 := (HQ.out.val 11 (by omega) (HD.out ⟨11, .data⟩ (by simp) rfl)).trans vv11.out
        exact oW hoo (by kernel_rfl) fun K hK => wV (v := .bool false) (fun _ _ => trivial) (by go_simp) (hK _ _ ⟨upd y 12 (V 12), by rw [vv12.out]; kernel_rfl, HQ.out.pure (i := 12) (by omega)⟩)
       ·have e12 := (HQ.out.val 12 (by omega) (HD.out ⟨12, .guard⟩ (by simp) rfl)).trans vv12.out
        exact oW hoo (by rw [e12]; kernel_rfl) fun K hK => wV (v := .pointer (some ⟨X, 0, none⟩)) (fun _ _ => trivial) (by go_simp) (hK _ _ ⟨upd y 13 (V 13), by rw [vv13.out]; kernel_rfl, HQ.out.pure (i := 13) (by omega)⟩)
       ·have e13 := (HQ.out.val 13 (by omega) (HD.out ⟨13, .data⟩ (by simp) rfl)).trans vv13.out
        have e12 := (HQ.out.val 12 (by omega) (HD.out ⟨12, .guard⟩ (by simp) rfl)).trans vv12.out
        refine oW hoo (by rw [e12]; kernel_rfl) fun K hK => ?_
        have hx5 := (HQ.out.bu.block X (blk_lt HX5.out)).trans HX5.out
        have l0 := cB hx5 0
        have l1 := cB hx5 1
        have l2 := cB hx5 2
        refine wV (v := .int .i64 p1) (fun _ _ => trivial) (by go_simp) ?_
        exact hK _ _ ⟨upd y 14 (V 14), by rw [vv14.out]; kernel_rfl, HQ.out.pure (i := 14) (by omega)⟩
       ·have e14 := (HQ.out.val 14 (by omega) (HD.out ⟨14, .data⟩ (by simp) rfl)).trans vv14.out
        have e12 := (HQ.out.val 12 (by omega) (HD.out ⟨12, .guard⟩ (by simp) rfl)).trans vv12.out
        refine oW hoo (by rw [e12]; kernel_rfl) fun K hK => ?_
        have tp : decide (p1 < 0) = false := HB3.out
        refine wV (v := .bool false) (fun _ _ => trivial) (by go_simp) ?_
        exact hK _ _ ⟨upd y 15 (V 15), by rw [vv15.out]; kernel_rfl, HQ.out.pure (i := 15) (by omega)⟩
       ·have e12 := (HQ.out.val 12 (by omega) (HD.out ⟨12, .data⟩ (by simp) rfl)).trans vv12.out
        have e15 := (HQ.out.val 15 (by omega) (HD.out ⟨15, .data⟩ (by simp) rfl)).trans vv15.out
        exact oW hoo (by kernel_rfl) fun K hK => wV (v := .bool false) (fun _ _ => trivial) (by go_simp) (hK _ _ ⟨upd y 16 (V 16), by rw [vv16.out]; kernel_rfl, HQ.out.pure (i := 16) (by omega)⟩)
       ·have e16 := (HQ.out.val 16 (by omega) (HD.out ⟨16, .data⟩ (by simp) rfl)).trans vv16.out
        exact oW hoo (by kernel_rfl) fun K hK => wV (v := .bool false) (fun _ _ => trivial) (by go_simp) (hK _ _ ⟨upd y 17 (V 17), by rw [vv17.out]; kernel_rfl, HQ.out.pure (i := 17) (by omega)⟩)
       ·have e17 := (HQ.out.val 17 (by omega) (HD.out ⟨17, .guard⟩ (by simp) rfl)).trans vv17.out
        exact oW hoo (by rw [e17]; kernel_rfl) fun K hK => wV (v := .int .i64 ↑i) (fun _ _ => trivial) (by go_simp) (hK _ _ ⟨upd y 18 (V 18), by rw [vv18.out]; kernel_rfl, HQ.out.pure (i := 18) (by omega)⟩)
       ·have e18 := (HQ.out.val 18 (by omega) (HD.out ⟨18, .data⟩ (by simp) rfl)).trans vv18.out
        have e17 := (HQ.out.val 17 (by omega) (HD.out ⟨17, .guard⟩ (by simp) rfl)).trans vv17.out
        refine oW hoo (by rw [e17]; kernel_rfl) fun K hK => ?_
        have tk : decide ((0 : Int) < (i : Int)) = false := HB4.out.1
        have tk2 : decide (0 < i) = false := HB4.out.2
        refine wV (v := .bool false) (fun _ _ => trivial) (by go_simp) ?_
        exact hK _ _ ⟨upd y 19 (V 19), by rw [vv19.out]; kernel_rfl, HQ.out.pure (i := 19) (by omega)⟩
       ·have e19 := (HQ.out.val 19 (by omega) (HD.out ⟨19, .data⟩ (by simp) rfl)).trans vv19.out
        have e17 := (HQ.out.val 17 (by omega) (HD.out ⟨17, .guard⟩ (by simp) rfl)).trans vv17.out
        exact oW hoo (by rw [e17]; kernel_rfl) fun K hK => wV (v := .bool false) (fun _ _ => trivial) (by go_simp) (hK _ _ ⟨upd y 20 (V 20), by rw [vv20.out]; kernel_rfl, HQ.out.pure (i := 20) (by omega)⟩)
       ·have e20 := (HQ.out.val 20 (by omega) (HD.out ⟨20, .guard⟩ (by simp) rfl)).trans vv20.out
        exact oU hoo (by rw [e20]; kernel_rfl) (fun _ _ => trivial) ⟨upd y 21 (V 21), by rw [vv21.out]; kernel_rfl, HQ.out.pure (i := 21) (by omega)⟩
       ·have e20 := (HQ.out.val 20 (by omega) (HD.out ⟨20, .guard⟩ (by simp) rfl)).trans vv20.out
        exact oU hoo (by rw [e20]; kernel_rfl) (fun _ _ => trivial) ⟨upd y 22 (V 22), by rw [vv22.out]; kernel_rfl, HQ.out.pure (i := 22) (by omega)⟩
       ·have e20 := (HQ.out.val 20 (by omega) (HD.out ⟨20, .guard⟩ (by simp) rfl)).trans vv20.out
        exact oU hoo (by rw [e20]; kernel_rfl) (fun _ _ => trivial) ⟨upd y 23 (V 23), by rw [vv23.out]; kernel_rfl, HQ.out.pure (i := 23) (by omega)⟩
       ·have e20 := (HQ.out.val 20 (by omega) (HD.out ⟨20, .guard⟩ (by simp) rfl)).trans vv20.out
        exact oU hoo (by rw [e20]; kernel_rfl) (fun _ _ => trivial) ⟨upd y 24 (V 24), by rw [vv24.out]; kernel_rfl, HQ.out.pure (i := 24) (by omega)⟩
       ·have e20 := (HQ.out.val 20 (by omega) (HD.out ⟨20, .guard⟩ (by simp) rfl)).trans vv20.out
        exact oU hoo (by rw [e20]; kernel_rfl) (fun _ _ => trivial) ⟨upd y 25 (V 25), by rw [vv25.out]; kernel_rfl, HQ.out.pure (i := 25) (by omega)⟩
       ·have e20 := (HQ.out.val 20 (by omega) (HD.out ⟨20, .guard⟩ (by simp) rfl)).trans vv20.out
        exact oU hoo (by rw [e20]; kernel_rfl) (fun _ _ => trivial) ⟨upd y 26 (V 26), by rw [vv26.out]; kernel_rfl, HQ.out.pure (i := 26) (by omega)⟩
       ·have e20 := (HQ.out.val 20 (by omega) (HD.out ⟨20, .guard⟩ (by simp) rfl)).trans vv20.out
        exact oU hoo (by rw [e20]; kernel_rfl) (fun _ _ => trivial) ⟨upd y 27 (V 27), by rw [vv27.out]; kernel_rfl, HQ.out.pure (i := 27) (by omega)⟩
       ·have e20 := (HQ.out.val 20 (by omega) (HD.out ⟨20, .guard⟩ (by simp) rfl)).trans vv20.out
        exact oU hoo (by rw [e20]; kernel_rfl) (fun _ _ => trivial) ⟨upd y 28 (V 28), by rw [vv28.out]; kernel_rfl, HQ.out.pure (i := 28) (by omega)⟩
       ·have e20 := (HQ.out.val 20 (by omega) (HD.out ⟨20, .guard⟩ (by simp) rfl)).trans vv20.out
        exact oU hoo (by rw [e20]; kernel_rfl) (fun _ _ => trivial) ⟨upd y 29 (V 29), by rw [vv29.out]; kernel_rfl, HQ.out.pure (i := 29) (by omega)⟩
       ·have e20 := (HQ.out.val 20 (by omega) (HD.out ⟨20, .guard⟩ (by simp) rfl)).trans vv20.out
        exact oU hoo (by rw [e20]; kernel_rfl) (fun _ _ => trivial) ⟨upd y 30 (V 30), by rw [vv30.out]; kernel_rfl, HQ.out.pure (i := 30) (by omega)⟩
       ·have e20 := (HQ.out.val 20 (by omega) (HD.out ⟨20, .data⟩ (by simp) rfl)).trans vv20.out
        have e30 := (HQ.out.val 30 (by omega) (HD.out ⟨30, .data⟩ (by simp) rfl)).trans vv30.out
        have e17 := (HQ.out.val 17 (by omega) (HD.out ⟨17, .guard⟩ (by simp) rfl)).trans vv17.out
        exact oW hoo (by rw [e17]; kernel_rfl) fun K hK => wV (v := .bool false) (fun _ _ => trivial) (by go_simp) (hK _ _ ⟨upd y 31 (V 31), by rw [vv31.out]; kernel_rfl, HQ.out.pure (i := 31) (by omega)⟩)
       ·have e17 := (HQ.out.val 17 (by omega) (HD.out ⟨17, .data⟩ (by simp) rfl)).trans vv17.out
        have e31 := (HQ.out.val 31 (by omega) (HD.out ⟨31, .data⟩ (by simp) rfl)).trans vv31.out
        exact oW hoo (by kernel_rfl) fun K hK => wV (v := .bool false) (fun _ _ => trivial) (by go_simp) (hK _ _ ⟨upd y 32 (V 32), by rw [vv32.out]; kernel_rfl, HQ.out.pure (i := 32) (by omega)⟩)
      case fc4 =>
       rintro d act Wt ⟨y, rfl, hR⟩ hall
       have q32 : y 32 = .bool false := (hR.val 32 (by omega) (hall 32 (by decide))).trans vv32.out
       rw [q32]
       have HS6 := Lib.hid (HS5.out.step hR.bu)
       have HX6 := Lib.hid ((hR.bu.block X (blk_lt HX5.out)).trans HX5.out)
       clear hR hall HS5 HX5
       try dsimp only
       go_upto_region 17 with fail
       obtain ⟨nb, hnb⟩ : ∃ n : Nat, p2 = (n : Int) := ⟨p2.toNat, by have := HB1.out.1; omega⟩
       obtain ⟨nd, hnd⟩ : ∃ n : Nat, p3 = (n : Int) := ⟨p3.toNat, by have := HB2.out.1; omega⟩
       subst hnb
       subst hnd
       have HNB : Hid (((nb : Nat) : Int) < (N : Int) ∧ nb < N) := Lib.hid ⟨HB1.out.2, Int.ofNat_lt.1 HB1.out.2⟩
       have HND : Hid (((nd : Nat) : Int) < (N : Int) ∧ nd < N) := Lib.hid ⟨HB2.out.2, Int.ofNat_lt.1 HB2.out.2⟩
       obtain ⟨xb, hxb⟩ : ∃ x, ns[nb]? = some x := ⟨ns[nb]'(by rw [← HNN.out]; exact HNB.out.2), by simp⟩
       obtain ⟨xd, hxd⟩ : ∃ x, ns[nd]? = some x := ⟨ns[nd]'(by rw [← HNN.out]; exact HND.out.2), by simp⟩
       have hm3 := (HC.out nb _ hxb).2.2
       have hm2 := (HC.out nd _ hxd).2.1
       obtain ⟨b1, b2, m3⟩ := xb
       obtain ⟨d1, m2, d3⟩ := xd
       have HM3 := Lib.hid hm3
       have HM2 := Lib.hid hm2
       have HXB := Lib.hid hxb
       have HXD := Lib.hid hxd
       clear hm3 hm2 hxb hxd
       by_cases hn3 : m3 = -1
       rotate_left
       ·have HB6 : Hid ((m3 == (-1 : Int)) = false) := Lib.hid (by simpa using hn3)
        refine HNO.out (fun h => hn3 (h.2.2.2.2.1 _ HXB.out)) (fun e => ?_)
        clear hn3
        obtain ⟨V, hV⟩ : ∃ V : Nat → Value, V = fun vv => ([.pointer (some ⟨w.heap.size, 0, none⟩), .slice (some ⟨g, off, none⟩) N cap, .pointer (some ⟨X, 1, none⟩), .int .i64 ↑nb, .pointer (some ⟨g, off + nb * 3, none⟩), .pointer (some ⟨g, off + nb * 3 + 2, none⟩), .int .i64 m3, .bool true, .bool true, undef, undef, undef, undef, undef, undef, undef, undef, undef, undef, .bool true] : List Value).getD vv undef := ⟨_, rfl⟩
        have vv0 : Hid (V 0 = .pointer (some ⟨w.heap.size, 0, none⟩)) := Lib.hid (by rw [hV]; rfl)
        have vv1 : Hid (V 1 = .slice (some ⟨g, off, none⟩) N cap) := Lib.hid (by rw [hV]; rfl)
        have vv2 : Hid (V 2 = .pointer (some ⟨X, 1, none⟩)) := Lib.hid (by rw [hV]; rfl)
        have vv3 : Hid (V 3 = .int .i64 ↑nb) := Lib.hid (by rw [hV]; rfl)
        have vv4 : Hid (V 4 = .pointer (some ⟨g, off + nb * 3, none⟩)) := Lib.hid (by rw [hV]; rfl)
        have vv5 : Hid (V 5 = .pointer (some ⟨g, off + nb * 3 + 2, none⟩)) := Lib.hid (by rw [hV]; rfl)
        have vv6 : Hid (V 6 = .int .i64 m3) := Lib.hid (by rw [hV]; rfl)
        have vv7 : Hid (V 7 = .bool true) := Lib.hid (by rw [hV]; rfl)
        have vv8 : Hid (V 8 = .bool true) := Lib.hid (by rw [hV]; rfl)
        have vv9 : Hid (V 9 = undef) := Lib.hid (by rw [hV]; rfl)
        have vv10 : Hid (V 10 = undef) := Lib.hid (by rw [hV]; rfl)
        have vv11 : Hid (V 11 = undef) := Lib.hid (by rw [hV]; rfl)
        have vv12 : Hid (V 12 = undef) := Lib.hid (by rw [hV]; rfl)
        have vv13 : Hid (V 13 = undef) := Lib.hid (by rw [hV]; rfl)
        have vv14 : Hid (V 14 = undef) := Lib.hid (by rw [hV]; rfl)
        have vv15 : Hid (V 15 = undef) := Lib.hid (by rw [hV]; rfl)
        have vv16 : Hid (V 16 = undef) := Lib.hid (by rw [hV]; rfl)
        have vv17 : Hid (V 17 = undef) := Lib.hid (by rw [hV]; rfl)
        have vv18 : Hid (V 18 = undef) := Lib.hid (by rw [hV]; rfl)
        have vv19 : Hid (V 19 = .bool true) := Lib.hid (by rw [hV]; rfl)
        clear hV
        refine (wpIn_wide (n := 20)).1 ?_
        refine wpIn_region_inv (by kernel_rfl) (back_of (by kernel_rfl)) (fun d act Wn => ∃ q : Nat → Value, act = { tmps := #[.agg #[.slice (some ⟨g, off, none⟩) N cap, .int .i64 last, .int .i64 done, .slice (some ⟨gp, op, none⟩) M cap2, .bool em], .pointer (some ⟨w.heap.size, 0, none⟩), u2, .pointer (some ⟨XF, 0, none⟩), u4, u5, .int .i64 ↑i, .pointer (some ⟨X, 0, none⟩), .pointer (some ⟨w.heap.size, 0, none⟩), .slice (some ⟨g, off, none⟩) N cap, .int .i64 ↑N, .bool false, .bool false, .pointer (some ⟨w.heap.size, 0, none⟩), .slice (some ⟨g, off, none⟩) N cap, .int .i64 ↑N, .bool false, .bool false, .bool false, .agg #[.slice (some ⟨g, off, none⟩) N cap, .int .i64 last, .int .i64 done, .slice (some ⟨gp, op, none⟩) M cap2, .bool em], .pointer (some ⟨w.heap.size, 1, none⟩), .int .i64 last, .bool true, .bool false, .bool false, .bool false, .agg #[.slice (some ⟨g, off, none⟩) N cap, .int .i64 last, .int .i64 done, .slice (some ⟨gp, op, none⟩) M cap2, .bool em], .pointer (some ⟨w.heap.size, 2, none⟩), .int .i64 done, .bool true, .bool false, .bool false, .pointer (some ⟨w.heap.size, 0, none⟩), .slice (some ⟨g, off, none⟩) N cap, .pointer (some ⟨g, off, none⟩), .agg #[.int .i64 0, .int .i64 (-1), .int .i64 v2], .pointer (some ⟨XF, 0, none⟩), .pointer (some ⟨XF, 0, none⟩), .int .i64 0, .bool false, .bool false, .pointer (some ⟨XF, 0, none⟩), .pointer (some ⟨XF, 1, none⟩), .int .i64 (-1), .bool false, .bool false, .pointer (some ⟨w.heap.size, 0, none⟩), .slice (some ⟨g, off, none⟩) N cap, .int .i64 ↑N, .int .i64 ↑k, .bool false, u51, u52, u53, u54, u55, u56, u57, u58, u59, u60, u61, u62, u63, u64, u65, u66, u67, u68, u69, u70, u71, u72, u73, .pointer (some ⟨w.heap.size, 3, none⟩), .slice (some ⟨gp, op, none⟩) M cap2, .int .i64 ↑M, .int .i64 ↑i, .bool true, .int .i64 ↑i, .pointer (some ⟨gp, op + i * 3, none⟩), .agg #[.int .i64 p1, .int .i64 ↑nb, .int .i64 ↑nd], y 0, y 1, y 2, y 3, y 4, y 5, y 6, y 7, y 8, y 9, y 10, y 11, y 12, y 13, y 14, y 15, y 16, y 17, y 18, y 19, y 20, y 21, y 22, y 23, y 24, y 25, y 26, y 27, y 28, y 29, y 30, y 31, .bool false, q 0, q 1, q 2, q 3, q 4, q 5, q 6, q 7, q 8, q 9, q 10, q 11, q 12, q 13, q 14, q 15, q 16, q 17, q 18, q 19, u135], defers := [] } ∧ QA Wt V 20 d q Wn) ?rc4x ?sc4x ?fc4x
        case rc4x => exact fun d hd => ⟨(upd (upd (upd (upd (upd (upd (upd (upd (upd (upd (upd (upd (upd (upd (upd (upd (upd (upd (upd (upd (fun _ => undef) 0 (u115)) 1 (u116)) 2 (u117)) 3 (u118)) 4 (u119)) 5 (u120)) 6 (u121)) 7 (u122)) 8 (u123)) 9 (u124)) 10 (u125)) 11 (u126)) 12 (u127)) 13 (u128)) 14 (u129)) 15 (u130)) 16 (u131)) 17 (u132)) 18 (u133)) 19 (u134)), rfl, QA.start (fun i hi => hd i hi)⟩
        case sc4x =>
         rintro ix oi hop d act Ws ⟨q, rfl, hR⟩ hSi hdep
         have hix : ix < 20 := (Array.getElem?_eq_some_iff.1 hop).1
         have HQ := Lib.hid hR
         have HD := Lib.hid hdep
         clear hR hdep hSi
         obtain rfl | rfl | rfl | rfl | rfl | rfl | rfl | rfl | rfl | rfl | rfl | rfl | rfl | rfl | rfl | rfl | rfl | rfl | rfl | rfl : ix = 0 ∨ ix = 1 ∨ ix = 2 ∨ ix = 3 ∨ ix = 4 ∨ ix = 5 ∨ ix = 6 ∨ ix = 7 ∨ ix = 8 ∨ ix = 9 ∨ ix = 10 ∨ ix = 11 ∨ ix = 12 ∨ ix = 13 ∨ ix = 14 ∨ ix = 15 ∨ ix = 16 ∨ ix = 17 ∨ ix = 18 ∨ ix = 19 := by omega
         all_goals (have hoo := hop; obtain rfl := Option.some.inj hop)
         ·exact oW hoo (by kernel_rfl) fun K hK => wV (v := .pointer (some ⟨w.heap.size, 0, none⟩)) (fun _ _ => trivial) (by go_simp) (hK _ _ ⟨upd q 0 (V 0), by rw [vv0.out]; kernel_rfl, HQ.out.pure (i := 0) (by omega)⟩)
         ·have e0 := (HQ.out.val 0 (by omega) (HD.out ⟨0, .data⟩ (by simp) rfl)).trans vv0.out
          refine oW hoo (by kernel_rfl) fun K hK => ?_
          obtain ⟨c0, c1, c2, c3, c4⟩ := (HS6.out.step HQ.out.bu).facts
          refine wV (v := .slice (some ⟨g, off, none⟩) N cap) (fun _ _ => trivial) (by go_simp) ?_
          exact hK _ _ ⟨upd q 1 (V 1), by rw [vv1.out]; kernel_rfl, HQ.out.pure (i := 1) (by omega)⟩
         ·exact oW hoo (by kernel_rfl) fun K hK => wV (v := .pointer (some ⟨X, 1, none⟩)) (fun _ _ => trivial) (by go_simp) (hK _ _ ⟨upd q 2 (V 2), by rw [vv2.out]; kernel_rfl, HQ.out.pure (i := 2) (by omega)⟩)
         ·have e2 := (HQ.out.val 2 (by omega) (HD.out ⟨2, .data⟩ (by simp) rfl)).trans vv2.out
          refine oW hoo (by kernel_rfl) fun K hK => ?_
          have hx5 := (HQ.out.bu.block X (blk_lt HX6.out)).trans HX6.out
          have l0 := cB hx5 0
          have l1 := cB hx5 1
          have l2 := cB hx5 2
          refine wV (v := .int .i64 ↑nb) (fun _ _ => trivial) (by go_simp) ?_
          exact hK _ _ ⟨upd q 3 (V 3), by rw [vv3.out]; kernel_rfl, HQ.out.pure (i := 3) (by omega)⟩
         ·have e1 := (HQ.out.val 1 (by omega) (HD.out ⟨1, .data⟩ (by simp) rfl)).trans vv1.out
          have e3 := (HQ.out.val 3 (by omega) (HD.out ⟨3, .data⟩ (by simp) rfl)).trans vv3.out
          refine oW hoo (by kernel_rfl) fun K hK => ?_
          have bb : ((nb : Nat) : Int) < (N : Int) := HNB.out.1
          have bb2 : nb < N := HNB.out.2
          refine wV (v := .pointer (some ⟨g, off + nb * 3, none⟩)) (fun _ _ => trivial) (by go_simp) ?_
          exact hK _ _ ⟨upd q 4 (V 4), by rw [vv4.out]; kernel_rfl, HQ.out.pure (i := 4) (by omega)⟩
         ·have e4 := (HQ.out.val 4 (by omega) (HD.out ⟨4, .data⟩ (by simp) rfl)).trans vv4.out
          exact oW hoo (by kernel_rfl) fun K hK => wV (v := .pointer (some ⟨g, off + nb * 3 + 2, none⟩)) (fun _ _ => trivial) (by go_simp) (hK _ _ ⟨upd q 5 (V 5), by rw [vv5.out]; kernel_rfl, HQ.out.pure (i := 5) (by omega)⟩)
         ·have e5 := (HQ.out.val 5 (by omega) (HD.out ⟨5, .data⟩ (by simp) rfl)).trans vv5.out
          refine oW hoo (by kernel_rfl) fun K hK => ?_
          have z0 := ((HS6.out.step HQ.out.bu).below.cell (p := ⟨g, off + nb * 3 + 2, none⟩) HG.out).trans HM3.out
          refine wV (v := .int .i64 m3) (fun _ _ => trivial) (by go_simp) ?_
          exact hK _ _ ⟨upd q 6 (V 6), by rw [vv6.out]; kernel_rfl, HQ.out.pure (i := 6) (by omega)⟩
         ·have e6 := (HQ.out.val 6 (by omega) (HD.out ⟨6, .data⟩ (by simp) rfl)).trans vv6.out
          exact oW hoo (by kernel_rfl) fun K hK => wV (v := .bool true) (fun _ _ => trivial) (by go_simp <;> simpa using HB6.out) (hK _ _ ⟨upd q 7 (V 7), by rw [vv7.out]; kernel_rfl, HQ.out.pure (i := 7) (by omega)⟩)
         ·have e7 := (HQ.out.val 7 (by omega) (HD.out ⟨7, .data⟩ (by simp) rfl)).trans vv7.out
          exact oW hoo (by kernel_rfl) fun K hK => wV (v := .bool true) (fun _ _ => trivial) (by go_simp) (hK _ _ ⟨upd q 8 (V 8), by rw [vv8.out]; kernel_rfl, HQ.out.pure (i := 8) (by omega)⟩)
         ·have e8 := (HQ.out.val 8 (by omega) (HD.out ⟨8, .guard⟩ (by simp) rfl)).trans vv8.out
          exact oU hoo (by rw [e8]; kernel_rfl) (fun _ _ => trivial) ⟨upd q 9 (V 9), by rw [vv9.out]; kernel_rfl, HQ.out.pure (i := 9) (by omega)⟩
         ·have e8 := (HQ.out.val 8 (by omega) (HD.out ⟨8, .guard⟩ (by simp) rfl)).trans vv8.out
          exact oU hoo (by rw [e8]; kernel_rfl) (fun _ _ => trivial) ⟨upd q 10 (V 10), by rw [vv10.out]; kernel_rfl, HQ.out.pure (i := 10) (by omega)⟩
         ·have e8 := (HQ.out.val 8 (by omega) (HD.out ⟨8, .guard⟩ (by simp) rfl)).trans vv8.out
          exact oU hoo (by rw [e8]; kernel_rfl) (fun _ _ => trivial) ⟨upd q 11 (V 11), by rw [vv11.out]; kernel_rfl, HQ.out.pure (i := 11) (by omega)⟩
         ·have e8 := (HQ.out.val 8 (by omega) (HD.out ⟨8, .guard⟩ (by simp) rfl)).trans vv8.out
          exact oU hoo (by rw [e8]; kernel_rfl) (fun _ _ => trivial) ⟨upd q 12 (V 12), by rw [vv12.out]; kernel_rfl, HQ.out.pure (i := 12) (by omega)⟩
         ·have e8 := (HQ.out.val 8 (by omega) (HD.out ⟨8, .guard⟩ (by simp) rfl)).trans vv8.out
          exact oU hoo (by rw [e8]; kernel_rfl) (fun _ _ => trivial) ⟨upd q 13 (V 13), by rw [vv13.out]; kernel_rfl, HQ.out.pure (i := 13) (by omega)⟩
         ·have e8 := (HQ.out.val 8 (by omega) (HD.out ⟨8, .guard⟩ (by simp) rfl)).trans vv8.out
          exact oU hoo (by rw [e8]; kernel_rfl) (fun _ _ => trivial) ⟨upd q 14 (V 14), by rw [vv14.out]; kernel_rfl, HQ.out.pure (i := 14) (by omega)⟩
         ·have e8 := (HQ.out.val 8 (by omega) (HD.out ⟨8, .guard⟩ (by simp) rfl)).trans vv8.out
          exact oU hoo (by rw [e8]; kernel_rfl) (fun _ _ => trivial) ⟨upd q 15 (V 15), by rw [vv15.out]; kernel_rfl, HQ.out.pure (i := 15) (by omega)⟩
         ·have e8 := (HQ.out.val 8 (by omega) (HD.out ⟨8, .guard⟩ (by simp) rfl)).trans vv8.out
          exact oU hoo (by rw [e8]; kernel_rfl) (fun _ _ => trivial) ⟨upd q 16 (V 16), by rw [vv16.out]; kernel_rfl, HQ.out.pure (i := 16) (by omega)⟩
         ·have e8 := (HQ.out.val 8 (by omega) (HD.out ⟨8, .guard⟩ (by simp) rfl)).trans vv8.out
          exact oU hoo (by rw [e8]; kernel_rfl) (fun _ _ => trivial) ⟨upd q 17 (V 17), by rw [vv17.out]; kernel_rfl, HQ.out.pure (i := 17) (by omega)⟩
         ·have e8 := (HQ.out.val 8 (by omega) (HD.out ⟨8, .guard⟩ (by simp) rfl)).trans vv8.out
          exact oU hoo (by rw [e8]; kernel_rfl) (fun _ _ => trivial) ⟨upd q 18 (V 18), by rw [vv18.out]; kernel_rfl, HQ.out.pure (i := 18) (by omega)⟩
         ·have e8 := (HQ.out.val 8 (by omega) (HD.out ⟨8, .data⟩ (by simp) rfl)).trans vv8.out
          have e18 := (HQ.out.val 18 (by omega) (HD.out ⟨18, .data⟩ (by simp) rfl)).trans vv18.out
          exact oW hoo (by kernel_rfl) fun K hK => wV (v := .bool true) (fun _ _ => trivial) (by go_simp) (hK _ _ ⟨upd q 19 (V 19), by rw [vv19.out]; kernel_rfl, HQ.out.pure (i := 19) (by omega)⟩)
        case fc4x =>
         rintro d act Ws ⟨q, rfl, hR⟩ hall
         have q19 : q 19 = .bool true := (hR.val 19 (by omega) (hall 19 (by decide))).trans vv19.out
         rw [q19]
         have HSE := Lib.hid (HS6.out.step hR.bu)
         clear hR hall
         subst e
         try dsimp only
         go_wp2_with fail
         go_ret
         exact ⟨rfl, HSE.out.below⟩
       have HB6 : Hid ((m3 == (-1 : Int)) = true) := Lib.hid (by simpa using hn3)
       by_cases hs2 : m2 = p1
       rotate_left
       ·have HB7 : Hid ((m2 == p1) = false) := Lib.hid (by simpa using hs2)
        refine HNO.out (fun h => hs2 (h.2.2.2.2.2 _ HXD.out)) (fun e => ?_)
        clear hs2 hn3
        obtain ⟨V, hV⟩ : ∃ V : Nat → Value, V = fun vv => ([.pointer (some ⟨w.heap.size, 0, none⟩), .slice (some ⟨g, off, none⟩) N cap, .pointer (some ⟨X, 1, none⟩), .int .i64 ↑nb, .pointer (some ⟨g, off + nb * 3, none⟩), .pointer (some ⟨g, off + nb * 3 + 2, none⟩), .int .i64 m3, .bool false, .bool false, .pointer (some ⟨w.heap.size, 0, none⟩), .slice (some ⟨g, off, none⟩) N cap, .pointer (some ⟨X, 2, none⟩), .int .i64 ↑nd, .pointer (some ⟨g, off + nd * 3, none⟩), .pointer (some ⟨g, off + nd * 3 + 1, none⟩), .int .i64 m2, .pointer (some ⟨X, 0, none⟩), .int .i64 p1, .bool true, .bool true] : List Value).getD vv undef := ⟨_, rfl⟩
        have vv0 : Hid (V 0 = .pointer (some ⟨w.heap.size, 0, none⟩)) := Lib.hid (by rw [hV]; rfl)
        have vv1 : Hid (V 1 = .slice (some ⟨g, off, none⟩) N cap) := Lib.hid (by rw [hV]; rfl)
        have vv2 : Hid (V 2 = .pointer (some ⟨X, 1, none⟩)) := Lib.hid (by rw [hV]; rfl)
        have vv3 : Hid (V 3 = .int .i64 ↑nb) := Lib.hid (by rw [hV]; rfl)
        have vv4 : Hid (V 4 = .pointer (some ⟨g, off + nb * 3, none⟩)) := Lib.hid (by rw [hV]; rfl)
        have vv5 : Hid (V 5 = .pointer (some ⟨g, off + nb * 3 + 2, none⟩)) := Lib.hid (by rw [hV]; rfl)
        have vv6 : Hid (V 6 = .int .i64 m3) := Lib.hid (by rw [hV]; rfl)
        have vv7 : Hid (V 7 = .bool false) := Lib.hid (by rw [hV]; rfl)
        have vv8 : Hid (V 8 = .bool false) := Lib.hid (by rw [hV]; rfl)
        have vv9 : Hid (V 9 = .pointer (some ⟨w.heap.size, 0, none⟩)) := Lib.hid (by rw [hV]; rfl)
        have vv10 : Hid (V 10 = .slice (some ⟨g, off, none⟩) N cap) := Lib.hid (by rw [hV]; rfl)
        have vv11 : Hid (V 11 = .pointer (some ⟨X, 2, none⟩)) := Lib.hid (by rw [hV]; rfl)
        have vv12 : Hid (V 12 = .int .i64 ↑nd) := Lib.hid (by rw [hV]; rfl)
        have vv13 : Hid (V 13 = .pointer (some ⟨g, off + nd * 3, none⟩)) := Lib.hid (by rw [hV]; rfl)
        have vv14 : Hid (V 14 = .pointer (some ⟨g, off + nd * 3 + 1, none⟩)) := Lib.hid (by rw [hV]; rfl)
        have vv15 : Hid (V 15 = .int .i64 m2) := Lib.hid (by rw [hV]; rfl)
        have vv16 : Hid (V 16 = .pointer (some ⟨X, 0, none⟩)) := Lib.hid (by rw [hV]; rfl)
        have vv17 : Hid (V 17 = .int .i64 p1) := Lib.hid (by rw [hV]; rfl)
        have vv18 : Hid (V 18 = .bool true) := Lib.hid (by rw [hV]; rfl)
        have vv19 : Hid (V 19 = .bool true) := Lib.hid (by rw [hV]; rfl)
        clear hV
        refine (wpIn_wide (n := 20)).1 ?_
        refine wpIn_region_inv (by kernel_rfl) (back_of (by kernel_rfl)) (fun d act Wn => ∃ q : Nat → Value, act = { tmps := #[.agg #[.slice (some ⟨g, off, none⟩) N cap, .int .i64 last, .int .i64 done, .slice (some ⟨gp, op, none⟩) M cap2, .bool em], .pointer (some ⟨w.heap.size, 0, none⟩), u2, .pointer (some ⟨XF, 0, none⟩), u4, u5, .int .i64 ↑i, .pointer (some ⟨X, 0, none⟩), .pointer (some ⟨w.heap.size, 0, none⟩), .slice (some ⟨g, off, none⟩) N cap, .int .i64 ↑N, .bool false, .bool false, .pointer (some ⟨w.heap.size, 0, none⟩), .slice (some ⟨g, off, none⟩) N cap, .int .i64 ↑N, .bool false, .bool false, .bool false, .agg #[.slice (some ⟨g, off, none⟩) N cap, .int .i64 last, .int .i64 done, .slice (some ⟨gp, op, none⟩) M cap2, .bool em], .pointer (some ⟨w.heap.size, 1, none⟩), .int .i64 last, .bool true, .bool false, .bool false, .bool false, .agg #[.slice (some ⟨g, off, none⟩) N cap, .int .i64 last, .int .i64 done, .slice (some ⟨gp, op, none⟩) M cap2, .bool em], .pointer (some ⟨w.heap.size, 2, none⟩), .int .i64 done, .bool true, .bool false, .bool false, .pointer (some ⟨w.heap.size, 0, none⟩), .slice (some ⟨g, off, none⟩) N cap, .pointer (some ⟨g, off, none⟩), .agg #[.int .i64 0, .int .i64 (-1), .int .i64 v2], .pointer (some ⟨XF, 0, none⟩), .pointer (some ⟨XF, 0, none⟩), .int .i64 0, .bool false, .bool false, .pointer (some ⟨XF, 0, none⟩), .pointer (some ⟨XF, 1, none⟩), .int .i64 (-1), .bool false, .bool false, .pointer (some ⟨w.heap.size, 0, none⟩), .slice (some ⟨g, off, none⟩) N cap, .int .i64 ↑N, .int .i64 ↑k, .bool false, u51, u52, u53, u54, u55, u56, u57, u58, u59, u60, u61, u62, u63, u64, u65, u66, u67, u68, u69, u70, u71, u72, u73, .pointer (some ⟨w.heap.size, 3, none⟩), .slice (some ⟨gp, op, none⟩) M cap2, .int .i64 ↑M, .int .i64 ↑i, .bool true, .int .i64 ↑i, .pointer (some ⟨gp, op + i * 3, none⟩), .agg #[.int .i64 p1, .int .i64 ↑nb, .int .i64 ↑nd], y 0, y 1, y 2, y 3, y 4, y 5, y 6, y 7, y 8, y 9, y 10, y 11, y 12, y 13, y 14, y 15, y 16, y 17, y 18, y 19, y 20, y 21, y 22, y 23, y 24, y 25, y 26, y 27, y 28, y 29, y 30, y 31, .bool false, q 0, q 1, q 2, q 3, q 4, q 5, q 6, q 7, q 8, q 9, q 10, q 11, q 12, q 13, q 14, q 15, q 16, q 17, q 18, q 19, u135], defers := [] } ∧ QA Wt V 20 d q Wn) ?rc4y ?sc4y ?fc4y
        case rc4y => exact fun d hd => ⟨(upd (upd (upd (upd (upd (upd (upd (upd (upd (upd (upd (upd (upd (upd (upd (upd (upd (upd (upd (upd (fun _ => undef) 0 (u115)) 1 (u116)) 2 (u117)) 3 (u118)) 4 (u119)) 5 (u120)) 6 (u121)) 7 (u122)) 8 (u123)) 9 (u124)) 10 (u125)) 11 (u126)) 12 (u127)) 13 (u128)) 14 (u129)) 15 (u130)) 16 (u131)) 17 (u132)) 18 (u133)) 19 (u134)), rfl, QA.start (fun i hi => hd i hi)⟩
        case sc4y =>
         rintro ix oi hop d act Ws ⟨q, rfl, hR⟩ hSi hdep
         have hix : ix < 20 := (Array.getElem?_eq_some_iff.1 hop).1
         have HQ := Lib.hid hR
         have HD := Lib.hid hdep
         clear hR hdep hSi
         obtain rfl | rfl | rfl | rfl | rfl | rfl | rfl | rfl | rfl | rfl | rfl | rfl | rfl | rfl | rfl | rfl | rfl | rfl | rfl | rfl : ix = 0 ∨ ix = 1 ∨ ix = 2 ∨ ix = 3 ∨ ix = 4 ∨ ix = 5 ∨ ix = 6 ∨ ix = 7 ∨ ix = 8 ∨ ix = 9 ∨ ix = 10 ∨ ix = 11 ∨ ix = 12 ∨ ix = 13 ∨ ix = 14 ∨ ix = 15 ∨ ix = 16 ∨ ix = 17 ∨ ix = 18 ∨ ix = 19 := by omega
         all_goals (have hoo := hop; obtain rfl := Option.some.inj hop)
         ·exact oW hoo (by kernel_rfl) fun K hK => wV (v := .pointer (some ⟨w.heap.size, 0, none⟩)) (fun _ _ => trivial) (by go_simp) (hK _ _ ⟨upd q 0 (V 0), by rw [vv0.out]; kernel_rfl, HQ.out.pure (i := 0) (by omega)⟩)
         ·have e0 := (HQ.out.val 0 (by omega) (HD.out ⟨0, .data⟩ (by simp) rfl)).trans vv0.out
          refine oW hoo (by kernel_rfl) fun K hK => ?_
          obtain ⟨c0, c1, c2, c3, c4⟩ := (HS6.out.step HQ.out.bu).facts
          refine wV (v := .slice (some ⟨g, off, none⟩) N cap) (fun _ _ => trivial) (by go_simp) ?_
          exact hK _ _ ⟨upd q 1 (V 1), by rw [vv1.out]; kernel_rfl, HQ.out.pure (i := 1) (by omega)⟩
         ·exact oW hoo (by kernel_rfl) fun K hK => wV (v := .pointer (some ⟨X, 1, none⟩)) (fun _ _ => trivial) (by go_simp) (hK _ _ ⟨upd q 2 (V 2), by rw [vv2.out]; kernel_rfl, HQ.out.pure (i := 2) (by omega)⟩)
         ·have e2 := (HQ.out.val 2 (by omega) (HD.out ⟨2, .data⟩ (by simp) rfl)).trans vv2.out
          refine oW hoo (by kernel_rfl) fun K hK => ?_
          have hx5 := (HQ.out.bu.block X (blk_lt HX6.out)).trans HX6.out
          have l0 := cB hx5 0
          have l1 := cB hx5 1
          have l2 := cB hx5 2
          refine wV (v := .int .i64 ↑nb) (fun _ _ => trivial) (by go_simp) ?_
          exact hK _ _ ⟨upd q 3 (V 3), by rw [vv3.out]; kernel_rfl, HQ.out.pure (i := 3) (by omega)⟩
         ·have e1 := (HQ.out.val 1 (by omega) (HD.out ⟨1, .data⟩ (by simp) rfl)).trans vv1.out
          have e3 := (HQ.out.val 3 (by omega) (HD.out ⟨3, .data⟩ (by simp) rfl)).trans vv3.out
          refine oW hoo (by kernel_rfl) fun K hK => ?_
          have bb : ((nb : Nat) : Int) < (N : Int) := HNB.out.1
          have bb2 : nb < N := HNB.out.2
          refine wV (v := .pointer (some ⟨g, off + nb * 3, none⟩)) (fun _ _ => trivial) (by go_simp) ?_
          exact hK _ _ ⟨upd q 4 (V 4), by rw [vv4.out]; kernel_rfl, HQ.out.pure (i := 4) (by omega)⟩
         ·have e4 := (HQ.out.val 4 (by omega) (HD.out ⟨4, .data⟩ (by simp) rfl)).trans vv4.out
          exact oW hoo (by kernel_rfl) fun K hK => wV (v := .pointer (some ⟨g, off + nb * 3 + 2, none⟩)) (fun _ _ => trivial) (by go_simp) (hK _ _ ⟨upd q 5 (V 5), by rw [vv5.out]; kernel_rfl, HQ.out.pure (i := 5) (by omega)⟩)
         ·have e5 := (HQ.out.val 5 (by omega) (HD.out ⟨5, .data⟩ (by simp) rfl)).trans vv5.out
          refine oW hoo (by kernel_rfl) fun K hK => ?_
          have z0 := ((HS6.out.step HQ.out.bu).below.cell (p := ⟨g, off + nb * 3 + 2, none⟩) HG.out).trans HM3.out
          refine wV (v := .int .i64 m3) (fun _ _ => trivial) (by go_simp) ?_
          exact hK _ _ ⟨upd q 6 (V 6), by rw [vv6.out]; kernel_rfl, HQ.out.pure (i := 6) (by omega)⟩
         ·have e6 := (HQ.out.val 6 (by omega) (HD.out ⟨6, .data⟩ (by simp) rfl)).trans vv6.out
          exact oW hoo (by kernel_rfl) fun K hK => wV (v := .bool false) (fun _ _ => trivial) (by go_simp <;> simpa using HB6.out) (hK _ _ ⟨upd q 7 (V 7), by rw [vv7.out]; kernel_rfl, HQ.out.pure (i := 7) (by omega)⟩)
         ·have e7 := (HQ.out.val 7 (by omega) (HD.out ⟨7, .data⟩ (by simp) rfl)).trans vv7.out
          exact oW hoo (by kernel_rfl) fun K hK => wV (v := .bool false) (fun _ _ => trivial) (by go_simp) (hK _ _ ⟨upd q 8 (V 8), by rw [vv8.out]; kernel_rfl, HQ.out.pure (i := 8) (by omega)⟩)
         ·have e8 := (HQ.out.val 8 (by omega) (HD.out ⟨8, .guard⟩ (by simp) rfl)).trans vv8.out
          exact oW hoo (by rw [e8]; kernel_rfl) fun K hK => wV (v := .pointer (some ⟨w.heap.size, 0, none⟩)) (fun _ _ => trivial) (by go_simp) (hK _ _ ⟨upd q 9 (V 9), by rw [vv9.out]; kernel_rfl, HQ.out.pure (i := 9) (by omega)⟩)
         ·have e9 := (HQ.out.val 9 (by omega) (HD.out ⟨9, .data⟩ (by simp) rfl)).trans vv9.out
          have e8 := (HQ.out.val 8 (by omega) (HD.out ⟨8, .guard⟩ (by simp) rfl)).trans vv8.out
          refine oW hoo (by rw [e8]; kernel_rfl) fun K hK => ?_
          obtain ⟨c0, c1, c2, c3, c4⟩ := (HS6.out.step HQ.out.bu).facts
          refine wV (v := .slice (some ⟨g, off, none⟩) N cap) (fun _ _ => trivial) (by go_simp) ?_
          exact hK _ _ ⟨upd q 10 (V 10), by rw [vv10.out]; kernel_rfl, HQ.out.pure (i := 10) (by omega)⟩
         ·have e8 := (HQ.out.val 8 (by omega) (HD.out ⟨8, .guard⟩ (by simp) rfl)).trans vv8.out
          exact oW hoo (by rw [e8]; kernel_rfl) fun K hK => wV (v := .pointer (some ⟨X, 2, none⟩)) (fun _ _ => trivial) (by go_simp) (hK _ _ ⟨upd q 11 (V 11), by rw [vv11.out]; kernel_rfl, HQ.out.pure (i := 11) (by omega)⟩)
         ·have e11 := (HQ.out.val 11 (by omega) (HD.out ⟨11, .data⟩ (by simp) rfl)).trans vv11.out
          have e8 := (HQ.out.val 8 (by omega) (HD.out ⟨8, .guard⟩ (by simp) rfl)).trans vv8.out
          refine oW hoo (by rw [e8]; kernel_rfl) fun K hK => ?_
          have hx5 := (HQ.out.bu.block X (blk_lt HX6.out)).trans HX6.out
          have l0 := cB hx5 0
          have l1 := cB hx5 1
          have l2 := cB hx5 2
          refine wV (v := .int .i64 ↑nd) (fun _ _ => trivial) (by go_simp) ?_
          exact hK _ _ ⟨upd q 12 (V 12), by rw [vv12.out]; kernel_rfl, HQ.out.pure (i := 12) (by omega)⟩
         ·have e10 := (HQ.out.val 10 (by omega) (HD.out ⟨10, .data⟩ (by simp) rfl)).trans vv10.out
          have e12 := (HQ.out.val 12 (by omega) (HD.out ⟨12, .data⟩ (by simp) rfl)).trans vv12.out
          have e8 := (HQ.out.val 8 (by omega) (HD.out ⟨8, .guard⟩ (by simp) rfl)).trans vv8.out
          refine oW hoo (by rw [e8]; kernel_rfl) fun K hK => ?_
          have bb : ((nd : Nat) : Int) < (N : Int) := HND.out.1
          have bb2 : nd < N := HND.out.2
          refine wV (v := .pointer (some ⟨g, off + nd * 3, none⟩)) (fun _ _ => trivial) (by go_simp) ?_
          exact hK _ _ ⟨upd q 13 (V 13), by rw [vv13.out]; kernel_rfl, HQ.out.pure (i := 13) (by omega)⟩
         ·have e13 := (HQ.out.val 13 (by omega) (HD.out ⟨13, .data⟩ (by simp) rfl)).trans vv13.out
          have e8 := (HQ.out.val 8 (by omega) (HD.out ⟨8, .guard⟩ (by simp) rfl)).trans vv8.out
          exact oW hoo (by rw [e8]; kernel_rfl) fun K hK => wV (v := .pointer (some ⟨g, off + nd * 3 + 1, none⟩)) (fun _ _ => trivial) (by go_simp) (hK _ _ ⟨upd q 14 (V 14), by rw [vv14.out]; kernel_rfl, HQ.out.pure (i := 14) (by omega)⟩)
         ·have e14 := (HQ.out.val 14 (by omega) (HD.out ⟨14, .data⟩ (by simp) rfl)).trans vv14.out
          have e8 := (HQ.out.val 8 (by omega) (HD.out ⟨8, .guard⟩ (by simp) rfl)).trans vv8.out
          refine oW hoo (by rw [e8]; kernel_rfl) fun K hK => ?_
          have z0 := ((HS6.out.step HQ.out.bu).below.cell (p := ⟨g, off + nd * 3 + 1, none⟩) HG.out).trans HM2.out
          refine wV (v := .int .i64 m2) (fun _ _ => trivial) (by go_simp) ?_
          exact hK _ _ ⟨upd q 15 (V 15), by rw [vv15.out]; kernel_rfl, HQ.out.pure (i := 15) (by omega)⟩
         ·have e8 := (HQ.out.val 8 (by omega) (HD.out ⟨8, .guard⟩ (by simp) rfl)).trans vv8.out
          exact oW hoo (by rw [e8]; kernel_rfl) fun K hK => wV (v := .pointer (some ⟨X, 0, none⟩)) (fun _ _ => trivial) (by go_simp) (hK _ _ ⟨upd q 16 (V 16), by rw [vv16.out]; kernel_rfl, HQ.out.pure (i := 16) (by omega)⟩)
         ·have e16 := (HQ.out.val 16 (by omega) (HD.out ⟨16, .data⟩ (by simp) rfl)).trans vv16.out
          have e8 := (HQ.out.val 8 (by omega) (HD.out ⟨8, .guard⟩ (by simp) rfl)).trans vv8.out
          refine oW hoo (by rw [e8]; kernel_rfl) fun K hK => ?_
          have hx5 := (HQ.out.bu.block X (blk_lt HX6.out)).trans HX6.out
          have l0 := cB hx5 0
          have l1 := cB hx5 1
          have l2 := cB hx5 2
          refine wV (v := .int .i64 p1) (fun _ _ => trivial) (by go_simp) ?_
          exact hK _ _ ⟨upd q 17 (V 17), by rw [vv17.out]; kernel_rfl, HQ.out.pure (i := 17) (by omega)⟩
         ·have e15 := (HQ.out.val 15 (by omega) (HD.out ⟨15, .data⟩ (by simp) rfl)).trans vv15.out
          have e17 := (HQ.out.val 17 (by omega) (HD.out ⟨17, .data⟩ (by simp) rfl)).trans vv17.out
          have e8 := (HQ.out.val 8 (by omega) (HD.out ⟨8, .guard⟩ (by simp) rfl)).trans vv8.out
          exact oW hoo (by rw [e8]; kernel_rfl) fun K hK => wV (v := .bool true) (fun _ _ => trivial) (by go_simp <;> simpa using HB7.out) (hK _ _ ⟨upd q 18 (V 18), by rw [vv18.out]; kernel_rfl, HQ.out.pure (i := 18) (by omega)⟩)
         ·have e8 := (HQ.out.val 8 (by omega) (HD.out ⟨8, .data⟩ (by simp) rfl)).trans vv8.out
          have e18 := (HQ.out.val 18 (by omega) (HD.out ⟨18, .data⟩ (by simp) rfl)).trans vv18.out
          exact oW hoo (by kernel_rfl) fun K hK => wV (v := .bool true) (fun _ _ => trivial) (by go_simp) (hK _ _ ⟨upd q 19 (V 19), by rw [vv19.out]; kernel_rfl, HQ.out.pure (i := 19) (by omega)⟩)
        case fc4y =>
         rintro d act Ws ⟨q, rfl, hR⟩ hall
         have q19 : q 19 = .bool true := (hR.val 19 (by omega) (hall 19 (by decide))).trans vv19.out
         rw [q19]
         have HSE := Lib.hid (HS6.out.step hR.bu)
         clear hR hall
         subst e
         try dsimp only
         go_wp2_with fail
         go_ret
         exact ⟨rfl, HSE.out.below⟩
       have HB7 : Hid ((m2 == p1) = true) := Lib.hid (by simpa using hs2)
       have HN3 := Lib.hid hn3
       have HS2' := Lib.hid hs2
       clear hs2 hn3
       obtain ⟨V, hV⟩ : ∃ V : Nat → Value, V = fun vv => ([.pointer (some ⟨w.heap.size, 0, none⟩), .slice (some ⟨g, off, none⟩) N cap, .pointer (some ⟨X, 1, none⟩), .int .i64 ↑nb, .pointer (some ⟨g, off + nb * 3, none⟩), .pointer (some ⟨g, off + nb * 3 + 2, none⟩), .int .i64 m3, .bool false, .bool false, .pointer (some ⟨w.heap.size, 0, none⟩), .slice (some ⟨g, off, none⟩) N cap, .pointer (some ⟨X, 2, none⟩), .int .i64 ↑nd, .pointer (some ⟨g, off + nd * 3, none⟩), .pointer (some ⟨g, off + nd * 3 + 1, none⟩), .int .i64 m2, .pointer (some ⟨X, 0, none⟩), .int .i64 p1, .bool false, .bool false] : List Value).getD vv undef := ⟨_, rfl⟩
       have vv0 : Hid (V 0 = .pointer (some ⟨w.heap.size, 0, none⟩)) := Lib.hid (by rw [hV]; rfl)
       have vv1 : Hid (V 1 = .slice (some ⟨g, off, none⟩) N cap) := Lib.hid (by rw [hV]; rfl)
       have vv2 : Hid (V 2 = .pointer (some ⟨X, 1, none⟩)) := Lib.hid (by rw [hV]; rfl)
       have vv3 : Hid (V 3 = .int .i64 ↑nb) := Lib.hid (by rw [hV]; rfl)
       have vv4 : Hid (V 4 = .pointer (some ⟨g, off + nb * 3, none⟩)) := Lib.hid (by rw [hV]; rfl)
       have vv5 : Hid (V 5 = .pointer (some ⟨g, off + nb * 3 + 2, none⟩)) := Lib.hid (by rw [hV]; rfl)
       have vv6 : Hid (V 6 = .int .i64 m3) := Lib.hid (by rw [hV]; rfl)
       have vv7 : Hid (V 7 = .bool false) := Lib.hid (by rw [hV]; rfl)
       have vv8 : Hid (V 8 = .bool false) := Lib.hid (by rw [hV]; rfl)
       have vv9 : Hid (V 9 = .pointer (some ⟨w.heap.size, 0, none⟩)) := Lib.hid (by rw [hV]; rfl)
       have vv10 : Hid (V 10 = .slice (some ⟨g, off, none⟩) N cap) := Lib.hid (by rw [hV]; rfl)
       have vv11 : Hid (V 11 = .pointer (some ⟨X, 2, none⟩)) := Lib.hid (by rw [hV]; rfl)
       have vv12 : Hid (V 12 = .int .i64 ↑nd) := Lib.hid (by rw [hV]; rfl)
       have vv13 : Hid (V 13 = .pointer (some ⟨g, off + nd * 3, none⟩)) := Lib.hid (by rw [hV]; rfl)
       have vv14 : Hid (V 14 = .pointer (some ⟨g, off + nd * 3 + 1, none⟩)) := Lib.hid (by rw [hV]; rfl)
       have vv15 : Hid (V 15 = .int .i64 m2) := Lib.hid (by rw [hV]; rfl)
       have vv16 : Hid (V 16 = .pointer (some ⟨X, 0, none⟩)) := Lib.hid (by rw [hV]; rfl)
       have vv17 : Hid (V 17 = .int .i64 p1) := Lib.hid (by rw [hV]; rfl)
       have vv18 : Hid (V 18 = .bool false) := Lib.hid (by rw [hV]; rfl)
       have vv19 : Hid (V 19 = .bool false) := Lib.hid (by rw [hV]; rfl)
       clear hV
       refine (wpIn_wide (n := 20)).1 ?_
       refine wpIn_region_inv (by kernel_rfl) (back_of (by kernel_rfl)) (fun d act Wn => ∃ q : Nat → Value, act = { tmps := #[.agg #[.slice (some ⟨g, off, none⟩) N cap, .int .i64 last, .int .i64 done, .slice (some ⟨gp, op, none⟩) M cap2, .bool em], .pointer (some ⟨w.heap.size, 0, none⟩), u2, .pointer (some ⟨XF, 0, none⟩), u4, u5, .int .i64 ↑i, .pointer (some ⟨X, 0, none⟩), .pointer (some ⟨w.heap.size, 0, none⟩), .slice (some ⟨g, off, none⟩) N cap, .int .i64 ↑N, .bool false, .bool false, .pointer (some ⟨w.heap.size, 0, none⟩), .slice (some ⟨g, off, none⟩) N cap, .int .i64 ↑N, .bool false, .bool false, .bool false, .agg #[.slice (some ⟨g, off, none⟩) N cap, .int .i64 last, .int .i64 done, .slice (some ⟨gp, op, none⟩) M cap2, .bool em], .pointer (some ⟨w.heap.size, 1, none⟩), .int .i64 last, .bool true, .bool false, .bool false, .bool false, .agg #[.slice (some ⟨g, off, none⟩) N cap, .int .i64 last, .int .i64 done, .slice (some ⟨gp, op, none⟩) M cap2, .bool em], .pointer (some ⟨w.heap.size, 2, none⟩), .int .i64 done, .bool true, .bool false, .bool false, .pointer (some ⟨w.heap.size, 0, none⟩), .slice (some ⟨g, off, none⟩) N cap, .pointer (some ⟨g, off, none⟩), .agg #[.int .i64 0, .int .i64 (-1), .int .i64 v2], .pointer (some ⟨XF, 0, none⟩), .pointer (some ⟨XF, 0, none⟩), .int .i64 0, .bool false, .bool false, .pointer (some ⟨XF, 0, none⟩), .pointer (some ⟨XF, 1, none⟩), .int .i64 (-1), .bool false, .bool false, .pointer (some ⟨w.heap.size, 0, none⟩), .slice (some ⟨g, off, none⟩) N cap, .int .i64 ↑N, .int .i64 ↑k, .bool false, u51, u52, u53, u54, u55, u56, u57, u58, u59, u60, u61, u62, u63, u64, u65, u66, u67, u68, u69, u70, u71, u72, u73, .pointer (some ⟨w.heap.size, 3, none⟩), .slice (some ⟨gp, op, none⟩) M cap2, .int .i64 ↑M, .int .i64 ↑i, .bool true, .int .i64 ↑i, .pointer (some ⟨gp, op + i * 3, none⟩), .agg #[.int .i64 p1, .int .i64 ↑nb, .int .i64 ↑nd], y 0, y 1, y 2, y 3, y 4, y 5, y 6, y 7, y 8, y 9, y 10, y 11, y 12, y 13, y 14, y 15, y 16, y 17, y 18, y 19, y 20, y 21, y 22, y 23, y 24, y 25, y 26, y 27, y 28, y 29, y 30, y 31, .bool false, q 0, q 1, q 2, q 3, q 4, q 5, q 6, q 7, q 8, q 9, q 10, q 11, q 12, q 13, q 14, q 15, q 16, q 17, q 18, q 19, u135], defers := [] } ∧ QA Wt V 20 d q Wn) ?rc4z ?sc4z ?fc4z
       case rc4z => exact fun d hd => ⟨(upd (upd (upd (upd (upd (upd (upd (upd (upd (upd (upd (upd (upd (upd (upd (upd (upd (upd (upd (upd (fun _ => undef) 0 (u115)) 1 (u116)) 2 (u117)) 3 (u118)) 4 (u119)) 5 (u120)) 6 (u121)) 7 (u122)) 8 (u123)) 9 (u124)) 10 (u125)) 11 (u126)) 12 (u127)) 13 (u128)) 14 (u129)) 15 (u130)) 16 (u131)) 17 (u132)) 18 (u133)) 19 (u134)), rfl, QA.start (fun i hi => hd i hi)⟩
       case sc4z =>
        rintro ix oi hop d act Ws ⟨q, rfl, hR⟩ hSi hdep
        have hix : ix < 20 := (Array.getElem?_eq_some_iff.1 hop).1
        have HQ := Lib.hid hR
        have HD := Lib.hid hdep
        clear hR hdep hSi
        obtain rfl | rfl | rfl | rfl | rfl | rfl | rfl | rfl | rfl | rfl | rfl | rfl | rfl | rfl | rfl | rfl | rfl | rfl | rfl | rfl : ix = 0 ∨ ix = 1 ∨ ix = 2 ∨ ix = 3 ∨ ix = 4 ∨ ix = 5 ∨ ix = 6 ∨ ix = 7 ∨ ix = 8 ∨ ix = 9 ∨ ix = 10 ∨ ix = 11 ∨ ix = 12 ∨ ix = 13 ∨ ix = 14 ∨ ix = 15 ∨ ix = 16 ∨ ix = 17 ∨ ix = 18 ∨ ix = 19 := by omega
        all_goals (have hoo := hop; obtain rfl := Option.some.inj hop)
        ·exact oW hoo (by kernel_rfl) fun K hK => wV (v := .pointer (some ⟨w.heap.size, 0, none⟩)) (fun _ _ => trivial) (by go_simp) (hK _ _ ⟨upd q 0 (V 0), by rw [vv0.out]; kernel_rfl, HQ.out.pure (i := 0) (by omega)⟩)
        ·have e0 := (HQ.out.val 0 (by omega) (HD.out ⟨0, .data⟩ (by simp) rfl)).trans vv0.out
         refine oW hoo (by kernel_rfl) fun K hK => ?_
         obtain ⟨c0, c1, c2, c3, c4⟩ := (HS6.out.step HQ.out.bu).facts
         refine wV (v := .slice (some ⟨g, off, none⟩) N cap) (fun _ _ => trivial) (by go_simp) ?_
         exact hK _ _ ⟨upd q 1 (V 1), by rw [vv1.out]; kernel_rfl, HQ.out.pure (i := 1) (by omega)⟩
        ·exact oW hoo (by kernel_rfl) fun K hK => wV (v := .pointer (some ⟨X, 1, none⟩)) (fun _ _ => trivial) (by go_simp) (hK _ _ ⟨upd q 2 (V 2), by rw [vv2.out]; kernel_rfl, HQ.out.pure (i := 2) (by omega)⟩)
        ·have e2 := (HQ.out.val 2 (by omega) (HD.out ⟨2, .data⟩ (by simp) rfl)).trans vv2.out
         refine oW hoo (by kernel_rfl) fun K hK => ?_
         have hx5 := (HQ.out.bu.block X (blk_lt HX6.out)).trans HX6.out
         have l0 := cB hx5 0
         have l1 := cB hx5 1
         have l2 := cB hx5 2
         refine wV (v := .int .i64 ↑nb) (fun _ _ => trivial) (by go_simp) ?_
         exact hK _ _ ⟨upd q 3 (V 3), by rw [vv3.out]; kernel_rfl, HQ.out.pure (i := 3) (by omega)⟩
        ·have e1 := (HQ.out.val 1 (by omega) (HD.out ⟨1, .data⟩ (by simp) rfl)).trans vv1.out
         have e3 := (HQ.out.val 3 (by omega) (HD.out ⟨3, .data⟩ (by simp) rfl)).trans vv3.out
         refine oW hoo (by kernel_rfl) fun K hK => ?_
         have bb : ((nb : Nat) : Int) < (N : Int) := HNB.out.1
         have bb2 : nb < N := HNB.out.2
         refine wV (v := .pointer (some ⟨g, off + nb * 3, none⟩)) (fun _ _ => trivial) (by go_simp) ?_
         exact hK _ _ ⟨upd q 4 (V 4), by rw [vv4.out]; kernel_rfl, HQ.out.pure (i := 4) (by omega)⟩
        ·have e4 := (HQ.out.val 4 (by omega) (HD.out ⟨4, .data⟩ (by simp) rfl)).trans vv4.out
         exact oW hoo (by kernel_rfl) fun K hK => wV (v := .pointer (some ⟨g, off + nb * 3 + 2, none⟩)) (fun _ _ => trivial) (by go_simp) (hK _ _ ⟨upd q 5 (V 5), by rw [vv5.out]; kernel_rfl, HQ.out.pure (i := 5) (by omega)⟩)
        ·have e5 := (HQ.out.val 5 (by omega) (HD.out ⟨5, .data⟩ (by simp) rfl)).trans vv5.out
         refine oW hoo (by kernel_rfl) fun K hK => ?_
         have z0 := ((HS6.out.step HQ.out.bu).below.cell (p := ⟨g, off + nb * 3 + 2, none⟩) HG.out).trans HM3.out
         refine wV (v := .int .i64 m3) (fun _ _ => trivial) (by go_simp) ?_
         exact hK _ _ ⟨upd q 6 (V 6), by rw [vv6.out]; kernel_rfl, HQ.out.pure (i := 6) (by omega)⟩
        ·have e6 := (HQ.out.val 6 (by omega) (HD.out ⟨6, .data⟩ (by simp) rfl)).trans vv6.out
         exact oW hoo (by kernel_rfl) fun K hK => wV (v := .bool false) (fun _ _ => trivial) (by go_simp <;> simpa using HB6.out) (hK _ _ ⟨upd q 7 (V 7), by rw [vv7.out]; kernel_rfl, HQ.out.pure (i := 7) (by omega)⟩)
        ·have e7 := (HQ.out.val 7 (by omega) (HD.out ⟨7, .data⟩ (by simp) rfl)).trans vv7.out
         exact oW hoo (by kernel_rfl) fun K hK => wV (v := .bool false) (fun _ _ => trivial) (by go_simp) (hK _ _ ⟨upd q 8 (V 8), by rw [vv8.out]; kernel_rfl, HQ.out.pure (i := 8) (by omega)⟩)
        ·have e8 := (HQ.out.val 8 (by omega) (HD.out ⟨8, .guard⟩ (by simp) rfl)).trans vv8.out
         exact oW hoo (by rw [e8]; kernel_rfl) fun K hK => wV (v := .pointer (some ⟨w.heap.size, 0, none⟩)) (fun _ _ => trivial) (by go_simp) (hK _ _ ⟨upd q 9 (V 9), by rw [vv9.out]; kernel_rfl, HQ.out.pure (i := 9) (by omega)⟩)
        ·have e9 := (HQ.out.val 9 (by omega) (HD.out ⟨9, .data⟩ (by simp) rfl)).trans vv9.out
         have e8 := (HQ.out.val 8 (by omega) (HD.out ⟨8, .guard⟩ (by simp) rfl)).trans vv8.out
         refine oW hoo (by rw [e8]; kernel_rfl) fun K hK => ?_
         obtain ⟨c0, c1, c2, c3, c4⟩ := (HS6.out.step HQ.out.bu).facts
         refine wV (v := .slice (some ⟨g, off, none⟩) N cap) (fun _ _ => trivial) (by go_simp) ?_
         exact hK _ _ ⟨upd q 10 (V 10), by rw [vv10.out]; kernel_rfl, HQ.out.pure (i := 10) (by omega)⟩
        ·have e8 := (HQ.out.val 8 (by omega) (HD.out ⟨8, .guard⟩ (by simp) rfl)).trans vv8.out
         exact oW hoo (by rw [e8]; kernel_rfl) fun K hK => wV (v := .pointer (some ⟨X, 2, none⟩)) (fun _ _ => trivial) (by go_simp) (hK _ _ ⟨upd q 11 (V 11), by rw [vv11.out]; kernel_rfl, HQ.out.pure (i := 11) (by omega)⟩)
        ·have e11 := (HQ.out.val 11 (by omega) (HD.out ⟨11, .data⟩ (by simp) rfl)).trans vv11.out
         have e8 := (HQ.out.val 8 (by omega) (HD.out ⟨8, .guard⟩ (by simp) rfl)).trans vv8.out
         refine oW hoo (by rw [e8]; kernel_rfl) fun K hK => ?_
         have hx5 := (HQ.out.bu.block X (blk_lt HX6.out)).trans HX6.out
         have l0 := cB hx5 0
         have l1 := cB hx5 1
         have l2 := cB hx5 2
         refine wV (v := .int .i64 ↑nd) (fun _ _ => trivial) (by go_simp) ?_
         exact hK _ _ ⟨upd q 12 (V 12), by rw [vv12.out]; kernel_rfl, HQ.out.pure (i := 12) (by omega)⟩
        ·have e10 := (HQ.out.val 10 (by omega) (HD.out ⟨10, .data⟩ (by simp) rfl)).trans vv10.out
         have e12 := (HQ.out.val 12 (by omega) (HD.out ⟨12, .data⟩ (by simp) rfl)).trans vv12.out
         have e8 := (HQ.out.val 8 (by omega) (HD.out ⟨8, .guard⟩ (by simp) rfl)).trans vv8.out
         refine oW hoo (by rw [e8]; kernel_rfl) fun K hK => ?_
         have bb : ((nd : Nat) : Int) < (N : Int) := HND.out.1
         have bb2 : nd < N := HND.out.2
         refine wV (v := .pointer (some ⟨g, off + nd * 3, none⟩)) (fun _ _ => trivial) (by go_simp) ?_
         exact hK _ _ ⟨upd q 13 (V 13), by rw [vv13.out]; kernel_rfl, HQ.out.pure (i := 13) (by omega)⟩
        ·have e13 := (HQ.out.val 13 (by omega) (HD.out ⟨13, .data⟩ (by simp) rfl)).trans vv13.out
         have e8 := (HQ.out.val 8 (by omega) (HD.out ⟨8, .guard⟩ (by simp) rfl)).trans vv8.out
         exact oW hoo (by rw [e8]; kernel_rfl) fun K hK => wV (v := .pointer (some ⟨g, off + nd * 3 + 1, none⟩)) (fun _ _ => trivial) (by go_simp) (hK _ _ ⟨upd q 14 (V 14), by rw [vv14.out]; kernel_rfl, HQ.out.pure (i := 14) (by omega)⟩)
        ·have e14 := (HQ.out.val 14 (by omega) (HD.out ⟨14, .data⟩ (by simp) rfl)).trans vv14.out
         have e8 := (HQ.out.val 8 (by omega) (HD.out ⟨8, .guard⟩ (by simp) rfl)).trans vv8.out
         refine oW hoo (by rw [e8]; kernel_rfl) fun K hK => ?_
         have z0 := ((HS6.out.step HQ.out.bu).below.cell (p := ⟨g, off + nd * 3 + 1, none⟩) HG.out).trans HM2.out
         refine wV (v := .int .i64 m2) (fun _ _ => trivial) (by go_simp) ?_
         exact hK _ _ ⟨upd q 15 (V 15), by rw [vv15.out]; kernel_rfl, HQ.out.pure (i := 15) (by omega)⟩
        ·have e8 := (HQ.out.val 8 (by omega) (HD.out ⟨8, .guard⟩ (by simp) rfl)).trans vv8.out
         exact oW hoo (by rw [e8]; kernel_rfl) fun K hK => wV (v := .pointer (some ⟨X, 0, none⟩)) (fun _ _ => trivial) (by go_simp) (hK _ _ ⟨upd q 16 (V 16), by rw [vv16.out]; kernel_rfl, HQ.out.pure (i := 16) (by omega)⟩)
        ·have e16 := (HQ.out.val 16 (by omega) (HD.out ⟨16, .data⟩ (by simp) rfl)).trans vv16.out
         have e8 := (HQ.out.val 8 (by omega) (HD.out ⟨8, .guard⟩ (by simp) rfl)).trans vv8.out
         refine oW hoo (by rw [e8]; kernel_rfl) fun K hK => ?_
         have hx5 := (HQ.out.bu.block X (blk_lt HX6.out)).trans HX6.out
         have l0 := cB hx5 0
         have l1 := cB hx5 1
         have l2 := cB hx5 2
         refine wV (v := .int .i64 p1) (fun _ _ => trivial) (by go_simp) ?_
         exact hK _ _ ⟨upd q 17 (V 17), by rw [vv17.out]; kernel_rfl, HQ.out.pure (i := 17) (by omega)⟩
        ·have e15 := (HQ.out.val 15 (by omega) (HD.out ⟨15, .data⟩ (by simp) rfl)).trans vv15.out
         have e17 := (HQ.out.val 17 (by omega) (HD.out ⟨17, .data⟩ (by simp) rfl)).trans vv17.out
         have e8 := (HQ.out.val 8 (by omega) (HD.out ⟨8, .guard⟩ (by simp) rfl)).trans vv8.out
         exact oW hoo (by rw [e8]; kernel_rfl) fun K hK => wV (v := .bool false) (fun _ _ => trivial) (by go_simp <;> simpa using HB7.out) (hK _ _ ⟨upd q 18 (V 18), by rw [vv18.out]; kernel_rfl, HQ.out.pure (i := 18) (by omega)⟩)
        ·have e8 := (HQ.out.val 8 (by omega) (HD.out ⟨8, .data⟩ (by simp) rfl)).trans vv8.out
         have e18 := (HQ.out.val 18 (by omega) (HD.out ⟨18, .data⟩ (by simp) rfl)).trans vv18.out
         exact oW hoo (by kernel_rfl) fun K hK => wV (v := .bool false) (fun _ _ => trivial) (by go_simp) (hK _ _ ⟨upd q 19 (V 19), by rw [vv19.out]; kernel_rfl, HQ.out.pure (i := 19) (by omega)⟩)
       case fc4z =>
        rintro d act Ws ⟨q, rfl, hR⟩ hall
        have q19 : q 19 = .bool false := (hR.val 19 (by omega) (hall 19 (by decide))).trans vv19.out
        rw [q19]
        have HS7 := Lib.hid (HS6.out.step hR.bu)
        clear hR hall
        try dsimp only
        go_wp2_with fail
        try rw [EK.out]
        go_roundw
        case rel =>
         refine ⟨i + 1, HLT.out, rfl, HS7.out, HYES.out ⟨by rw [← HNN.out]; exact HB1.out, by rw [← HNN.out]; exact HB2.out, ?_, ?_, fun x hx => ?_, fun x hx => ?_⟩⟩
         ·have := of_decide_eq_false HB3.out
          show 0 ≤ p1
          omega
         ·intro j' q' hj' hq'
          exfalso; have := of_decide_eq_false HB4.out.2; omega
         ·have hx : ns[nb]? = some x := hx
          rw [HXB.out] at hx
          injection hx with hx
          subst hx
          exact HN3.out
         ·have hx : ns[nd]? = some x := hx
          rw [HXD.out] at hx
          injection hx with hx
          subst hx
          exact HS2'.out
        case measure =>
         have := HLT.out
         show M - ((i + 1 : Nat) : Int).toNat < M - (i : Int).toNat
         omega
     have HB4 : Hid (decide ((0 : Int) < (i : Int)) = true ∧ decide (0 < i) = true) := Lib.hid ⟨decide_eq_true (by omega), decide_eq_true hb4⟩
     obtain ⟨j, hj⟩ : ∃ j, i = j + 1 := ⟨i - 1, by omega⟩
     have HJI := Lib.hid hj
     have HWJ : Hid (IntKind.i64.wrap ((i : Int) - 1) = (j : Int)) := Lib.hid (by rw [IntKind.wrap_i64]; have := HLT.out; have := HM2.out; omega)
     have HBJ : Hid ((j : Int) < (M : Int) ∧ j < M) := Lib.hid ⟨by have := HLT.out; omega, by have := HLT.out; omega⟩
     obtain ⟨xq, hxq⟩ : ∃ x, ps[j]? = some x := ⟨ps[j]'(by rw [← HMM.out]; exact HBJ.out.2), by simp⟩
     have hpv := (HCP.out j _ hxq).1
     obtain ⟨q1, q2, q3⟩ := xq
     have HPV := Lib.hid hpv
     have HPQ := Lib.hid hxq
     clear hb4 hj hpv hxq
     by_cases hb5 : p1 ≤ q1
     ·have HB5 : Hid (decide (p1 ≤ q1) = true) := Lib.hid (decide_eq_true hb5)
      refine HNO.out (fun h => by have := h.2.2.2.1 j _ HJI.out.symm HPQ.out; exact absurd this (by show ¬ q1 < p1; omega)) (fun e => ?_)
      clear hb5
      obtain ⟨V, hV⟩ : ∃ V : Nat → Value, V = fun vv => ([.agg #[.slice (some ⟨g, off, none⟩) N cap, .int .i64 last, .int .i64 done, .slice (some ⟨gp, op, none⟩) M cap2, .bool em], .pointer (some ⟨X, 1, none⟩), .int .i64 p2, .bool true, .bool false, .bool false, .agg #[.slice (some ⟨g, off, none⟩) N cap, .int .i64 last, .int .i64 done, .slice (some ⟨gp, op, none⟩) M cap2, .bool em], .pointer (some ⟨X, 2, none⟩), .int .i64 p3, .bool true, .bool false, .bool false, .bool false, .pointer (some ⟨X, 0, none⟩), .int .i64 p1, .bool false, .bool false, .bool false, .int .i64 ↑i, .bool true, .bool true, .pointer (some ⟨X, 0, none⟩), .int .i64 p1, .pointer (some ⟨w.heap.size, 3, none⟩), .slice (some ⟨gp, op, none⟩) M cap2, .int .i64 ↑i, .int .i64 j, .pointer (some ⟨gp, op + j * 3, none⟩), .pointer (some ⟨gp, op + j * 3, none⟩), .int .i64 q1, .bool true, .bool true, .bool true] : List Value).getD vv undef := ⟨_, rfl⟩
      have vv0 : Hid (V 0 = .agg #[.slice (some ⟨g, off, none⟩) N cap, .int .i64 last, .int .i64 done, .slice (some ⟨gp, op, none⟩) M cap2, .bool em]) := Lib.hid (by rw [hV]; rfl)
      have vv1 : Hid (V 1 = .pointer (some ⟨X, 1, none⟩)) := Lib.hid (by rw [hV]; rfl)
      have vv2 : Hid (V 2 = .int .i64 p2) := Lib.hid (by rw [hV]; rfl)
      have vv3 : Hid (V 3 = .bool true) := Lib.hid (by rw [hV]; rfl)
      have vv4 : Hid (V 4 = .bool false) := Lib.hid (by rw [hV]; rfl)
      have vv5 : Hid (V 5 = .bool false) := Lib.hid (by rw [hV]; rfl)
      have vv6 : Hid (V 6 = .agg #[.slice (some ⟨g, off, none⟩) N cap, .int .i64 last, .int .i64 done, .slice (some ⟨gp, op, none⟩) M cap2, .bool em]) := Lib.hid (by rw [hV]; rfl)
      have vv7 : Hid (V 7 = .pointer (some ⟨X, 2, none⟩)) := Lib.hid (by rw [hV]; rfl)
      have vv8 : Hid (V 8 = .int .i64 p3) := Lib.hid (by rw [hV]; rfl)
      have vv9 : Hid (V 9 = .bool true) := Lib.hid (by rw [hV]; rfl)
      have vv10 : Hid (V 10 = .bool false) := Lib.hid (by rw [hV]; rfl)
      have vv11 : Hid (V 11 = .bool false) := Lib.hid (by rw [hV]; rfl)
      have vv12 : Hid (V 12 = .bool false) := Lib.hid (by rw [hV]; rfl)
      have vv13 : Hid (V 13 = .pointer (some ⟨X, 0, none⟩)) := Lib.hid (by rw [hV]; rfl)
      have vv14 : Hid (V 14 = .int .i64 p1) := Lib.hid (by rw [hV]; rfl)
      have vv15 : Hid (V 15 = .bool false) := Lib.hid (by rw [hV]; rfl)
      have vv16 : Hid (V 16 = .bool false) := Lib.hid (by rw [hV]; rfl)
      have vv17 : Hid (V 17 = .bool false) := Lib.hid (by rw [hV]; rfl)
      have vv18 : Hid (V 18 = .int .i64 ↑i) := Lib.hid (by rw [hV]; rfl)
      have vv19 : Hid (V 19 = .bool true) := Lib.hid (by rw [hV]; rfl)
      have vv20 : Hid (V 20 = .bool true) := Lib.hid (by rw [hV]; rfl)
      have vv21 : Hid (V 21 = .pointer (some ⟨X, 0, none⟩)) := Lib.hid (by rw [hV]; rfl)
      have vv22 : Hid (V 22 = .int .i64 p1) := Lib.hid (by rw [hV]; rfl)
      have vv23 : Hid (V 23 = .pointer (some ⟨w.heap.size, 3, none⟩)) := Lib.hid (by rw [hV]; rfl)
      have vv24 : Hid (V 24 = .slice (some ⟨gp, op, none⟩) M cap2) := Lib.hid (by rw [hV]; rfl)
      have vv25 : Hid (V 25 = .int .i64 ↑i) := Lib.hid (by rw [hV]; rfl)
      have vv26 : Hid (V 26 = .int .i64 j) := Lib.hid (by rw [hV]; rfl)
      have vv27 : Hid (V 27 = .pointer (some ⟨gp, op + j * 3, none⟩)) := Lib.hid (by rw [hV]; rfl)
      have vv28 : Hid (V 28 = .pointer (some ⟨gp, op + j * 3, none⟩)) := Lib.hid (by rw [hV]; rfl)
      have vv29 : Hid (V 29 = .int .i64 q1) := Lib.hid (by rw [hV]; rfl)
      have vv30 : Hid (V 30 = .bool true) := Lib.hid (by rw [hV]; rfl)
      have vv31 : Hid (V 31 = .bool true) := Lib.hid (by rw [hV]; rfl)
      have vv32 : Hid (V 32 = .bool true) := Lib.hid (by rw [hV]; rfl)
      clear hV
      refine (wpIn_wide (n := 20)).1 ?_
      refine wpIn_region_inv (by kernel_rfl) (back_of (by kernel_rfl)) (fun d act Wn => ∃ y : Nat → Value, act = { tmps := #[.agg #[.slice (some ⟨g, off, none⟩) N cap, .int .i64 last, .int .i64 done, .slice (some ⟨gp, op, none⟩) M cap2, .bool em], .pointer (some ⟨w.heap.size, 0, none⟩), u2, .pointer (some ⟨XF, 0, none⟩), u4, u5, .int .i64 ↑i, .pointer (some ⟨X, 0, none⟩), .pointer (some ⟨w.heap.size, 0, none⟩), .slice (some ⟨g, off, none⟩) N cap, .int .i64 ↑N, .bool false, .bool false, .pointer (some ⟨w.heap.size, 0, none⟩), .slice (some ⟨g, off, none⟩) N cap, .int .i64 ↑N, .bool false, .bool false, .bool false, .agg #[.slice (some ⟨g, off, none⟩) N cap, .int .i64 last, .int .i64 done, .slice (some ⟨gp, op, none⟩) M cap2, .bool em], .pointer (some ⟨w.heap.size, 1, none⟩), .int .i64 last, .bool true, .bool false, .bool false, .bool false, .agg #[.slice (some ⟨g, off, none⟩) N cap, .int .i64 last, .int .i64 done, .slice (some ⟨gp, op, none⟩) M cap2, .bool em], .pointer (some ⟨w.heap.size, 2, none⟩), .int .i64 done, .bool true, .bool false, .bool false, .pointer (some ⟨w.heap.size, 0, none⟩), .slice (some ⟨g, off, none⟩) N cap, .pointer (some ⟨g, off, none⟩), .agg #[.int .i64 0, .int .i64 (-1), .int .i64 v2], .pointer (some ⟨XF, 0, none⟩), .pointer (some ⟨XF, 0, none⟩), .int .i64 0, .bool false, .bool false, .pointer (some ⟨XF, 0, none⟩), .pointer (some ⟨XF, 1, none⟩), .int .i64 (-1), .bool false, .bool false, .pointer (some ⟨w.heap.size, 0, none⟩), .slice (some ⟨g, off, none⟩) N cap, .int .i64 ↑N, .int .i64 ↑k, .bool false, u51, u52, u53, u54, u55, u56, u57, u58, u59, u60, u61, u62, u63, u64, u65, u66, u67, u68, u69, u70, u71, u72, u73, .pointer (some ⟨w.heap.size, 3, none⟩), .slice (some ⟨gp, op, none⟩) M cap2, .int .i64 ↑M, .int .i64 ↑i, .bool true, .int .i64 ↑i, .pointer (some ⟨gp, op + i * 3, none⟩), .agg #[.int .i64 p1, .int .i64 p2, .int .i64 p3], y 0, y 1, y 2, y 3, y 4, y 5, y 6, y 7, y 8, y 9, y 10, y 11, y 12, y 13, y 14, y 15, y 16, y 17, y 18, y 19, y 20, y 21, y 22, y 23, y 24, y 25, y 26, y 27, y 28, y 29, y 30, y 31, y 32, u115, u116, u117, u118, u119, u120, u121, u122, u123, u124, u125, u126, u127, u128, u129, u130, u131, u132, u133, u134, u135], defers := [] } ∧ QA W5 V 33 d y Wn) ?rc5 ?sc5 ?fc5
      case rc5 => exact fun d hd => ⟨(upd (upd (upd (upd (upd (upd (upd (upd (upd (upd (upd (upd (upd (upd (upd (upd (upd (upd (upd (upd (upd (upd (upd (upd (upd (upd (upd (upd (upd (upd (upd (upd (upd (fun _ => undef) 0 (u82)) 1 (u83)) 2 (u84)) 3 (u85)) 4 (u86)) 5 (u87)) 6 (u88)) 7 (u89)) 8 (u90)) 9 (u91)) 10 (u92)) 11 (u93)) 12 (u94)) 13 (u95)) 14 (u96)) 15 (u97)) 16 (u98)) 17 (u99)) 18 (u100)) 19 (u101)) 20 (u102)) 21 (u103)) 22 (u104)) 23 (u105)) 24 (u106)) 25 (u107)) 26 (u108)) 27 (u109)) 28 (u110)) 29 (u111)) 30 (u112)) 31 (u113)) 32 (u114)), rfl, QA.start (fun i hi => hd i hi)⟩
      case sc5 =>
       rintro ix oi hop d act Wt ⟨y, rfl, hR⟩ hSi hdep
       have hix : ix < 33 := (Array.getElem?_eq_some_iff.1 hop).1
       have HQ := Lib.hid hR
       have HD := Lib.hid hdep
       clear hR hdep hSi
       obtain rfl | rfl | rfl | rfl | rfl | rfl | rfl | rfl | rfl | rfl | rfl | rfl | rfl | rfl | rfl | rfl | rfl | rfl | rfl | rfl | rfl | rfl | rfl | rfl | rfl | rfl | rfl | rfl | rfl | rfl | rfl | rfl | rfl : ix = 0 ∨ ix = 1 ∨ ix = 2 ∨ ix = 3 ∨ ix = 4 ∨ ix = 5 ∨ ix = 6 ∨ ix = 7 ∨ ix = 8 ∨ ix = 9 ∨ ix = 10 ∨ ix = 11 ∨ ix = 12 ∨ ix = 13 ∨ ix = 14 ∨ ix = 15 ∨ ix = 16 ∨ ix = 17 ∨ ix = 18 ∨ ix = 19 ∨ ix = 20 ∨ ix = 21 ∨ ix = 22 ∨ ix = 23 ∨ ix = 24 ∨ ix = 25 ∨ ix = 26 ∨ ix = 27 ∨ ix = 28 ∨ ix = 29 ∨ ix = 30 ∨ ix = 31 ∨ ix = 32 := by omega
       all_goals (have hoo := hop; obtain rfl := Option.some.inj hop)
       ·refine oW hoo (by kernel_rfl) fun K hK => ?_
        obtain ⟨c0, c1, c2, c3, c4⟩ := (HS5.out.step HQ.out.bu).facts
        refine wV (v := .agg #[.slice (some ⟨g, off, none⟩) N cap, .int .i64 last, .int .i64 done, .slice (some ⟨gp, op, none⟩) M cap2, .bool em]) (fun _ _ => trivial) (by go_simp) ?_
        exact hK _ _ ⟨upd y 0 (V 0), by rw [vv0.out]; kernel_rfl, HQ.out.pure (i := 0) (by omega)⟩
       ·exact oW hoo (by kernel_rfl) fun K hK => wV (v := .pointer (some ⟨X, 1, none⟩)) (fun _ _ => trivial) (by go_simp) (hK _ _ ⟨upd y 1 (V 1), by rw [vv1.out]; kernel_rfl, HQ.out.pure (i := 1) (by omega)⟩)
       ·have e1 := (HQ.out.val 1 (by omega) (HD.out ⟨1, .data⟩ (by simp) rfl)).trans vv1.out
        refine oW hoo (by kernel_rfl) fun K hK => ?_
        have hx5 := (HQ.out.bu.block X (blk_lt HX5.out)).trans HX5.out
        have l0 := cB hx5 0
        have l1 := cB hx5 1
        have l2 := cB hx5 2
        refine wV (v := .int .i64 p2) (fun _ _ => trivial) (by go_simp) ?_
        exact hK _ _ ⟨upd y 2 (V 2), by rw [vv2.out]; kernel_rfl, HQ.out.pure (i := 2) (by omega)⟩
       ·have e0 := (HQ.out.val 0 (by omega) (HD.out ⟨0, .data⟩ (by simp) rfl)).trans vv0.out
        have e2 := (HQ.out.val 2 (by omega) (HD.out ⟨2, .data⟩ (by simp) rfl)).trans vv2.out
        refine oW hoo (by kernel_rfl) fun K hK => ?_
        refine wpIn_det (v := .bool true) (by go_simp) (is_at (some ⟨g, off, none⟩) (some ⟨gp, op, none⟩) N cap M cap2 last done em p2 HB1.out.1 HB1.out.2 _) fun Wn hb => ?_
        exact hK _ _ ⟨upd y 3 (V 3), by rw [vv3.out]; kernel_rfl, (HQ.out.walk hb).pure (i := 3) (by omega)⟩
       ·have e3 := (HQ.out.val 3 (by omega) (HD.out ⟨3, .data⟩ (by simp) rfl)).trans vv3.out
        exact oW hoo (by kernel_rfl) fun K hK => wV (v := .bool false) (fun _ _ => trivial) (by go_simp) (hK _ _ ⟨upd y 4 (V 4), by rw [vv4.out]; kernel_rfl, HQ.out.pure (i := 4) (by omega)⟩)
       ·have e4 := (HQ.out.val 4 (by omega) (HD.out ⟨4, .data⟩ (by simp) rfl)).trans vv4.out
        exact oW hoo (by kernel_rfl) fun K hK => wV (v := .bool false) (fun _ _ => trivial) (by go_simp) (hK _ _ ⟨upd y 5 (V 5), by rw [vv5.out]; kernel_rfl, HQ.out.pure (i := 5) (by omega)⟩)
       ·have e5 := (HQ.out.val 5 (by omega) (HD.out ⟨5, .guard⟩ (by simp) rfl)).trans vv5.out
        refine oW hoo (by rw [e5]; kernel_rfl) fun K hK => ?_
        obtain ⟨c0, c1, c2, c3, c4⟩ := (HS5.out.step HQ.out.bu).facts
        refine wV (v := .agg #[.slice (some ⟨g, off, none⟩) N cap, .int .i64 last, .int .i64 done, .slice (some ⟨gp, op, none⟩) M cap2, .bool em]) (fun _ _ => trivial) (by go_simp) ?_
        exact hK _ _ ⟨upd y 6 (V 6), by rw [vv6.out]; kernel_rfl, HQ.out.pure (i := 6) (by omega)⟩
       ·have e5 := (HQ.out.val 5 (by omega) (HD.out ⟨5, .guard⟩ (by simp) rfl)).trans vv5.out
        exact oW hoo (by rw [e5]; kernel_rfl) fun K hK => wV (v := .pointer (some ⟨X, 2, none⟩)) (fun _ _ => trivial) (by go_simp) (hK _ _ ⟨upd y 7 (V 7), by rw [vv7.out]; kernel_rfl, HQ.out.pure (i := 7) (by omega)⟩)
       ·have e7 := (HQ.out.val 7 (by omega) (HD.out ⟨7, .data⟩ (by simp) rfl)).trans vv7.out
        have e5 := (HQ.out.val 5 (by omega) (HD.out ⟨5, .guard⟩ (by simp) rfl)).trans vv5.out
        refine oW hoo (by rw [e5]; kernel_rfl) fun K hK => ?_
        have hx5 := (HQ.out.bu.block X (blk_lt HX5.out)).trans HX5.out
        have l0 := cB hx5 0
        have l1 := cB hx5 1
        have l2 := cB hx5 2
        refine wV (v := .int .i64 p3) (fun _ _ => trivial) (by go_simp) ?_
        exact hK _ _ ⟨upd y 8 (V 8), by rw [vv8.out]; kernel_rfl, HQ.out.pure (i := 8) (by omega)⟩
       ·have e6 := (HQ.out.val 6 (by omega) (HD.out ⟨6, .data⟩ (by simp) rfl)).trans vv6.out
        have e8 := (HQ.out.val 8 (by omega) (HD.out ⟨8, .data⟩ (by simp) rfl)).trans vv8.out
        have e5 := (HQ.out.val 5 (by omega) (HD.out ⟨5, .guard⟩ (by simp) rfl)).trans vv5.out
        refine oW hoo (by rw [e5]; kernel_rfl) fun K hK => ?_
        refine wpIn_det (v := .bool true) (by go_simp) (is_at (some ⟨g, off, none⟩) (some ⟨gp, op, none⟩) N cap M cap2 last done em p3 HB2.out.1 HB2.out.2 _) fun Wn hb => ?_
        exact hK _ _ ⟨upd y 9 (V 9), by rw [vv9.out]; kernel_rfl, (HQ.out.walk hb).pure (i := 9) (by omega)⟩
       ·have e9 := (HQ.out.val 9 (by omega) (HD.out ⟨9, .data⟩ (by simp) rfl)).trans vv9.out
        have e5 := (HQ.out.val 5 (by omega) (HD.out ⟨5, .guard⟩ (by simp) rfl)).trans vv5.out
        exact oW hoo (by rw [e5]; kernel_rfl) fun K hK => wV (v := .bool false) (fun _ _ => trivial) (by go_simp) (hK _ _ ⟨upd y 10 (V 10), by rw [vv10.out]; kernel_rfl, HQ.out.pure (i := 10) (by omega)⟩)
       ·have e5 := (HQ.out.val 5 (by omega) (HD.out ⟨5, .data⟩ (by simp) rfl)).trans vv5.out
        have e10 := (HQ.out.val 10 (by omega) (HD.out ⟨10, .data⟩ (by simp) rfl)).trans vv10.out
        exact oW hoo (by kernel_rfl) fun K hK => wV (v := .bool false) (fun _ _ => trivial) (by go_simp) (hK _ _ ⟨upd y 11 (V 11), by rw [vv11.out]; kernel_rfl, HQ.out.pure (i := 11) (by omega)⟩)
       ·have e11 := (HQ.out.val 11 (by omega) (HD.out ⟨11, .data⟩ (by simp) rfl)).trans vv11.out
        exact oW hoo (by kernel_rfl) fun K hK => wV (v := .bool false) (fun _ _ => trivial) (by go_simp) (hK _ _ ⟨upd y 12 (V 12), by rw [vv12.out]; kernel_rfl, HQ.out.pure (i := 12) (by omega)⟩)
       ·have e12 := (HQ.out.val 12 (by omega) (HD.out ⟨12, .guard⟩ (by simp) rfl)).trans vv12.out
        exact oW hoo (by rw [e12]; kernel_rfl) fun K hK => wV (v := .pointer (some ⟨X, 0, none⟩)) (fun _ _ => trivial) (by go_simp) (hK _ _ ⟨upd y 13 (V 13), by rw [vv13.out]; kernel_rfl, HQ.out.pure (i := 13) (by omega)⟩)
       ·have e13 := (HQ.out.val 13 (by omega) (HD.out ⟨13, .data⟩ (by simp) rfl)).trans vv13.out
        have e12 := (HQ.out.val 12 (by omega) (HD.out ⟨12, .guard⟩ (by simp) rfl)).trans vv12.out
        refine oW hoo (by rw [e12]; kernel_rfl) fun K hK => ?_
        have hx5 := (HQ.out.bu.block X (blk_lt HX5.out)).trans HX5.out
        have l0 := cB hx5 0
        have l1 := cB hx5 1
        have l2 := cB hx5 2
        refine wV (v := .int .i64 p1) (fun _ _ => trivial) (by go_simp) ?_
        exact hK _ _ ⟨upd y 14 (V 14), by rw [vv14.out]; kernel_rfl, HQ.out.pure (i := 14) (by omega)⟩
       ·have e14 := (HQ.out.val 14 (by omega) (HD.out ⟨14, .data⟩ (by simp) rfl)).trans vv14.out
        have e12 := (HQ.out.val 12 (by omega) (HD.out ⟨12, .guard⟩ (by simp) rfl)).trans vv12.out
        refine oW hoo (by rw [e12]; kernel_rfl) fun K hK => ?_
        have tp : decide (p1 < 0) = false := HB3.out
        refine wV (v := .bool false) (fun _ _ => trivial) (by go_simp) ?_
        exact hK _ _ ⟨upd y 15 (V 15), by rw [vv15.out]; kernel_rfl, HQ.out.pure (i := 15) (by omega)⟩
       ·have e12 := (HQ.out.val 12 (by omega) (HD.out ⟨12, .data⟩ (by simp) rfl)).trans vv12.out
        have e15 := (HQ.out.val 15 (by omega) (HD.out ⟨15, .data⟩ (by simp) rfl)).trans vv15.out
        exact oW hoo (by kernel_rfl) fun K hK => wV (v := .bool false) (fun _ _ => trivial) (by go_simp) (hK _ _ ⟨upd y 16 (V 16), by rw [vv16.out]; kernel_rfl, HQ.out.pure (i := 16) (by omega)⟩)
       ·have e16 := (HQ.out.val 16 (by omega) (HD.out ⟨16, .data⟩ (by simp) rfl)).trans vv16.out
        exact oW hoo (by kernel_rfl) fun K hK => wV (v := .bool false) (fun _ _ => trivial) (by go_simp) (hK _ _ ⟨upd y 17 (V 17), by rw [vv17.out]; kernel_rfl, HQ.out.pure (i := 17) (by omega)⟩)
       ·have e17 := (HQ.out.val 17 (by omega) (HD.out ⟨17, .guard⟩ (by simp) rfl)).trans vv17.out
        exact oW hoo (by rw [e17]; kernel_rfl) fun K hK => wV (v := .int .i64 ↑i) (fun _ _ => trivial) (by go_simp) (hK _ _ ⟨upd y 18 (V 18), by rw [vv18.out]; kernel_rfl, HQ.out.pure (i := 18) (by omega)⟩)
       ·have e18 := (HQ.out.val 18 (by omega) (HD.out ⟨18, .data⟩ (by simp) rfl)).trans vv18.out
        have e17 := (HQ.out.val 17 (by omega) (HD.out ⟨17, .guard⟩ (by simp) rfl)).trans vv17.out
        refine oW hoo (by rw [e17]; kernel_rfl) fun K hK => ?_
        have tk : decide ((0 : Int) < (i : Int)) = true := HB4.out.1
        have tk2 : decide (0 < i) = true := HB4.out.2
        refine wV (v := .bool true) (fun _ _ => trivial) (by go_simp) ?_
        exact hK _ _ ⟨upd y 19 (V 19), by rw [vv19.out]; kernel_rfl, HQ.out.pure (i := 19) (by omega)⟩
       ·have e19 := (HQ.out.val 19 (by omega) (HD.out ⟨19, .data⟩ (by simp) rfl)).trans vv19.out
        have e17 := (HQ.out.val 17 (by omega) (HD.out ⟨17, .guard⟩ (by simp) rfl)).trans vv17.out
        exact oW hoo (by rw [e17]; kernel_rfl) fun K hK => wV (v := .bool true) (fun _ _ => trivial) (by go_simp) (hK _ _ ⟨upd y 20 (V 20), by rw [vv20.out]; kernel_rfl, HQ.out.pure (i := 20) (by omega)⟩)
       ·have e20 := (HQ.out.val 20 (by omega) (HD.out ⟨20, .guard⟩ (by simp) rfl)).trans vv20.out
        exact oW hoo (by rw [e20]; kernel_rfl) fun K hK => wV (v := .pointer (some ⟨X, 0, none⟩)) (fun _ _ => trivial) (by go_simp) (hK _ _ ⟨upd y 21 (V 21), by rw [vv21.out]; kernel_rfl, HQ.out.pure (i := 21) (by omega)⟩)
       ·have e21 := (HQ.out.val 21 (by omega) (HD.out ⟨21, .data⟩ (by simp) rfl)).trans vv21.out
        have e20 := (HQ.out.val 20 (by omega) (HD.out ⟨20, .guard⟩ (by simp) rfl)).trans vv20.out
        refine oW hoo (by rw [e20]; kernel_rfl) fun K hK => ?_
        have hx5 := (HQ.out.bu.block X (blk_lt HX5.out)).trans HX5.out
        have l0 := cB hx5 0
        have l1 := cB hx5 1
        have l2 := cB hx5 2
        refine wV (v := .int .i64 p1) (fun _ _ => trivial) (by go_simp) ?_
        exact hK _ _ ⟨upd y 22 (V 22), by rw [vv22.out]; kernel_rfl, HQ.out.pure (i := 22) (by omega)⟩
       ·have e20 := (HQ.out.val 20 (by omega) (HD.out ⟨20, .guard⟩ (by simp) rfl)).trans vv20.out
        exact oW hoo (by rw [e20]; kernel_rfl) fun K hK => wV (v := .pointer (some ⟨w.heap.size, 3, none⟩)) (fun _ _ => trivial) (by go_simp) (hK _ _ ⟨upd y 23 (V 23), by rw [vv23.out]; kernel_rfl, HQ.out.pure (i := 23) (by omega)⟩)
       ·have e23 := (HQ.out.val 23 (by omega) (HD.out ⟨23, .data⟩ (by simp) rfl)).trans vv23.out
        have e20 := (HQ.out.val 20 (by omega) (HD.out ⟨20, .guard⟩ (by simp) rfl)).trans vv20.out
        refine oW hoo (by rw [e20]; kernel_rfl) fun K hK => ?_
        obtain ⟨c0, c1, c2, c3, c4⟩ := (HS5.out.step HQ.out.bu).facts
        refine wV (v := .slice (some ⟨gp, op, none⟩) M cap2) (fun _ _ => trivial) (by go_simp) ?_
        exact hK _ _ ⟨upd y 24 (V 24), by rw [vv24.out]; kernel_rfl, HQ.out.pure (i := 24) (by omega)⟩
       ·have e20 := (HQ.out.val 20 (by omega) (HD.out ⟨20, .guard⟩ (by simp) rfl)).trans vv20.out
        exact oW hoo (by rw [e20]; kernel_rfl) fun K hK => wV (v := .int .i64 ↑i) (fun _ _ => trivial) (by go_simp) (hK _ _ ⟨upd y 25 (V 25), by rw [vv25.out]; kernel_rfl, HQ.out.pure (i := 25) (by omega)⟩)
       ·have e25 := (HQ.out.val 25 (by omega) (HD.out ⟨25, .data⟩ (by simp) rfl)).trans vv25.out
        have e20 := (HQ.out.val 20 (by omega) (HD.out ⟨20, .guard⟩ (by simp) rfl)).trans vv20.out
        exact oW hoo (by rw [e20]; kernel_rfl) fun K hK => wV (v := .int .i64 j) (fun _ _ => trivial) (by go_simp; exact HWJ.out) (hK _ _ ⟨upd y 26 (V 26), by rw [vv26.out]; kernel_rfl, HQ.out.pure (i := 26) (by omega)⟩)
       ·have e24 := (HQ.out.val 24 (by omega) (HD.out ⟨24, .data⟩ (by simp) rfl)).trans vv24.out
        have e26 := (HQ.out.val 26 (by omega) (HD.out ⟨26, .data⟩ (by simp) rfl)).trans vv26.out
        have e20 := (HQ.out.val 20 (by omega) (HD.out ⟨20, .guard⟩ (by simp) rfl)).trans vv20.out
        refine oW hoo (by rw [e20]; kernel_rfl) fun K hK => ?_
        have bj : (j : Int) < (M : Int) := HBJ.out.1
        have bj2 : j < M := HBJ.out.2
        refine wV (v := .pointer (some ⟨gp, op + j * 3, none⟩)) (fun _ _ => trivial) (by go_simp) ?_
        exact hK _ _ ⟨upd y 27 (V 27), by rw [vv27.out]; kernel_rfl, HQ.out.pure (i := 27) (by omega)⟩
       ·have e27 := (HQ.out.val 27 (by omega) (HD.out ⟨27, .data⟩ (by simp) rfl)).trans vv27.out
        have e20 := (HQ.out.val 20 (by omega) (HD.out ⟨20, .guard⟩ (by simp) rfl)).trans vv20.out
        exact oW hoo (by rw [e20]; kernel_rfl) fun K hK => wV (v := .pointer (some ⟨gp, op + j * 3, none⟩)) (fun _ _ => trivial) (by go_simp) (hK _ _ ⟨upd y 28 (V 28), by rw [vv28.out]; kernel_rfl, HQ.out.pure (i := 28) (by omega)⟩)
       ·have e28 := (HQ.out.val 28 (by omega) (HD.out ⟨28, .data⟩ (by simp) rfl)).trans vv28.out
        have e20 := (HQ.out.val 20 (by omega) (HD.out ⟨20, .guard⟩ (by simp) rfl)).trans vv20.out
        refine oW hoo (by rw [e20]; kernel_rfl) fun K hK => ?_
        have z0 := ((HS5.out.step HQ.out.bu).below.cell (p := ⟨gp, op + j * 3, none⟩) HGP.out).trans HPV.out
        refine wV (v := .int .i64 q1) (fun _ _ => trivial) (by go_simp) ?_
        exact hK _ _ ⟨upd y 29 (V 29), by rw [vv29.out]; kernel_rfl, HQ.out.pure (i := 29) (by omega)⟩
       ·have e22 := (HQ.out.val 22 (by omega) (HD.out ⟨22, .data⟩ (by simp) rfl)).trans vv22.out
        have e29 := (HQ.out.val 29 (by omega) (HD.out ⟨29, .data⟩ (by simp) rfl)).trans vv29.out
        have e20 := (HQ.out.val 20 (by omega) (HD.out ⟨20, .guard⟩ (by simp) rfl)).trans vv20.out
        refine oW hoo (by rw [e20]; kernel_rfl) fun K hK => ?_
        have tq : decide (p1 ≤ q1) = true := HB5.out
        refine wV (v := .bool true) (fun _ _ => trivial) (by go_simp) ?_
        exact hK _ _ ⟨upd y 30 (V 30), by rw [vv30.out]; kernel_rfl, HQ.out.pure (i := 30) (by omega)⟩
       ·have e20 := (HQ.out.val 20 (by omega) (HD.out ⟨20, .data⟩ (by simp) rfl)).trans vv20.out
        have e30 := (HQ.out.val 30 (by omega) (HD.out ⟨30, .data⟩ (by simp) rfl)).trans vv30.out
        have e17 := (HQ.out.val 17 (by omega) (HD.out ⟨17, .guard⟩ (by simp) rfl)).trans vv17.out
        exact oW hoo (by rw [e17]; kernel_rfl) fun K hK => wV (v := .bool true) (fun _ _ => trivial) (by go_simp) (hK _ _ ⟨upd y 31 (V 31), by rw [vv31.out]; kernel_rfl, HQ.out.pure (i := 31) (by omega)⟩)
       ·have e17 := (HQ.out.val 17 (by omega) (HD.out ⟨17, .data⟩ (by simp) rfl)).trans vv17.out
        have e31 := (HQ.out.val 31 (by omega) (HD.out ⟨31, .data⟩ (by simp) rfl)).trans vv31.out
        exact oW hoo (by kernel_rfl) fun K hK => wV (v := .bool true) (fun _ _ => trivial) (by go_simp) (hK _ _ ⟨upd y 32 (V 32), by rw [vv32.out]; kernel_rfl, HQ.out.pure (i := 32) (by omega)⟩)
      case fc5 =>
       rintro d act Wt ⟨y, rfl, hR⟩ hall
       have q32 : y 32 = .bool true := (hR.val 32 (by omega) (hall 32 (by decide))).trans vv32.out
       rw [q32]
       have HSE := Lib.hid (HS5.out.step hR.bu)
       clear hR hall
       subst e
       try dsimp only
       go_wp2_with fail
       go_ret
       exact ⟨rfl, HSE.out.below⟩
     have HB5 : Hid (decide (p1 ≤ q1) = false) := Lib.hid (decide_eq_false hb5)
     clear hb5
     obtain ⟨V, hV⟩ : ∃ V : Nat → Value, V = fun vv => ([.agg #[.slice (some ⟨g, off, none⟩) N cap, .int .i64 last, .int .i64 done, .slice (some ⟨gp, op, none⟩) M cap2, .bool em], .pointer (some ⟨X, 1, none⟩), .int .i64 p2, .bool true, .bool false, .bool false, .agg #[.slice (some ⟨g, off, none⟩) N cap, .int .i64 last, .int .i64 done, .slice (some ⟨gp, op, none⟩) M cap2, .bool em], .pointer (some ⟨X, 2, none⟩), .int .i64 p3, .bool true, .bool false, .bool false, .bool false, .pointer (some ⟨X, 0, none⟩), .int .i64 p1, .bool false, .bool false, .bool false, .int .i64 ↑i, .bool true, .bool true, .pointer (some ⟨X, 0, none⟩), .int .i64 p1, .pointer (some ⟨w.heap.size, 3, none⟩), .slice (some ⟨gp, op, none⟩) M cap2, .int .i64 ↑i, .int .i64 j, .pointer (some ⟨gp, op + j * 3, none⟩), .pointer (some ⟨gp, op + j * 3, none⟩), .int .i64 q1, .bool false, .bool false, .bool false] : List Value).getD vv undef := ⟨_, rfl⟩
     have vv0 : Hid (V 0 = .agg #[.slice (some ⟨g, off, none⟩) N cap, .int .i64 last, .int .i64 done, .slice (some ⟨gp, op, none⟩) M cap2, .bool em]) := Lib.hid (by rw [hV]; rfl)
     have vv1 : Hid (V 1 = .pointer (some ⟨X, 1, none⟩)) := Lib.hid (by rw [hV]; rfl)
     have vv2 : Hid (V 2 = .int .i64 p2) := Lib.hid (by rw [hV]; rfl)
     have vv3 : Hid (V 3 = .bool true) := Lib.hid (by rw [hV]; rfl)
     have vv4 : Hid (V 4 = .bool false) := Lib.hid (by rw [hV]; rfl)
     have vv5 : Hid (V 5 = .bool false) := Lib.hid (by rw [hV]; rfl)
     have vv6 : Hid (V 6 = .agg #[.slice (some ⟨g, off, none⟩) N cap, .int .i64 last, .int .i64 done, .slice (some ⟨gp, op, none⟩) M cap2, .bool em]) := Lib.hid (by rw [hV]; rfl)
     have vv7 : Hid (V 7 = .pointer (some ⟨X, 2, none⟩)) := Lib.hid (by rw [hV]; rfl)
     have vv8 : Hid (V 8 = .int .i64 p3) := Lib.hid (by rw [hV]; rfl)
     have vv9 : Hid (V 9 = .bool true) := Lib.hid (by rw [hV]; rfl)
     have vv10 : Hid (V 10 = .bool false) := Lib.hid (by rw [hV]; rfl)
     have vv11 : Hid (V 11 = .bool false) := Lib.hid (by rw [hV]; rfl)
     have vv12 : Hid (V 12 = .bool false) := Lib.hid (by rw [hV]; rfl)
     have vv13 : Hid (V 13 = .pointer (some ⟨X, 0, none⟩)) := Lib.hid (by rw [hV]; rfl)
     have vv14 : Hid (V 14 = .int .i64 p1) := Lib.hid (by rw [hV]; rfl)
     have vv15 : Hid (V 15 = .bool false) := Lib.hid (by rw [hV]; rfl)
     have vv16 : Hid (V 16 = .bool false) := Lib.hid (by rw [hV]; rfl)
     have vv17 : Hid (V 17 = .bool false) := Lib.hid (by rw [hV]; rfl)
     have vv18 : Hid (V 18 = .int .i64 ↑i) := Lib.hid (by rw [hV]; rfl)
     have vv19 : Hid (V 19 = .bool true) := Lib.hid (by rw [hV]; rfl)
     have vv20 : Hid (V 20 = .bool true) := Lib.hid (by rw [hV]; rfl)
     have vv21 : Hid (V 21 = .pointer (some ⟨X, 0, none⟩)) := Lib.hid (by rw [hV]; rfl)
     have vv22 : Hid (V 22 = .int .i64 p1) := Lib.hid (by rw [hV]; rfl)
     have vv23 : Hid (V 23 = .pointer (some ⟨w.heap.size, 3, none⟩)) := Lib.hid (by rw [hV]; rfl)
     have vv24 : Hid (V 24 = .slice (some ⟨gp, op, none⟩) M cap2) := Lib.hid (by rw [hV]; rfl)
     have vv25 : Hid (V 25 = .int .i64 ↑i) := Lib.hid (by rw [hV]; rfl)
     have vv26 : Hid (V 26 = .int .i64 j) := Lib.hid (by rw [hV]; rfl)
     have vv27 : Hid (V 27 = .pointer (some ⟨gp, op + j * 3, none⟩)) := Lib.hid (by rw [hV]; rfl)
     have vv28 : Hid (V 28 = .pointer (some ⟨gp, op + j * 3, none⟩)) := Lib.hid (by rw [hV]; rfl)
     have vv29 : Hid (V 29 = .int .i64 q1) := Lib.hid (by rw [hV]; rfl)
     have vv30 : Hid (V 30 = .bool false) := Lib.hid (by rw [hV]; rfl)
     have vv31 : Hid (V 31 = .bool false) := Lib.hid (by rw [hV]; rfl)
     have vv32 : Hid (V 32 = .bool false) := Lib.hid (by rw [hV]; rfl)
     clear hV
     refine (wpIn_wide (n := 20)).1 ?_
     refine wpIn_region_inv (by kernel_rfl) (back_of (by kernel_rfl)) (fun d act Wn => ∃ y : Nat → Value, act = { tmps := #[.agg #[.slice (some ⟨g, off, none⟩) N cap, .int .i64 last, .int .i64 done, .slice (some ⟨gp, op, none⟩) M cap2, .bool em], .pointer (some ⟨w.heap.size, 0, none⟩), u2, .pointer (some ⟨XF, 0, none⟩), u4, u5, .int .i64 ↑i, .pointer (some ⟨X, 0, none⟩), .pointer (some ⟨w.heap.size, 0, none⟩), .slice (some ⟨g, off, none⟩) N cap, .int .i64 ↑N, .bool false, .bool false, .pointer (some ⟨w.heap.size, 0, none⟩), .slice (some ⟨g, off, none⟩) N cap, .int .i64 ↑N, .bool false, .bool false, .bool false, .agg #[.slice (some ⟨g, off, none⟩) N cap, .int .i64 last, .int .i64 done, .slice (some ⟨gp, op, none⟩) M cap2, .bool em], .pointer (some ⟨w.heap.size, 1, none⟩), .int .i64 last, .bool true, .bool false, .bool false, .bool false, .agg #[.slice (some ⟨g, off, none⟩) N cap, .int .i64 last, .int .i64 done, .slice (some ⟨gp, op, none⟩) M cap2, .bool em], .pointer (some ⟨w.heap.size, 2, none⟩), .int .i64 done, .bool true, .bool false, .bool false, .pointer (some ⟨w.heap.size, 0, none⟩), .slice (some ⟨g, off, none⟩) N cap, .pointer (some ⟨g, off, none⟩), .agg #[.int .i64 0, .int .i64 (-1), .int .i64 v2], .pointer (some ⟨XF, 0, none⟩), .pointer (some ⟨XF, 0, none⟩), .int .i64 0, .bool false, .bool false, .pointer (some ⟨XF, 0, none⟩), .pointer (some ⟨XF, 1, none⟩), .int .i64 (-1), .bool false, .bool false, .pointer (some ⟨w.heap.size, 0, none⟩), .slice (some ⟨g, off, none⟩) N cap, .int .i64 ↑N, .int .i64 ↑k, .bool false, u51, u52, u53, u54, u55, u56, u57, u58, u59, u60, u61, u62, u63, u64, u65, u66, u67, u68, u69, u70, u71, u72, u73, .pointer (some ⟨w.heap.size, 3, none⟩), .slice (some ⟨gp, op, none⟩) M cap2, .int .i64 ↑M, .int .i64 ↑i, .bool true, .int .i64 ↑i, .pointer (some ⟨gp, op + i * 3, none⟩), .agg #[.int .i64 p1, .int .i64 p2, .int .i64 p3], y 0, y 1, y 2, y 3, y 4, y 5, y 6, y 7, y 8, y 9, y 10, y 11, y 12, y 13, y 14, y 15, y 16, y 17, y 18, y 19, y 20, y 21, y 22, y 23, y 24, y 25, y 26, y 27, y 28, y 29, y 30, y 31, y 32, u115, u116, u117, u118, u119, u120, u121, u122, u123, u124, u125, u126, u127, u128, u129, u130, u131, u132, u133, u134, u135], defers := [] } ∧ QA W5 V 33 d y Wn) ?rc6 ?sc6 ?fc6
     case rc6 => exact fun d hd => ⟨(upd (upd (upd (upd (upd (upd (upd (upd (upd (upd (upd (upd (upd (upd (upd (upd (upd (upd (upd (upd (upd (upd (upd (upd (upd (upd (upd (upd (upd (upd (upd (upd (upd (fun _ => undef) 0 (u82)) 1 (u83)) 2 (u84)) 3 (u85)) 4 (u86)) 5 (u87)) 6 (u88)) 7 (u89)) 8 (u90)) 9 (u91)) 10 (u92)) 11 (u93)) 12 (u94)) 13 (u95)) 14 (u96)) 15 (u97)) 16 (u98)) 17 (u99)) 18 (u100)) 19 (u101)) 20 (u102)) 21 (u103)) 22 (u104)) 23 (u105)) 24 (u106)) 25 (u107)) 26 (u108)) 27 (u109)) 28 (u110)) 29 (u111)) 30 (u112)) 31 (u113)) 32 (u114)), rfl, QA.start (fun i hi => hd i hi)⟩
     case sc6 =>
      rintro ix oi hop d act Wt ⟨y, rfl, hR⟩ hSi hdep
      have hix : ix < 33 := (Array.getElem?_eq_some_iff.1 hop).1
      have HQ := Lib.hid hR
      have HD := Lib.hid hdep
      clear hR hdep hSi
      obtain rfl | rfl | rfl | rfl | rfl | rfl | rfl | rfl | rfl | rfl | rfl | rfl | rfl | rfl | rfl | rfl | rfl | rfl | rfl | rfl | rfl | rfl | rfl | rfl | rfl | rfl | rfl | rfl | rfl | rfl | rfl | rfl | rfl : ix = 0 ∨ ix = 1 ∨ ix = 2 ∨ ix = 3 ∨ ix = 4 ∨ ix = 5 ∨ ix = 6 ∨ ix = 7 ∨ ix = 8 ∨ ix = 9 ∨ ix = 10 ∨ ix = 11 ∨ ix = 12 ∨ ix = 13 ∨ ix = 14 ∨ ix = 15 ∨ ix = 16 ∨ ix = 17 ∨ ix = 18 ∨ ix = 19 ∨ ix = 20 ∨ ix = 21 ∨ ix = 22 ∨ ix = 23 ∨ ix = 24 ∨ ix = 25 ∨ ix = 26 ∨ ix = 27 ∨ ix = 28 ∨ ix = 29 ∨ ix = 30 ∨ ix = 31 ∨ ix = 32 := by omega
      all_goals (have hoo := hop; obtain rfl := Option.some.inj hop)
      ·refine oW hoo (by kernel_rfl) fun K hK => ?_
       obtain ⟨c0, c1, c2, c3, c4⟩ := (HS5.out.step HQ.out.bu).facts
       refine wV (v := .agg #[.slice (some ⟨g, off, none⟩) N cap, .int .i64 last, .int .i64 done, .slice (some ⟨gp, op, none⟩) M cap2, .bool em]) (fun _ _ => trivial) (by go_simp) ?_
       exact hK _ _ ⟨upd y 0 (V 0), by rw [vv0.out]; kernel_rfl, HQ.out.pure (i := 0) (by omega)⟩
      ·exact oW hoo (by kernel_rfl) fun K hK => wV (v := .pointer (some ⟨X, 1, none⟩)) (fun _ _ => trivial) (by go_simp) (hK _ _ ⟨upd y 1 (V 1), by rw [vv1.out]; kernel_rfl, HQ.out.pure (i := 1) (by omega)⟩)
      ·have e1 := (HQ.out.val 1 (by omega) (HD.out ⟨1, .data⟩ (by simp) rfl)).trans vv1.out
       refine oW hoo (by kernel_rfl) fun K hK => ?_
       have hx5 := (HQ.out.bu.block X (blk_lt HX5.out)).trans HX5.out
       have l0 := cB hx5 0
       have l1 := cB hx5 1
       have l2 := cB hx5 2
       refine wV (v := .int .i64 p2) (fun _ _ => trivial) (by go_simp) ?_
       exact hK _ _ ⟨upd y 2 (V 2), by rw [vv2.out]; kernel_rfl, HQ.out.pure (i := 2) (by omega)⟩
      ·have e0 := (HQ.out.val 0 (by omega) (HD.out ⟨0, .data⟩ (by simp) rfl)).trans vv0.out
       have e2 := (HQ.out.val 2 (by omega) (HD.out ⟨2, .data⟩ (by simp) rfl)).trans vv2.out
       refine oW hoo (by kernel_rfl) fun K hK => ?_
       refine wpIn_det (v := .bool true) (by go_simp) (is_at (some ⟨g, off, none⟩) (some ⟨gp, op, none⟩) N cap M cap2 last done em p2 HB1.out.1 HB1.out.2 _) fun Wn hb => ?_
       exact hK _ _ ⟨upd y 3 (V 3), by rw [vv3.out]; kernel_rfl, (HQ.out.walk hb).pure (i := 3) (by omega)⟩
      ·have e3 := (HQ.out.val 3 (by omega) (HD.out ⟨3, .data⟩ (by simp) rfl)).trans vv3.out
       exact oW hoo (by kernel_rfl) fun K hK => wV (v := .bool false) (fun _ _ => trivial) (by go_simp) (hK _ _ ⟨upd y 4 (V 4), by rw [vv4.out]; kernel_rfl, HQ.out.pure (i := 4) (by omega)⟩)
      ·have e4 := (HQ.out.val 4 (by omega) (HD.out ⟨4, .data⟩ (by simp) rfl)).trans vv4.out
       exact oW hoo (by kernel_rfl) fun K hK => wV (v := .bool false) (fun _ _ => trivial) (by go_simp) (hK _ _ ⟨upd y 5 (V 5), by rw [vv5.out]; kernel_rfl, HQ.out.pure (i := 5) (by omega)⟩)
      ·have e5 := (HQ.out.val 5 (by omega) (HD.out ⟨5, .guard⟩ (by simp) rfl)).trans vv5.out
       refine oW hoo (by rw [e5]; kernel_rfl) fun K hK => ?_
       obtain ⟨c0, c1, c2, c3, c4⟩ := (HS5.out.step HQ.out.bu).facts
       refine wV (v := .agg #[.slice (some ⟨g, off, none⟩) N cap, .int .i64 last, .int .i64 done, .slice (some ⟨gp, op, none⟩) M cap2, .bool em]) (fun _ _ => trivial) (by go_simp) ?_
       exact hK _ _ ⟨upd y 6 (V 6), by rw [vv6.out]; kernel_rfl, HQ.out.pure (i := 6) (by omega)⟩
      ·have e5 := (HQ.out.val 5 (by omega) (HD.out ⟨5, .guard⟩ (by simp) rfl)).trans vv5.out
       exact oW hoo (by rw [e5]; kernel_rfl) fun K hK => wV (v := .pointer (some ⟨X, 2, none⟩)) (fun _ _ => trivial) (by go_simp) (hK _ _ ⟨upd y 7 (V 7), by rw [vv7.out]; kernel_rfl, HQ.out.pure (i := 7) (by omega)⟩)
      ·have e7 := (HQ.out.val 7 (by omega) (HD.out ⟨7, .data⟩ (by simp) rfl)).trans vv7.out
       have e5 := (HQ.out.val 5 (by omega) (HD.out ⟨5, .guard⟩ (by simp) rfl)).trans vv5.out
       refine oW hoo (by rw [e5]; kernel_rfl) fun K hK => ?_
       have hx5 := (HQ.out.bu.block X (blk_lt HX5.out)).trans HX5.out
       have l0 := cB hx5 0
       have l1 := cB hx5 1
       have l2 := cB hx5 2
       refine wV (v := .int .i64 p3) (fun _ _ => trivial) (by go_simp) ?_
       exact hK _ _ ⟨upd y 8 (V 8), by rw [vv8.out]; kernel_rfl, HQ.out.pure (i := 8) (by omega)⟩
      ·have e6 := (HQ.out.val 6 (by omega) (HD.out ⟨6, .data⟩ (by simp) rfl)).trans vv6.out
       have e8 := (HQ.out.val 8 (by omega) (HD.out ⟨8, .data⟩ (by simp) rfl)).trans vv8.out
       have e5 := (HQ.out.val 5 (by omega) (HD.out ⟨5, .guard⟩ (by simp) rfl)).trans vv5.out
       refine oW hoo (by rw [e5]; kernel_rfl) fun K hK => ?_
       refine wpIn_det (v := .bool true) (by go_simp) (is_at (some ⟨g, off, none⟩) (some ⟨gp, op, none⟩) N cap M cap2 last done em p3 HB2.out.1 HB2.out.2 _) fun Wn hb => ?_
       exact hK _ _ ⟨upd y 9 (V 9), by rw [vv9.out]; kernel_rfl, (HQ.out.walk hb).pure (i := 9) (by omega)⟩
      ·have e9 := (HQ.out.val 9 (by omega) (HD.out ⟨9, .data⟩ (by simp) rfl)).trans vv9.out
       have e5 := (HQ.out.val 5 (by omega) (HD.out ⟨5, .guard⟩ (by simp) rfl)).trans vv5.out
       exact oW hoo (by rw [e5]; kernel_rfl) fun K hK => wV (v := .bool false) (fun _ _ => trivial) (by go_simp) (hK _ _ ⟨upd y 10 (V 10), by rw [vv10.out]; kernel_rfl, HQ.out.pure (i := 10) (by omega)⟩)
      ·have e5 := (HQ.out.val 5 (by omega) (HD.out ⟨5, .data⟩ (by simp) rfl)).trans vv5.out
       have e10 := (HQ.out.val 10 (by omega) (HD.out ⟨10, .data⟩ (by simp) rfl)).trans vv10.out
       exact oW hoo (by kernel_rfl) fun K hK => wV (v := .bool false) (fun _ _ => trivial) (by go_simp) (hK _ _ ⟨upd y 11 (V 11), by rw [vv11.out]; kernel_rfl, HQ.out.pure (i := 11) (by omega)⟩)
      ·have e11 := (HQ.out.val 11 (by omega) (HD.out ⟨11, .data⟩ (by simp) rfl)).trans vv11.out
       exact oW hoo (by kernel_rfl) fun K hK => wV (v := .bool false) (fun _ _ => trivial) (by go_simp) (hK _ _ ⟨upd y 12 (V 12), by rw [vv12.out]; kernel_rfl, HQ.out.pure (i := 12) (by omega)⟩)
      ·have e12 := (HQ.out.val 12 (by omega) (HD.out ⟨12, .guard⟩ (by simp) rfl)).trans vv12.out
       exact oW hoo (by rw [e12]; kernel_rfl) fun K hK => wV (v := .pointer (some ⟨X, 0, none⟩)) (fun _ _ => trivial) (by go_simp) (hK _ _ ⟨upd y 13 (V 13), by rw [vv13.out]; kernel_rfl, HQ.out.pure (i := 13) (by omega)⟩)
      ·have e13 := (HQ.out.val 13 (by omega) (HD.out ⟨13, .data⟩ (by simp) rfl)).trans vv13.out
       have e12 := (HQ.out.val 12 (by omega) (HD.out ⟨12, .guard⟩ (by simp) rfl)).trans vv12.out
       refine oW hoo (by rw [e12]; kernel_rfl) fun K hK => ?_
       have hx5 := (HQ.out.bu.block X (blk_lt HX5.out)).trans HX5.out
       have l0 := cB hx5 0
       have l1 := cB hx5 1
       have l2 := cB hx5 2
       refine wV (v := .int .i64 p1) (fun _ _ => trivial) (by go_simp) ?_
       exact hK _ _ ⟨upd y 14 (V 14), by rw [vv14.out]; kernel_rfl, HQ.out.pure (i := 14) (by omega)⟩
      ·have e14 := (HQ.out.val 14 (by omega) (HD.out ⟨14, .data⟩ (by simp) rfl)).trans vv14.out
       have e12 := (HQ.out.val 12 (by omega) (HD.out ⟨12, .guard⟩ (by simp) rfl)).trans vv12.out
       refine oW hoo (by rw [e12]; kernel_rfl) fun K hK => ?_
       have tp : decide (p1 < 0) = false := HB3.out
       refine wV (v := .bool false) (fun _ _ => trivial) (by go_simp) ?_
       exact hK _ _ ⟨upd y 15 (V 15), by rw [vv15.out]; kernel_rfl, HQ.out.pure (i := 15) (by omega)⟩
      ·have e12 := (HQ.out.val 12 (by omega) (HD.out ⟨12, .data⟩ (by simp) rfl)).trans vv12.out
       have e15 := (HQ.out.val 15 (by omega) (HD.out ⟨15, .data⟩ (by simp) rfl)).trans vv15.out
       exact oW hoo (by kernel_rfl) fun K hK => wV (v := .bool false) (fun _ _ => trivial) (by go_simp) (hK _ _ ⟨upd y 16 (V 16), by rw [vv16.out]; kernel_rfl, HQ.out.pure (i := 16) (by omega)⟩)
      ·have e16 := (HQ.out.val 16 (by omega) (HD.out ⟨16, .data⟩ (by simp) rfl)).trans vv16.out
       exact oW hoo (by kernel_rfl) fun K hK => wV (v := .bool false) (fun _ _ => trivial) (by go_simp) (hK _ _ ⟨upd y 17 (V 17), by rw [vv17.out]; kernel_rfl, HQ.out.pure (i := 17) (by omega)⟩)
      ·have e17 := (HQ.out.val 17 (by omega) (HD.out ⟨17, .guard⟩ (by simp) rfl)).trans vv17.out
       exact oW hoo (by rw [e17]; kernel_rfl) fun K hK => wV (v := .int .i64 ↑i) (fun _ _ => trivial) (by go_simp) (hK _ _ ⟨upd y 18 (V 18), by rw [vv18.out]; kernel_rfl, HQ.out.pure (i := 18) (by omega)⟩)
      ·have e18 := (HQ.out.val 18 (by omega) (HD.out ⟨18, .data⟩ (by simp) rfl)).trans vv18.out
       have e17 := (HQ.out.val 17 (by omega) (HD.out ⟨17, .guard⟩ (by simp) rfl)).trans vv17.out
       refine oW hoo (by rw [e17]; kernel_rfl) fun K hK => ?_
       have tk : decide ((0 : Int) < (i : Int)) = true := HB4.out.1
       have tk2 : decide (0 < i) = true := HB4.out.2
       refine wV (v := .bool true) (fun _ _ => trivial) (by go_simp) ?_
       exact hK _ _ ⟨upd y 19 (V 19), by rw [vv19.out]; kernel_rfl, HQ.out.pure (i := 19) (by omega)⟩
      ·have e19 := (HQ.out.val 19 (by omega) (HD.out ⟨19, .data⟩ (by simp) rfl)).trans vv19.out
       have e17 := (HQ.out.val 17 (by omega) (HD.out ⟨17, .guard⟩ (by simp) rfl)).trans vv17.out
       exact oW hoo (by rw [e17]; kernel_rfl) fun K hK => wV (v := .bool true) (fun _ _ => trivial) (by go_simp) (hK _ _ ⟨upd y 20 (V 20), by rw [vv20.out]; kernel_rfl, HQ.out.pure (i := 20) (by omega)⟩)
      ·have e20 := (HQ.out.val 20 (by omega) (HD.out ⟨20, .guard⟩ (by simp) rfl)).trans vv20.out
       exact oW hoo (by rw [e20]; kernel_rfl) fun K hK => wV (v := .pointer (some ⟨X, 0, none⟩)) (fun _ _ => trivial) (by go_simp) (hK _ _ ⟨upd y 21 (V 21), by rw [vv21.out]; kernel_rfl, HQ.out.pure (i := 21) (by omega)⟩)
      ·have e21 := (HQ.out.val 21 (by omega) (HD.out ⟨21, .data⟩ (by simp) rfl)).trans vv21.out
       have e20 := (HQ.out.val 20 (by omega) (HD.out ⟨20, .guard⟩ (by simp) rfl)).trans vv20.out
       refine oW hoo (by rw [e20]; kernel_rfl) fun K hK => ?_
       have hx5 := (HQ.out.bu.block X (blk_lt HX5.out)).trans HX5.out
       have l0 := cB hx5 0
       have l1 := cB hx5 1
       have l2 := cB hx5 2
       refine wV (v := .int .i64 p1) (fun _ _ => trivial) (by go_simp) ?_
       exact hK _ _ ⟨upd y 22 (V 22), by rw [vv22.out]; kernel_rfl, HQ.out.pure (i := 22) (by omega)⟩
      ·have e20 := (HQ.out.val 20 (by omega) (HD.out ⟨20, .guard⟩ (by simp) rfl)).trans vv20.out
       exact oW hoo (by rw [e20]; kernel_rfl) fun K hK => wV (v := .pointer (some ⟨w.heap.size, 3, none⟩)) (fun _ _ => trivial) (by go_simp) (hK _ _ ⟨upd y 23 (V 23), by rw [vv23.out]; kernel_rfl, HQ.out.pure (i := 23) (by omega)⟩)
      ·have e23 := (HQ.out.val 23 (by omega) (HD.out ⟨23, .data⟩ (by simp) rfl)).trans vv23.out
       have e20 := (HQ.out.val 20 (by omega) (HD.out ⟨20, .guard⟩ (by simp) rfl)).trans vv20.out
       refine oW hoo (by rw [e20]; kernel_rfl) fun K hK => ?_
       obtain ⟨c0, c1, c2, c3, c4⟩ := (HS5.out.step HQ.out.bu).facts
       refine wV (v := .slice (some ⟨gp, op, none⟩) M cap2) (fun _ _ => trivial) (by go_simp) ?_
       exact hK _ _ ⟨upd y 24 (V 24), by rw [vv24.out]; kernel_rfl, HQ.out.pure (i := 24) (by omega)⟩
      ·have e20 := (HQ.out.val 20 (by omega) (HD.out ⟨20, .guard⟩ (by simp) rfl)).trans vv20.out
       exact oW hoo (by rw [e20]; kernel_rfl) fun K hK => wV (v := .int .i64 ↑i) (fun _ _ => trivial) (by go_simp) (hK _ _ ⟨upd y 25 (V 25), by rw [vv25.out]; kernel_rfl, HQ.out.pure (i := 25) (by omega)⟩)
      ·have e25 := (HQ.out.val 25 (by omega) (HD.out ⟨25, .data⟩ (by simp) rfl)).trans vv25.out
       have e20 := (HQ.out.val 20 (by omega) (HD.out ⟨20, .guard⟩ (by simp) rfl)).trans vv20.out
       exact oW hoo (by rw [e20]; kernel_rfl) fun K hK => wV (v := .int .i64 j) (fun _ _ => trivial) (by go_simp; exact HWJ.out) (hK _ _ ⟨upd y 26 (V 26), by rw [vv26.out]; kernel_rfl, HQ.out.pure (i := 26) (by omega)⟩)
      ·have e24 := (HQ.out.val 24 (by omega) (HD.out ⟨24, .data⟩ (by simp) rfl)).trans vv24.out
       have e26 := (HQ.out.val 26 (by omega) (HD.out ⟨26, .data⟩ (by simp) rfl)).trans vv26.out
       have e20 := (HQ.out.val 20 (by omega) (HD.out ⟨20, .guard⟩ (by simp) rfl)).trans vv20.out
       refine oW hoo (by rw [e20]; kernel_rfl) fun K hK => ?_
       have bj : (j : Int) < (M : Int) := HBJ.out.1
       have bj2 : j < M := HBJ.out.2
       refine wV (v := .pointer (some ⟨gp, op + j * 3, none⟩)) (fun _ _ => trivial) (by go_simp) ?_
       exact hK _ _ ⟨upd y 27 (V 27), by rw [vv27.out]; kernel_rfl, HQ.out.pure (i := 27) (by omega)⟩
      ·have e27 := (HQ.out.val 27 (by omega) (HD.out ⟨27, .data⟩ (by simp) rfl)).trans vv27.out
       have e20 := (HQ.out.val 20 (by omega) (HD.out ⟨20, .guard⟩ (by simp) rfl)).trans vv20.out
       exact oW hoo (by rw [e20]; kernel_rfl) fun K hK => wV (v := .pointer (some ⟨gp, op + j * 3, none⟩)) (fun _ _ => trivial) (by go_simp) (hK _ _ ⟨upd y 28 (V 28), by rw [vv28.out]; kernel_rfl, HQ.out.pure (i := 28) (by omega)⟩)
      ·have e28 := (HQ.out.val 28 (by omega) (HD.out ⟨28, .data⟩ (by simp) rfl)).trans vv28.out
       have e20 := (HQ.out.val 20 (by omega) (HD.out ⟨20, .guard⟩ (by simp) rfl)).trans vv20.out
       refine oW hoo (by rw [e20]; kernel_rfl) fun K hK => ?_
       have z0 := ((HS5.out.step HQ.out.bu).below.cell (p := ⟨gp, op + j * 3, none⟩) HGP.out).trans HPV.out
       refine wV (v := .int .i64 q1) (fun _ _ => trivial) (by go_simp) ?_
       exact hK _ _ ⟨upd y 29 (V 29), by rw [vv29.out]; kernel_rfl, HQ.out.pure (i := 29) (by omega)⟩
      ·have e22 := (HQ.out.val 22 (by omega) (HD.out ⟨22, .data⟩ (by simp) rfl)).trans vv22.out
       have e29 := (HQ.out.val 29 (by omega) (HD.out ⟨29, .data⟩ (by simp) rfl)).trans vv29.out
       have e20 := (HQ.out.val 20 (by omega) (HD.out ⟨20, .guard⟩ (by simp) rfl)).trans vv20.out
       refine oW hoo (by rw [e20]; kernel_rfl) fun K hK => ?_
       have tq : decide (p1 ≤ q1) = false := HB5.out
       refine wV (v := .bool false) (fun _ _ => trivial) (by go_simp) ?_
       exact hK _ _ ⟨upd y 30 (V 30), by rw [vv30.out]; kernel_rfl, HQ.out.pure (i := 30) (by omega)⟩
      ·have e20 := (HQ.out.val 20 (by omega) (HD.out ⟨20, .data⟩ (by simp) rfl)).trans vv20.out
       have e30 := (HQ.out.val 30 (by omega) (HD.out ⟨30, .data⟩ (by simp) rfl)).trans vv30.out
       have e17 := (HQ.out.val 17 (by omega) (HD.out ⟨17, .guard⟩ (by simp) rfl)).trans vv17.out
       exact oW hoo (by rw [e17]; kernel_rfl) fun K hK => wV (v := .bool false) (fun _ _ => trivial) (by go_simp) (hK _ _ ⟨upd y 31 (V 31), by rw [vv31.out]; kernel_rfl, HQ.out.pure (i := 31) (by omega)⟩)
      ·have e17 := (HQ.out.val 17 (by omega) (HD.out ⟨17, .data⟩ (by simp) rfl)).trans vv17.out
       have e31 := (HQ.out.val 31 (by omega) (HD.out ⟨31, .data⟩ (by simp) rfl)).trans vv31.out
       exact oW hoo (by kernel_rfl) fun K hK => wV (v := .bool false) (fun _ _ => trivial) (by go_simp) (hK _ _ ⟨upd y 32 (V 32), by rw [vv32.out]; kernel_rfl, HQ.out.pure (i := 32) (by omega)⟩)
     case fc6 =>
      rintro d act Wt ⟨y, rfl, hR⟩ hall
      have q32 : y 32 = .bool false := (hR.val 32 (by omega) (hall 32 (by decide))).trans vv32.out
      rw [q32]
      have HS6 := Lib.hid (HS5.out.step hR.bu)
      have HX6 := Lib.hid ((hR.bu.block X (blk_lt HX5.out)).trans HX5.out)
      clear hR hall HS5 HX5
      try dsimp only
      go_upto_region 17 with fail
      obtain ⟨nb, hnb⟩ : ∃ n : Nat, p2 = (n : Int) := ⟨p2.toNat, by have := HB1.out.1; omega⟩
      obtain ⟨nd, hnd⟩ : ∃ n : Nat, p3 = (n : Int) := ⟨p3.toNat, by have := HB2.out.1; omega⟩
      subst hnb
      subst hnd
      have HNB : Hid (((nb : Nat) : Int) < (N : Int) ∧ nb < N) := Lib.hid ⟨HB1.out.2, Int.ofNat_lt.1 HB1.out.2⟩
      have HND : Hid (((nd : Nat) : Int) < (N : Int) ∧ nd < N) := Lib.hid ⟨HB2.out.2, Int.ofNat_lt.1 HB2.out.2⟩
      obtain ⟨xb, hxb⟩ : ∃ x, ns[nb]? = some x := ⟨ns[nb]'(by rw [← HNN.out]; exact HNB.out.2), by simp⟩
      obtain ⟨xd, hxd⟩ : ∃ x, ns[nd]? = some x := ⟨ns[nd]'(by rw [← HNN.out]; exact HND.out.2), by simp⟩
      have hm3 := (HC.out nb _ hxb).2.2
      have hm2 := (HC.out nd _ hxd).2.1
      obtain ⟨b1, b2, m3⟩ := xb
      obtain ⟨d1, m2, d3⟩ := xd
      have HM3 := Lib.hid hm3
      have HM2 := Lib.hid hm2
      have HXB := Lib.hid hxb
      have HXD := Lib.hid hxd
      clear hm3 hm2 hxb hxd
      by_cases hn3 : m3 = -1
      rotate_left
      ·have HB6 : Hid ((m3 == (-1 : Int)) = false) := Lib.hid (by simpa using hn3)
       refine HNO.out (fun h => hn3 (h.2.2.2.2.1 _ HXB.out)) (fun e => ?_)
       clear hn3
       obtain ⟨V, hV⟩ : ∃ V : Nat → Value, V = fun vv => ([.pointer (some ⟨w.heap.size, 0, none⟩), .slice (some ⟨g, off, none⟩) N cap, .pointer (some ⟨X, 1, none⟩), .int .i64 ↑nb, .pointer (some ⟨g, off + nb * 3, none⟩), .pointer (some ⟨g, off + nb * 3 + 2, none⟩), .int .i64 m3, .bool true, .bool true, undef, undef, undef, undef, undef, undef, undef, undef, undef, undef, .bool true] : List Value).getD vv undef := ⟨_, rfl⟩
       have vv0 : Hid (V 0 = .pointer (some ⟨w.heap.size, 0, none⟩)) := Lib.hid (by rw [hV]; rfl)
       have vv1 : Hid (V 1 = .slice (some ⟨g, off, none⟩) N cap) := Lib.hid (by rw [hV]; rfl)
       have vv2 : Hid (V 2 = .pointer (some ⟨X, 1, none⟩)) := Lib.hid (by rw [hV]; rfl)
       have vv3 : Hid (V 3 = .int .i64 ↑nb) := Lib.hid (by rw [hV]; rfl)
       have vv4 : Hid (V 4 = .pointer (some ⟨g, off + nb * 3, none⟩)) := Lib.hid (by rw [hV]; rfl)
       have vv5 : Hid (V 5 = .pointer (some ⟨g, off + nb * 3 + 2, none⟩)) := Lib.hid (by rw [hV]; rfl)
       have vv6 : Hid (V 6 = .int .i64 m3) := Lib.hid (by rw [hV]; rfl)
       have vv7 : Hid (V 7 = .bool true) := Lib.hid (by rw [hV]; rfl)
       have vv8 : Hid (V 8 = .bool true) := Lib.hid (by rw [hV]; rfl)
       have vv9 : Hid (V 9 = undef) := Lib.hid (by rw [hV]; rfl)
       have vv10 : Hid (V 10 = undef) := Lib.hid (by rw [hV]; rfl)
       have vv11 : Hid (V 11 = undef) := Lib.hid (by rw [hV]; rfl)
       have vv12 : Hid (V 12 = undef) := Lib.hid (by rw [hV]; rfl)
       have vv13 : Hid (V 13 = undef) := Lib.hid (by rw [hV]; rfl)
       have vv14 : Hid (V 14 = undef) := Lib.hid (by rw [hV]; rfl)
       have vv15 : Hid (V 15 = undef) := Lib.hid (by rw [hV]; rfl)
       have vv16 : Hid (V 16 = undef) := Lib.hid (by rw [hV]; rfl)
       have vv17 : Hid (V 17 = undef) := Lib.hid (by rw [hV]; rfl)
       have vv18 : Hid (V 18 = undef) := Lib.hid (by rw [hV]; rfl)
       have vv19 : Hid (V 19 = .bool true) := Lib.hid (by rw [hV]; rfl)
       clear hV
       refine (wpIn_wide (n := 20)).1 ?_
       refine wpIn_region_inv (by kernel_rfl) (back_of (by kernel_rfl)) (fun d act Wn => ∃ q : Nat → Value, act = { tmps := #[.agg #[.slice (some ⟨g, off, none⟩) N cap, .int .i64 last, .int .i64 done, .slice (some ⟨gp, op, none⟩) M cap2, .bool em], .pointer (some ⟨w.heap.size, 0, none⟩), u2, .pointer (some ⟨XF, 0, none⟩), u4, u5, .int .i64 ↑i, .pointer (some ⟨X, 0, none⟩), .pointer (some ⟨w.heap.size, 0, none⟩), .slice (some ⟨g, off, none⟩) N cap, .int .i64 ↑N, .bool false, .bool false, .pointer (some ⟨w.heap.size, 0, none⟩), .slice (some ⟨g, off, none⟩) N cap, .int .i64 ↑N, .bool false, .bool false, .bool false, .agg #[.slice (some ⟨g, off, none⟩) N cap, .int .i64 last, .int .i64 done, .slice (some ⟨gp, op, none⟩) M cap2, .bool em], .pointer (some ⟨w.heap.size, 1, none⟩), .int .i64 last, .bool true, .bool false, .bool false, .bool false, .agg #[.slice (some ⟨g, off, none⟩) N cap, .int .i64 last, .int .i64 done, .slice (some ⟨gp, op, none⟩) M cap2, .bool em], .pointer (some ⟨w.heap.size, 2, none⟩), .int .i64 done, .bool true, .bool false, .bool false, .pointer (some ⟨w.heap.size, 0, none⟩), .slice (some ⟨g, off, none⟩) N cap, .pointer (some ⟨g, off, none⟩), .agg #[.int .i64 0, .int .i64 (-1), .int .i64 v2], .pointer (some ⟨XF, 0, none⟩), .pointer (some ⟨XF, 0, none⟩), .int .i64 0, .bool false, .bool false, .pointer (some ⟨XF, 0, none⟩), .pointer (some ⟨XF, 1, none⟩), .int .i64 (-1), .bool false, .bool false, .pointer (some ⟨w.heap.size, 0, none⟩), .slice (some ⟨g, off, none⟩) N cap, .int .i64 ↑N, .int .i64 ↑k, .bool false, u51, u52, u53, u54, u55, u56, u57, u58, u59, u60, u61, u62, u63, u64, u65, u66, u67, u68, u69, u70, u71, u72, u73, .pointer (some ⟨w.heap.size, 3, none⟩), .slice (some ⟨gp, op, none⟩) M cap2, .int .i64 ↑M, .int .i64 ↑i, .bool true, .int .i64 ↑i, .pointer (some ⟨gp, op + i * 3, none⟩), .agg #[.int .i64 p1, .int .i64 ↑nb, .int .i64 ↑nd], y 0, y 1, y 2, y 3, y 4, y 5, y 6, y 7, y 8, y 9, y 10, y 11, y 12, y 13, y 14, y 15, y 16, y 17, y 18, y 19, y 20, y 21, y 22, y 23, y 24, y 25, y 26, y 27, y 28, y 29, y 30, y 31, .bool false, q 0, q 1, q 2, q 3, q 4, q 5, q 6, q 7, q 8, q 9, q 10, q 11, q 12, q 13, q 14, q 15, q 16, q 17, q 18, q 19, u135], defers := [] } ∧ QA Wt V 20 d q Wn) ?rc6x ?sc6x ?fc6x
       case rc6x => exact fun d hd => ⟨(upd (upd (upd (upd (upd (upd (upd (upd (upd (upd (upd (upd (upd (upd (upd (upd (upd (upd (upd (upd (fun _ => undef) 0 (u115)) 1 (u116)) 2 (u117)) 3 (u118)) 4 (u119)) 5 (u120)) 6 (u121)) 7 (u122)) 8 (u123)) 9 (u124)) 10 (u125)) 11 (u126)) 12 (u127)) 13 (u128)) 14 (u129)) 15 (u130)) 16 (u131)) 17 (u132)) 18 (u133)) 19 (u134)), rfl, QA.start (fun i hi => hd i hi)⟩
       case sc6x =>
        rintro ix oi hop d act Ws ⟨q, rfl, hR⟩ hSi hdep
        have hix : ix < 20 := (Array.getElem?_eq_some_iff.1 hop).1
        have HQ := Lib.hid hR
        have HD := Lib.hid hdep
        clear hR hdep hSi
        obtain rfl | rfl | rfl | rfl | rfl | rfl | rfl | rfl | rfl | rfl | rfl | rfl | rfl | rfl | rfl | rfl | rfl | rfl | rfl | rfl : ix = 0 ∨ ix = 1 ∨ ix = 2 ∨ ix = 3 ∨ ix = 4 ∨ ix = 5 ∨ ix = 6 ∨ ix = 7 ∨ ix = 8 ∨ ix = 9 ∨ ix = 10 ∨ ix = 11 ∨ ix = 12 ∨ ix = 13 ∨ ix = 14 ∨ ix = 15 ∨ ix = 16 ∨ ix = 17 ∨ ix = 18 ∨ ix = 19 := by omega
        all_goals (have hoo := hop; obtain rfl := Option.some.inj hop)
        ·exact oW hoo (by kernel_rfl) fun K hK => wV (v := .pointer (some ⟨w.heap.size, 0, none⟩)) (fun _ _ => trivial) (by go_simp) (hK _ _ ⟨upd q 0 (V 0), by rw [vv0.out]; kernel_rfl, HQ.out.pure (i := 0) (by omega)⟩)
        ·have e0 := (HQ.out.val 0 (by omega) (HD.out ⟨0, .data⟩ (by simp) rfl)).trans vv0.out
         refine oW hoo (by kernel_rfl) fun K hK => ?_
         obtain ⟨c0, c1, c2, c3, c4⟩ := (HS6.out.step HQ.out.bu).facts
         refine wV (v := .slice (some ⟨g, off, none⟩) N cap) (fun _ _ => trivial) (by go_simp) ?_
         exact hK _ _ ⟨upd q 1 (V 1), by rw [vv1.out]; kernel_rfl, HQ.out.pure (i := 1) (by omega)⟩
        ·exact oW hoo (by kernel_rfl) fun K hK => wV (v := .pointer (some ⟨X, 1, none⟩)) (fun _ _ => trivial) (by go_simp) (hK _ _ ⟨upd q 2 (V 2), by rw [vv2.out]; kernel_rfl, HQ.out.pure (i := 2) (by omega)⟩)
        ·have e2 := (HQ.out.val 2 (by omega) (HD.out ⟨2, .data⟩ (by simp) rfl)).trans vv2.out
         refine oW hoo (by kernel_rfl) fun K hK => ?_
         have hx5 := (HQ.out.bu.block X (blk_lt HX6.out)).trans HX6.out
         have l0 := cB hx5 0
         have l1 := cB hx5 1
         have l2 := cB hx5 2
         refine wV (v := .int .i64 ↑nb) (fun _ _ => trivial) (by go_simp) ?_
         exact hK _ _ ⟨upd q 3 (V 3), by rw [vv3.out]; kernel_rfl, HQ.out.pure (i := 3) (by omega)⟩
        ·have e1 := (HQ.out.val 1 (by omega) (HD.out ⟨1, .data⟩ (by simp) rfl)).trans vv1.out
         have e3 := (HQ.out.val 3 (by omega) (HD.out ⟨3, .data⟩ (by simp) rfl)).trans vv3.out
         refine oW hoo (by kernel_rfl) fun K hK => ?_
         have bb : ((nb : Nat) : Int) < (N : Int) := HNB.out.1
         have bb2 : nb < N := HNB.out.2
         refine wV (v := .pointer (some ⟨g, off + nb * 3, none⟩)) (fun _ _ => trivial) (by go_simp) ?_
         exact hK _ _ ⟨upd q 4 (V 4), by rw [vv4.out]; kernel_rfl, HQ.out.pure (i := 4) (by omega)⟩
        ·have e4 := (HQ.out.val 4 (by omega) (HD.out ⟨4, .data⟩ (by simp) rfl)).trans vv4.out
         exact oW hoo (by kernel_rfl) fun K hK => wV (v := .pointer (some ⟨g, off + nb * 3 + 2, none⟩)) (fun _ _ => trivial) (by go_simp) (hK _ _ ⟨upd q 5 (V 5), by rw [vv5.out]; kernel_rfl, HQ.out.pure (i := 5) (by omega)⟩)
        ·have e5 := (HQ.out.val 5 (by omega) (HD.out ⟨5, .data⟩ (by simp) rfl)).trans vv5.out
         refine oW hoo (by kernel_rfl) fun K hK => ?_
         have z0 := ((HS6.out.step HQ.out.bu).below.cell (p := ⟨g, off + nb * 3 + 2, none⟩) HG.out).trans HM3.out
         refine wV (v := .int .i64 m3) (fun _ _ => trivial) (by go_simp) ?_
         exact hK _ _ ⟨upd q 6 (V 6), by rw [vv6.out]; kernel_rfl, HQ.out.pure (i := 6) (by omega)⟩
        ·have e6 := (HQ.out.val 6 (by omega) (HD.out ⟨6, .data⟩ (by simp) rfl)).trans vv6.out
         exact oW hoo (by kernel_rfl) fun K hK => wV (v := .bool true) (fun _ _ => trivial) (by go_simp <;> simpa using HB6.out) (hK _ _ ⟨upd q 7 (V 7), by rw [vv7.out]; kernel_rfl, HQ.out.pure (i := 7) (by omega)⟩)
        ·have e7 := (HQ.out.val 7 (by omega) (HD.out ⟨7, .data⟩ (by simp) rfl)).trans vv7.out
         exact oW hoo (by kernel_rfl) fun K hK => wV (v := .bool true) (fun _ _ => trivial) (by go_simp) (hK _ _ ⟨upd q 8 (V 8), by rw [vv8.out]; kernel_rfl, HQ.out.pure (i := 8) (by omega)⟩)
        ·have e8 := (HQ.out.val 8 (by omega) (HD.out ⟨8, .guard⟩ (by simp) rfl)).trans vv8.out
         exact oU hoo (by rw [e8]; kernel_rfl) (fun _ _ => trivial) ⟨upd q 9 (V 9), by rw [vv9.out]; kernel_rfl, HQ.out.pure (i := 9) (by omega)⟩
        ·have e8 := (HQ.out.val 8 (by omega) (HD.out ⟨8, .guard⟩ (by simp) rfl)).trans vv8.out
         exact oU hoo (by rw [e8]; kernel_rfl) (fun _ _ => trivial) ⟨upd q 10 (V 10), by rw [vv10.out]; kernel_rfl, HQ.out.pure (i := 10) (by omega)⟩
        ·have e8 := (HQ.out.val 8 (by omega) (HD.out ⟨8, .guard⟩ (by simp) rfl)).trans vv8.out
         exact oU hoo (by rw [e8]; kernel_rfl) (fun _ _ => trivial) ⟨upd q 11 (V 11), by rw [vv11.out]; kernel_rfl, HQ.out.pure (i := 11) (by omega)⟩
        ·have e8 := (HQ.out.val 8 (by omega) (HD.out ⟨8, .guard⟩ (by simp) rfl)).trans vv8.out
         exact oU hoo (by rw [e8]; kernel_rfl) (fun _ _ => trivial) ⟨upd q 12 (V 12), by rw [vv12.out]; kernel_rfl, HQ.out.pure (i := 12) (by omega)⟩
        ·have e8 := (HQ.out.val 8 (by omega) (HD.out ⟨8, .guard⟩ (by simp) rfl)).trans vv8.out
         exact oU hoo (by rw [e8]; kernel_rfl) (fun _ _ => trivial) ⟨upd q 13 (V 13), by rw [vv13.out]; kernel_rfl, HQ.out.pure (i := 13) (by omega)⟩
        ·have e8 := (HQ.out.val 8 (by omega) (HD.out ⟨8, .guard⟩ (by simp) rfl)).trans vv8.out
         exact oU hoo (by rw [e8]; kernel_rfl) (fun _ _ => trivial) ⟨upd q 14 (V 14), by rw [vv14.out]; kernel_rfl, HQ.out.pure (i := 14) (by omega)⟩
        ·have e8 := (HQ.out.val 8 (by omega) (HD.out ⟨8, .guard⟩ (by simp) rfl)).trans vv8.out
         exact oU hoo (by rw [e8]; kernel_rfl) (fun _ _ => trivial) ⟨upd q 15 (V 15), by rw [vv15.out]; kernel_rfl, HQ.out.pure (i := 15) (by omega)⟩
        ·have e8 := (HQ.out.val 8 (by omega) (HD.out ⟨8, .guard⟩ (by simp) rfl)).trans vv8.out
         exact oU hoo (by rw [e8]; kernel_rfl) (fun _ _ => trivial) ⟨upd q 16 (V 16), by rw [vv16.out]; kernel_rfl, HQ.out.pure (i := 16) (by omega)⟩
        ·have e8 := (HQ.out.val 8 (by omega) (HD.out ⟨8, .guard⟩ (by simp) rfl)).trans vv8.out
         exact oU hoo (by rw [e8]; kernel_rfl) (fun _ _ => trivial) ⟨upd q 17 (V 17), by rw [vv17.out]; kernel_rfl, HQ.out.pure (i := 17) (by omega)⟩
        ·have e8 := (HQ.out.val 8 (by omega) (HD.out ⟨8, .guard⟩ (by simp) rfl)).trans vv8.out
         exact oU hoo (by rw [e8]; kernel_rfl) (fun _ _ => trivial) ⟨upd q 18 (V 18), by rw [vv18.out]; kernel_rfl, HQ.out.pure (i := 18) (by omega)⟩
        ·have e8 := (HQ.out.val 8 (by omega) (HD.out ⟨8, .data⟩ (by simp) rfl)).trans vv8.out
         have e18 := (HQ.out.val 18 (by omega) (HD.out ⟨18, .data⟩ (by simp) rfl)).trans vv18.out
         exact oW hoo (by kernel_rfl) fun K hK => wV (v := .bool true) (fun _ _ => trivial) (by go_simp) (hK _ _ ⟨upd q 19 (V 19), by rw [vv19.out]; kernel_rfl, HQ.out.pure (i := 19) (by omega)⟩)
       case fc6x =>
        rintro d act Ws ⟨q, rfl, hR⟩ hall
        have q19 : q 19 = .bool true := (hR.val 19 (by omega) (hall 19 (by decide))).trans vv19.out
        rw [q19]
        have HSE := Lib.hid (HS6.out.step hR.bu)
        clear hR hall
        subst e
        try dsimp only
        go_wp2_with fail
        go_ret
        exact ⟨rfl, HSE.out.below⟩
      have HB6 : Hid ((m3 == (-1 : Int)) = true) := Lib.hid (by simpa using hn3)
      by_cases hs2 : m2 = p1
      rotate_left
      ·have HB7 : Hid ((m2 == p1) = false) := Lib.hid (by simpa using hs2)
       refine HNO.out (fun h => hs2 (h.2.2.2.2.2 _ HXD.out)) (fun e => ?_)
       clear hs2 hn3
       obtain ⟨V, hV⟩ : ∃ V : Nat → Value, V = fun vv => ([.pointer (some ⟨w.heap.size, 0, none⟩), .slice (some ⟨g, off, none⟩) N cap, .pointer (some ⟨X, 1, none⟩), .int .i64 ↑nb, .pointer (some ⟨g, off + nb * 3, none⟩), .pointer (some ⟨g, off + nb * 3 + 2, none⟩), .int .i64 m3, .bool false, .bool false, .pointer (some ⟨w.heap.size, 0, none⟩), .slice (some ⟨g, off, none⟩) N cap, .pointer (some ⟨X, 2, none⟩), .int .i64 ↑nd, .pointer (some ⟨g, off + nd * 3, none⟩), .pointer (some ⟨g, off + nd * 3 + 1, none⟩), .int .i64 m2, .pointer (some ⟨X, 0, none⟩), .int .i64 p1, .bool true, .bool true] : List Value).getD vv undef := ⟨_, rfl⟩
       have vv0 : Hid (V 0 = .pointer (some ⟨w.heap.size, 0, none⟩)) := Lib.hid (by rw [hV]; rfl)
       have vv1 : Hid (V 1 = .slice (some ⟨g, off, none⟩) N cap) := Lib.hid (by rw [hV]; rfl)
       have vv2 : Hid (V 2 = .pointer (some ⟨X, 1, none⟩)) := Lib.hid (by rw [hV]; rfl)
       have vv3 : Hid (V 3 = .int .i64 ↑nb) := Lib.hid (by rw [hV]; rfl)
       have vv4 : Hid (V 4 = .pointer (some ⟨g, off + nb * 3, none⟩)) := Lib.hid (by rw [hV]; rfl)
       have vv5 : Hid (V 5 = .pointer (some ⟨g, off + nb * 3 + 2, none⟩)) := Lib.hid (by rw [hV]; rfl)
       have vv6 : Hid (V 6 = .int .i64 m3) := Lib.hid (by rw [hV]; rfl)
       have vv7 : Hid (V 7 = .bool false) := Lib.hid (by rw [hV]; rfl)
       have vv8 : Hid (V 8 = .bool false) := Lib.hid (by rw [hV]; rfl)
       have vv9 : Hid (V 9 = .pointer (some ⟨w.heap.size, 0, none⟩)) := Lib.hid (by rw [hV]; rfl)
       have vv10 : Hid (V 10 = .slice (some ⟨g, off, none⟩) N cap) := Lib.hid (by rw [hV]; rfl)
       have vv11 : Hid (V 11 = .pointer (some ⟨X, 2, none⟩)) := Lib.hid (by rw [hV]; rfl)
       have vv12 : Hid (V 12 = .int .i64 ↑nd) := Lib.hid (by rw [hV]; rfl)
       have vv13 : Hid (V 13 = .pointer (some ⟨g, off + nd * 3, none⟩)) := Lib.hid (by rw [hV]; rfl)
       have vv14 : Hid (V 14 = .pointer (some ⟨g, off + nd * 3 + 1, none⟩)) := Lib.hid (by rw [hV]; rfl)
       have vv15 : Hid (V 15 = .int .i64 m2) := Lib.hid (by rw [hV]; rfl)
       have vv16 : Hid (V 16 = .pointer (some ⟨X, 0, none⟩)) := Lib.hid (by rw [hV]; rfl)
       have vv17 : Hid (V 17 = .int .i64 p1) := Lib.hid (by rw [hV]; rfl)
       have vv18 : Hid (V 18 = .bool true) := Lib.hid (by rw [hV]; rfl)
       have vv19 : Hid (V 19 = .bool true) := Lib.hid (by rw [hV]; rfl)
       clear hV
       refine (wpIn_wide (n := 20)).1 ?_
       refine wpIn_region_inv (by kernel_rfl) (back_of (by kernel_rfl)) (fun d act Wn => ∃ q : Nat → Value, act = { tmps := #[.agg #[.slice (some ⟨g, off, none⟩) N cap, .int .i64 last, .int .i64 done, .slice (some ⟨gp, op, none⟩) M cap2, .bool em], .pointer (some ⟨w.heap.size, 0, none⟩), u2, .pointer (some ⟨XF, 0, none⟩), u4, u5, .int .i64 ↑i, .pointer (some ⟨X, 0, none⟩), .pointer (some ⟨w.heap.size, 0, none⟩), .slice (some ⟨g, off, none⟩) N cap, .int .i64 ↑N, .bool false, .bool false, .pointer (some ⟨w.heap.size, 0, none⟩), .slice (some ⟨g, off, none⟩) N cap, .int .i64 ↑N, .bool false, .bool false, .bool false, .agg #[.slice (some ⟨g, off, none⟩) N cap, .int .i64 last, .int .i64 done, .slice (some ⟨gp, op, none⟩) M cap2, .bool em], .pointer (some ⟨w.heap.size, 1, none⟩), .int .i64 last, .bool true, .bool false, .bool false, .bool false, .agg #[.slice (some ⟨g, off, none⟩) N cap, .int .i64 last, .int .i64 done, .slice (some ⟨gp, op, none⟩) M cap2, .bool em], .pointer (some ⟨w.heap.size, 2, none⟩), .int .i64 done, .bool true, .bool false, .bool false, .pointer (some ⟨w.heap.size, 0, none⟩), .slice (some ⟨g, off, none⟩) N cap, .pointer (some ⟨g, off, none⟩), .agg #[.int .i64 0, .int .i64 (-1), .int .i64 v2], .pointer (some ⟨XF, 0, none⟩), .pointer (some ⟨XF, 0, none⟩), .int .i64 0, .bool false, .bool false, .pointer (some ⟨XF, 0, none⟩), .pointer (some ⟨XF, 1, none⟩), .int .i64 (-1), .bool false, .bool false, .pointer (some ⟨w.heap.size, 0, none⟩), .slice (some ⟨g, off, none⟩) N cap, .int .i64 ↑N, .int .i64 ↑k, .bool false, u51, u52, u53, u54, u55, u56, u57, u58, u59, u60, u61, u62, u63, u64, u65, u66, u67, u68, u69, u70, u71, u72, u73, .pointer (some ⟨w.heap.size, 3, none⟩), .slice (some ⟨gp, op, none⟩) M cap2, .int .i64 ↑M, .int .i64 ↑i, .bool true, .int .i64 ↑i, .pointer (some ⟨gp, op + i * 3, none⟩), .agg #[.int .i64 p1, .int .i64 ↑nb, .int .i64 ↑nd], y 0, y 1, y 2, y 3, y 4, y 5, y 6, y 7, y 8, y 9, y 10, y 11, y 12, y 13, y 14, y 15, y 16, y 17, y 18, y 19, y 20, y 21, y 22, y 23, y 24, y 25, y 26, y 27, y 28, y 29, y 30, y 31, .bool false, q 0, q 1, q 2, q 3, q 4, q 5, q 6, q 7, q 8, q 9, q 10, q 11, q 12, q 13, q 14, q 15, q 16, q 17, q 18, q 19, u135], defers := [] } ∧ QA Wt V 20 d q Wn) ?rc6y ?sc6y ?fc6y
       case rc6y => exact fun d hd => ⟨(upd (upd (upd (upd (upd (upd (upd (upd (upd (upd (upd (upd (upd (upd (upd (upd (upd (upd (upd (upd (fun _ => undef) 0 (u115)) 1 (u116)) 2 (u117)) 3 (u118)) 4 (u119)) 5 (u120)) 6 (u121)) 7 (u122)) 8 (u123)) 9 (u124)) 10 (u125)) 11 (u126)) 12 (u127)) 13 (u128)) 14 (u129)) 15 (u130)) 16 (u131)) 17 (u132)) 18 (u133)) 19 (u134)), rfl, QA.start (fun i hi => hd i hi)⟩
       case sc6y =>
        rintro ix oi hop d act Ws ⟨q, rfl, hR⟩ hSi hdep
        have hix : ix < 20 := (Array.getElem?_eq_some_iff.1 hop).1
        have HQ := Lib.hid hR
        have HD := Lib.hid hdep
        clear hR hdep hSi
        obtain rfl | rfl | rfl | rfl | rfl | rfl | rfl | rfl | rfl | rfl | rfl | rfl | rfl | rfl | rfl | rfl | rfl | rfl | rfl | rfl : ix = 0 ∨ ix = 1 ∨ ix = 2 ∨ ix = 3 ∨ ix = 4 ∨ ix = 5 ∨ ix = 6 ∨ ix = 7 ∨ ix = 8 ∨ ix = 9 ∨ ix = 10 ∨ ix = 11 ∨ ix = 12 ∨ ix = 13 ∨ ix = 14 ∨ ix = 15 ∨ ix = 16 ∨ ix = 17 ∨ ix = 18 ∨ ix = 19 := by omega
        all_goals (have hoo := hop; obtain rfl := Option.some.inj hop)
        ·exact oW hoo (by kernel_rfl) fun K hK => wV (v := .pointer (some ⟨w.heap.size, 0, none⟩)) (fun _ _ => trivial) (by go_simp) (hK _ _ ⟨upd q 0 (V 0), by rw [vv0.out]; kernel_rfl, HQ.out.pure (i := 0) (by omega)⟩)
        ·have e0 := (HQ.out.val 0 (by omega) (HD.out ⟨0, .data⟩ (by simp) rfl)).trans vv0.out
         refine oW hoo (by kernel_rfl) fun K hK => ?_
         obtain ⟨c0, c1, c2, c3, c4⟩ := (HS6.out.step HQ.out.bu).facts
         refine wV (v := .slice (some ⟨g, off, none⟩) N cap) (fun _ _ => trivial) (by go_simp) ?_
         exact hK _ _ ⟨upd q 1 (V 1), by rw [vv1.out]; kernel_rfl, HQ.out.pure (i := 1) (by omega)⟩
        ·exact oW hoo (by kernel_rfl) fun K hK => wV (v := .pointer (some ⟨X, 1, none⟩)) (fun _ _ => trivial) (by go_simp) (hK _ _ ⟨upd q 2 (V 2), by rw [vv2.out]; kernel_rfl, HQ.out.pure (i := 2) (by omega)⟩)
        ·have e2 := (HQ.out.val 2 (by omega) (HD.out ⟨2, .data⟩ (by simp) rfl)).trans vv2.out
         refine oW hoo (by kernel_rfl) fun K hK => ?_
         have hx5 := (HQ.out.bu.block X (blk_lt HX6.out)).trans HX6.out
         have l0 := cB hx5 0
         have l1 := cB hx5 1
         have l2 := cB hx5 2
         refine wV (v := .int .i64 ↑nb) (fun _ _ => trivial) (by go_simp) ?_
         exact hK _ _ ⟨upd q 3 (V 3), by rw [vv3.out]; kernel_rfl, HQ.out.pure (i := 3) (by omega)⟩
        ·have e1 := (HQ.out.val 1 (by omega) (HD.out ⟨1, .data⟩ (by simp) rfl)).trans vv1.out
         have e3 := (HQ.out.val 3 (by omega) (HD.out ⟨3, .data⟩ (by simp) rfl)).trans vv3.out
         refine oW hoo (by kernel_rfl) fun K hK => ?_
         have bb : ((nb : Nat) : Int) < (N : Int) := HNB.out.1
         have bb2 : nb < N := HNB.out.2
         refine wV (v := .pointer (some ⟨g, off + nb * 3, none⟩)) (fun _ _ => trivial) (by go_simp) ?_
         exact hK _ _ ⟨upd q 4 (V 4), by rw [vv4.out]; kernel_rfl, HQ.out.pure (i := 4) (by omega)⟩
        ·have e4 := (HQ.out.val 4 (by omega) (HD.out ⟨4, .data⟩ (by simp) rfl)).trans vv4.out
         exact oW hoo (by kernel_rfl) fun K hK => wV (v := .pointer (some ⟨g, off + nb * 3 + 2, none⟩)) (fun _ _ => trivial) (by go_simp) (hK _ _ ⟨upd q 5 (V 5), by rw [vv5.out]; kernel_rfl, HQ.out.pure (i := 5) (by omega)⟩)
        ·have e5 := (HQ.out.val 5 (by omega) (HD.out ⟨5, .data⟩ (by simp) rfl)).trans vv5.out
         refine oW hoo (by kernel_rfl) fun K hK => ?_
         have z0 := ((HS6.out.step HQ.out.bu).below.cell (p := ⟨g, off + nb * 3 + 2, none⟩) HG.out).trans HM3.out
         refine wV (v := .int .i64 m3) (fun _ _ => trivial) (by go_simp) ?_
         exact hK _ _ ⟨upd q 6 (V 6), by rw [vv6.out]; kernel_rfl, HQ.out.pure (i := 6) (by omega)⟩
        ·have e6 := (HQ.out.val 6 (by omega) (HD.out ⟨6, .data⟩ (by simp) rfl)).trans vv6.out
         exact oW hoo (by kernel_rfl) fun K hK => wV (v := .bool false) (fun _ _ => trivial) (by go_simp <;> simpa using HB6.out) (hK _ _ ⟨upd q 7 (V 7), by rw [vv7.out]; kernel_rfl, HQ.out.pure (i := 7) (by omega)⟩)
        ·have e7 := (HQ.out.val 7 (by omega) (HD.out ⟨7, .data⟩ (by simp) rfl)).trans vv7.out
         exact oW hoo (by kernel_rfl) fun K hK => wV (v := .bool false) (fun _ _ => trivial) (by go_simp) (hK _ _ ⟨upd q 8 (V 8), by rw [vv8.out]; kernel_rfl, HQ.out.pure (i := 8) (by omega)⟩)
        ·have e8 := (HQ.out.val 8 (by omega) (HD.out ⟨8, .guard⟩ (by simp) rfl)).trans vv8.out
         exact oW hoo (by rw [e8]; kernel_rfl) fun K hK => wV (v := .pointer (some ⟨w.heap.size, 0, none⟩)) (fun _ _ => trivial) (by go_simp) (hK _ _ ⟨upd q 9 (V 9), by rw [vv9.out]; kernel_rfl, HQ.out.pure (i := 9) (by omega)⟩)
        ·have e9 := (HQ.out.val 9 (by omega) (HD.out ⟨9, .data⟩ (by simp) rfl)).trans vv9.out
         have e8 := (HQ.out.val 8 (by omega) (HD.out ⟨8, .guard⟩ (by simp) rfl)).trans vv8.out
         refine oW hoo (by rw [e8]; kernel_rfl) fun K hK => ?_
         obtain ⟨c0, c1, c2, c3, c4⟩ := (HS6.out.step HQ.out.bu).facts
         refine wV (v := .slice (some ⟨g, off, none⟩) N cap) (fun _ _ => trivial) (by go_simp) ?_
         exact hK _ _ ⟨upd q 10 (V 10), by rw [vv10.out]; kernel_rfl, HQ.out.pure (i := 10) (by omega)⟩
        ·have e8 := (HQ.out.val 8 (by omega) (HD.out ⟨8, .guard⟩ (by simp) rfl)).trans vv8.out
         exact oW hoo (by rw [e8]; kernel_rfl) fun K hK => wV (v := .pointer (some ⟨X, 2, none⟩)) (fun _ _ => trivial) (by go_simp) (hK _ _ ⟨upd q 11 (V 11), by rw [vv11.out]; kernel_rfl, HQ.out.pure (i := 11) (by omega)⟩)
        ·have e11 := (HQ.out.val 11 (by omega) (HD.out ⟨11, .data⟩ (by simp) rfl)).trans vv11.out
         have e8 := (HQ.out.val 8 (by omega) (HD.out ⟨8, .guard⟩ (by simp) rfl)).trans vv8.out
         refine oW hoo (by rw [e8]; kernel_rfl) fun K hK => ?_
         have hx5 := (HQ.out.bu.block X (blk_lt HX6.out)).trans HX6.out
         have l0 := cB hx5 0
         have l1 := cB hx5 1
         have l2 := cB hx5 2
         refine wV (v := .int .i64 ↑nd) (fun _ _ => trivial) (by go_simp) ?_
         exact hK _ _ ⟨upd q 12 (V 12), by rw [vv12.out]; kernel_rfl, HQ.out.pure (i := 12) (by omega)⟩
        ·have e10 := (HQ.out.val 10 (by omega) (HD.out ⟨10, .data⟩ (by simp) rfl)).trans vv10.out
         have e12 := (HQ.out.val 12 (by omega) (HD.out ⟨12, .data⟩ (by simp) rfl)).trans vv12.out
         have e8 := (HQ.out.val 8 (by omega) (HD.out ⟨8, .guard⟩ (by simp) rfl)).trans vv8.out
         refine oW hoo (by rw [e8]; kernel_rfl) fun K hK => ?_
         have bb : ((nd : Nat) : Int) < (N : Int) := HND.out.1
         have bb2 : nd < N := HND.out.2
         refine wV (v := .pointer (some ⟨g, off + nd * 3, none⟩)) (fun _ _ => trivial) (by go_simp) ?_
         exact hK _ _ ⟨upd q 13 (V 13), by rw [vv13.out]; kernel_rfl, HQ.out.pure (i := 13) (by omega)⟩
        ·have e13 := (HQ.out.val 13 (by omega) (HD.out ⟨13, .data⟩ (by simp) rfl)).trans vv13.out
         have e8 := (HQ.out.val 8 (by omega) (HD.out ⟨8, .guard⟩ (by simp) rfl)).trans vv8.out
         exact oW hoo (by rw [e8]; kernel_rfl) fun K hK => wV (v := .pointer (some ⟨g, off + nd * 3 + 1, none⟩)) (fun _ _ => trivial) (by go_simp) (hK _ _ ⟨upd q 14 (V 14), by rw [vv14.out]; kernel_rfl, HQ.out.pure (i := 14) (by omega)⟩)
        ·have e14 := (HQ.out.val 14 (by omega) (HD.out ⟨14, .data⟩ (by simp) rfl)).trans vv14.out
         have e8 := (HQ.out.val 8 (by omega) (HD.out ⟨8, .guard⟩ (by simp) rfl)).trans vv8.out
         refine oW hoo (by rw [e8]; kernel_rfl) fun K hK => ?_
         have z0 := ((HS6.out.step HQ.out.bu).below.cell (p := ⟨g, off + nd * 3 + 1, none⟩) HG.out).trans HM2.out
         refine wV (v := .int .i64 m2) (fun _ _ => trivial) (by go_simp) ?_
         exact hK _ _ ⟨upd q 15 (V 15), by rw [vv15.out]; kernel_rfl, HQ.out.pure (i := 15) (by omega)⟩
        ·have e8 := (HQ.out.val 8 (by omega) (HD.out ⟨8, .guard⟩ (by simp) rfl)).trans vv8.out
         exact oW hoo (by rw [e8]; kernel_rfl) fun K hK => wV (v := .pointer (some ⟨X, 0, none⟩)) (fun _ _ => trivial) (by go_simp) (hK _ _ ⟨upd q 16 (V 16), by rw [vv16.out]; kernel_rfl, HQ.out.pure (i := 16) (by omega)⟩)
        ·have e16 := (HQ.out.val 16 (by omega) (HD.out ⟨16, .data⟩ (by simp) rfl)).trans vv16.out
         have e8 := (HQ.out.val 8 (by omega) (HD.out ⟨8, .guard⟩ (by simp) rfl)).trans vv8.out
         refine oW hoo (by rw [e8]; kernel_rfl) fun K hK => ?_
         have hx5 := (HQ.out.bu.block X (blk_lt HX6.out)).trans HX6.out
         have l0 := cB hx5 0
         have l1 := cB hx5 1
         have l2 := cB hx5 2
         refine wV (v := .int .i64 p1) (fun _ _ => trivial) (by go_simp) ?_
         exact hK _ _ ⟨upd q 17 (V 17), by rw [vv17.out]; kernel_rfl, HQ.out.pure (i := 17) (by omega)⟩
        ·have e15 := (HQ.out.val 15 (by omega) (HD.out ⟨15, .data⟩ (by simp) rfl)).trans vv15.out
         have e17 := (HQ.out.val 17 (by omega) (HD.out ⟨17, .data⟩ (by simp) rfl)).trans vv17.out
         have e8 := (HQ.out.val 8 (by omega) (HD.out ⟨8, .guard⟩ (by simp) rfl)).trans vv8.out
         exact oW hoo (by rw [e8]; kernel_rfl) fun K hK => wV (v := .bool true) (fun _ _ => trivial) (by go_simp <;> simpa using HB7.out) (hK _ _ ⟨upd q 18 (V 18), by rw [vv18.out]; kernel_rfl, HQ.out.pure (i := 18) (by omega)⟩)
        ·have e8 := (HQ.out.val 8 (by omega) (HD.out ⟨8, .data⟩ (by simp) rfl)).trans vv8.out
         have e18 := (HQ.out.val 18 (by omega) (HD.out ⟨18, .data⟩ (by simp) rfl)).trans vv18.out
         exact oW hoo (by kernel_rfl) fun K hK => wV (v := .bool true) (fun _ _ => trivial) (by go_simp) (hK _ _ ⟨upd q 19 (V 19), by rw [vv19.out]; kernel_rfl, HQ.out.pure (i := 19) (by omega)⟩)
       case fc6y =>
        rintro d act Ws ⟨q, rfl, hR⟩ hall
        have q19 : q 19 = .bool true := (hR.val 19 (by omega) (hall 19 (by decide))).trans vv19.out
        rw [q19]
        have HSE := Lib.hid (HS6.out.step hR.bu)
        clear hR hall
        subst e
        try dsimp only
        go_wp2_with fail
        go_ret
        exact ⟨rfl, HSE.out.below⟩
      have HB7 : Hid ((m2 == p1) = true) := Lib.hid (by simpa using hs2)
      have HN3 := Lib.hid hn3
      have HS2' := Lib.hid hs2
      clear hs2 hn3
      obtain ⟨V, hV⟩ : ∃ V : Nat → Value, V = fun vv => ([.pointer (some ⟨w.heap.size, 0, none⟩), .slice (some ⟨g, off, none⟩) N cap, .pointer (some ⟨X, 1, none⟩), .int .i64 ↑nb, .pointer (some ⟨g, off + nb * 3, none⟩), .pointer (some ⟨g, off + nb * 3 + 2, none⟩), .int .i64 m3, .bool false, .bool false, .pointer (some ⟨w.heap.size, 0, none⟩), .slice (some ⟨g, off, none⟩) N cap, .pointer (some ⟨X, 2, none⟩), .int .i64 ↑nd, .pointer (some ⟨g, off + nd * 3, none⟩), .pointer (some ⟨g, off + nd * 3 + 1, none⟩), .int .i64 m2, .pointer (some ⟨X, 0, none⟩), .int .i64 p1, .bool false, .bool false] : List Value).getD vv undef := ⟨_, rfl⟩
      have vv0 : Hid (V 0 = .pointer (some ⟨w.heap.size, 0, none⟩)) := Lib.hid (by rw [hV]; rfl)
      have vv1 : Hid (V 1 = .slice (some ⟨g, off, none⟩) N cap) := Lib.hid (by rw [hV]; rfl)
      have vv2 : Hid (V 2 = .pointer (some ⟨X, 1, none⟩)) := Lib.hid (by rw [hV]; rfl)
      have vv3 : Hid (V 3 = .int .i64 ↑nb) := Lib.hid (by rw [hV]; rfl)
      have vv4 : Hid (V 4 = .pointer (some ⟨g, off + nb * 3, none⟩)) := Lib.hid (by rw [hV]; rfl)
      have vv5 : Hid (V 5 = .pointer (some ⟨g, off + nb * 3 + 2, none⟩)) := Lib.hid (by rw [hV]; rfl)
      have vv6 : Hid (V 6 = .int .i64 m3) := Lib.hid (by rw [hV]; rfl)
      have vv7 : Hid (V 7 = .bool false) := Lib.hid (by rw [hV]; rfl)
      have vv8 : Hid (V 8 = .bool false) := Lib.hid (by rw [hV]; rfl)
      have vv9 : Hid (V 9 = .pointer (some ⟨w.heap.size, 0, none⟩)) := Lib.hid (by rw [hV]; rfl)
      have vv10 : Hid (V 10 = .slice (some ⟨g, off, none⟩) N cap) := Lib.hid (by rw [hV]; rfl)
      have vv11 : Hid (V 11 = .pointer (some ⟨X, 2, none⟩)) := Lib.hid (by rw [hV]; rfl)
      have vv12 : Hid (V 12 = .int .i64 ↑nd) := Lib.hid (by rw [hV]; rfl)
      have vv13 : Hid (V 13 = .pointer (some ⟨g, off + nd * 3, none⟩)) := Lib.hid (by rw [hV]; rfl)
      have vv14 : Hid (V 14 = .pointer (some ⟨g, off + nd * 3 + 1, none⟩)) := Lib.hid (by rw [hV]; rfl)
      have vv15 : Hid (V 15 = .int .i64 m2) := Lib.hid (by rw [hV]; rfl)
      have vv16 : Hid (V 16 = .pointer (some ⟨X, 0, none⟩)) := Lib.hid (by rw [hV]; rfl)
      have vv17 : Hid (V 17 = .int .i64 p1) := Lib.hid (by rw [hV]; rfl)
      have vv18 : Hid (V 18 = .bool false) := Lib.hid (by rw [hV]; rfl)
      have vv19 : Hid (V 19 = .bool false) := Lib.hid (by rw [hV]; rfl)
      clear hV
      refine (wpIn_wide (n := 20)).1 ?_
      refine wpIn_region_inv (by kernel_rfl) (back_of (by kernel_rfl)) (fun d act Wn => ∃ q : Nat → Value, act = { tmps := #[.agg #[.slice (some ⟨g, off, none⟩) N cap, .int .i64 last, .int .i64 done, .slice (some ⟨gp, op, none⟩) M cap2, .bool em], .pointer (some ⟨w.heap.size, 0, none⟩), u2, .pointer (some ⟨XF, 0, none⟩), u4, u5, .int .i64 ↑i, .pointer (some ⟨X, 0, none⟩), .pointer (some ⟨w.heap.size, 0, none⟩), .slice (some ⟨g, off, none⟩) N cap, .int .i64 ↑N, .bool false, .bool false, .pointer (some ⟨w.heap.size, 0, none⟩), .slice (some ⟨g, off, none⟩) N cap, .int .i64 ↑N, .bool false, .bool false, .bool false, .agg #[.slice (some ⟨g, off, none⟩) N cap, .int .i64 last, .int .i64 done, .slice (some ⟨gp, op, none⟩) M cap2, .bool em], .pointer (some ⟨w.heap.size, 1, none⟩), .int .i64 last, .bool true, .bool false, .bool false, .bool false, .agg #[.slice (some ⟨g, off, none⟩) N cap, .int .i64 last, .int .i64 done, .slice (some ⟨gp, op, none⟩) M cap2, .bool em], .pointer (some ⟨w.heap.size, 2, none⟩), .int .i64 done, .bool true, .bool false, .bool false, .pointer (some ⟨w.heap.size, 0, none⟩), .slice (some ⟨g, off, none⟩) N cap, .pointer (some ⟨g, off, none⟩), .agg #[.int .i64 0, .int .i64 (-1), .int .i64 v2], .pointer (some ⟨XF, 0, none⟩), .pointer (some ⟨XF, 0, none⟩), .int .i64 0, .bool false, .bool false, .pointer (some ⟨XF, 0, none⟩), .pointer (some ⟨XF, 1, none⟩), .int .i64 (-1), .bool false, .bool false, .pointer (some ⟨w.heap.size, 0, none⟩), .slice (some ⟨g, off, none⟩) N cap, .int .i64 ↑N, .int .i64 ↑k, .bool false, u51, u52, u53, u54, u55, u56, u57, u58, u59, u60, u61, u62, u63, u64, u65, u66, u67, u68, u69, u70, u71, u72, u73, .pointer (some ⟨w.heap.size, 3, none⟩), .slice (some ⟨gp, op, none⟩) M cap2, .int .i64 ↑M, .int .i64 ↑i, .bool true, .int .i64 ↑i, .pointer (some ⟨gp, op + i * 3, none⟩), .agg #[.int .i64 p1, .int .i64 ↑nb, .int .i64 ↑nd], y 0, y 1, y 2, y 3, y 4, y 5, y 6, y 7, y 8, y 9, y 10, y 11, y 12, y 13, y 14, y 15, y 16, y 17, y 18, y 19, y 20, y 21, y 22, y 23, y 24, y 25, y 26, y 27, y 28, y 29, y 30, y 31, .bool false, q 0, q 1, q 2, q 3, q 4, q 5, q 6, q 7, q 8, q 9, q 10, q 11, q 12, q 13, q 14, q 15, q 16, q 17, q 18, q 19, u135], defers := [] } ∧ QA Wt V 20 d q Wn) ?rc6z ?sc6z ?fc6z
      case rc6z => exact fun d hd => ⟨(upd (upd (upd (upd (upd (upd (upd (upd (upd (upd (upd (upd (upd (upd (upd (upd (upd (upd (upd (upd (fun _ => undef) 0 (u115)) 1 (u116)) 2 (u117)) 3 (u118)) 4 (u119)) 5 (u120)) 6 (u121)) 7 (u122)) 8 (u123)) 9 (u124)) 10 (u125)) 11 (u126)) 12 (u127)) 13 (u128)) 14 (u129)) 15 (u130)) 16 (u131)) 17 (u132)) 18 (u133)) 19 (u134)), rfl, QA.start (fun i hi => hd i hi)⟩
      case sc6z =>
       rintro ix oi hop d act Ws ⟨q, rfl, hR⟩ hSi hdep
       have hix : ix < 20 := (Array.getElem?_eq_some_iff.1 hop).1
       have HQ := Lib.hid hR
       have HD := Lib.hid hdep
       clear hR hdep hSi
       obtain rfl | rfl | rfl | rfl | rfl | rfl | rfl | rfl | rfl | rfl | rfl | rfl | rfl | rfl | rfl | rfl | rfl | rfl | rfl | rfl : ix = 0 ∨ ix = 1 ∨ ix = 2 ∨ ix = 3 ∨ ix = 4 ∨ ix = 5 ∨ ix = 6 ∨ ix = 7 ∨ ix = 8 ∨ ix = 9 ∨ ix = 10 ∨ ix = 11 ∨ ix = 12 ∨ ix = 13 ∨ ix = 14 ∨ ix = 15 ∨ ix = 16 ∨ ix = 17 ∨ ix = 18 ∨ ix = 19 := by omega
       all_goals (have hoo := hop; obtain rfl := Option.some.inj hop)
       ·exact oW hoo (by kernel_rfl) fun K hK => wV (v := .pointer (some ⟨w.heap.size, 0, none⟩)) (fun _ _ => trivial) (by go_simp) (hK _ _ ⟨upd q 0 (V 0), by rw [vv0.out]; kernel_rfl, HQ.out.pure (i := 0) (by omega)⟩)
       ·have e0 := (HQ.out.val 0 (by omega) (HD.out ⟨0, .data⟩ (by simp) rfl)).trans vv0.out
        refine oW hoo (by kernel_rfl) fun K hK => ?_
        obtain ⟨c0, c1, c2, c3, c4⟩ := (HS6.out.step HQ.out.bu).facts
        refine wV (v := .slice (some ⟨g, off, none⟩) N cap) (fun _ _ => trivial) (by go_simp) ?_
        exact hK _ _ ⟨upd q 1 (V 1), by rw [vv1.out]; kernel_rfl, HQ.out.pure (i := 1) (by omega)⟩
       ·exact oW hoo (by kernel_rfl) fun K hK => wV (v := .pointer (some ⟨X, 1, none⟩)) (fun _ _ => trivial) (by go_simp) (hK _ _ ⟨upd q 2 (V 2), by rw [vv2.out]; kernel_rfl, HQ.out.pure (i := 2) (by omega)⟩)
       ·have e2 := (HQ.out.val 2 (by omega) (HD.out ⟨2, .data⟩ (by simp) rfl)).trans vv2.out
        refine oW hoo (by kernel_rfl) fun K hK => ?_
        have hx5 := (HQ.out.bu.block X (blk_lt HX6.out)).trans HX6.out
        have l0 := cB hx5 0
        have l1 := cB hx5 1
        have l2 := cB hx5 2
        refine wV (v := .int .i64 ↑nb) (fun _ _ => trivial) (by go_simp) ?_
        exact hK _ _ ⟨upd q 3 (V 3), by rw [vv3.out]; kernel_rfl, HQ.out.pure (i := 3) (by omega)⟩
       ·have e1 := (HQ.out.val 1 (by omega) (HD.out ⟨1, .data⟩ (by simp) rfl)).trans vv1.out
        have e3 := (HQ.out.val 3 (by omega) (HD.out ⟨3, .data⟩ (by simp) rfl)).trans vv3.out
        refine oW hoo (by kernel_rfl) fun K hK => ?_
        have bb : ((nb : Nat) : Int) < (N : Int) := HNB.out.1
        have bb2 : nb < N := HNB.out.2
        refine wV (v := .pointer (some ⟨g, off + nb * 3, none⟩)) (fun _ _ => trivial) (by go_simp) ?_
        exact hK _ _ ⟨upd q 4 (V 4), by rw [vv4.out]; kernel_rfl, HQ.out.pure (i := 4) (by omega)⟩
       ·have e4 := (HQ.out.val 4 (by omega) (HD.out ⟨4, .data⟩ (by simp) rfl)).trans vv4.out
        exact oW hoo (by kernel_rfl) fun K hK => wV (v := .pointer (some ⟨g, off + nb * 3 + 2, none⟩)) (fun _ _ => trivial) (by go_simp) (hK _ _ ⟨upd q 5 (V 5), by rw [vv5.out]; kernel_rfl, HQ.out.pure (i := 5) (by omega)⟩)
       ·have e5 := (HQ.out.val 5 (by omega) (HD.out ⟨5, .data⟩ (by simp) rfl)).trans vv5.out
        refine oW hoo (by kernel_rfl) fun K hK => ?_
        have z0 := ((HS6.out.step HQ.out.bu).below.cell (p := ⟨g, off + nb * 3 + 2, none⟩) HG.out).trans HM3.out
        refine wV (v := .int .i64 m3) (fun _ _ => trivial) (by go_simp) ?_
        exact hK _ _ ⟨upd q 6 (V 6), by rw [vv6.out]; kernel_rfl, HQ.out.pure (i := 6) (by omega)⟩
       ·have e6 := (HQ.out.val 6 (by omega) (HD.out ⟨6, .data⟩ (by simp) rfl)).trans vv6.out
        exact oW hoo (by kernel_rfl) fun K hK => wV (v := .bool false) (fun _ _ => trivial) (by go_simp <;> simpa using HB6.out) (hK _ _ ⟨upd q 7 (V 7), by rw [vv7.out]; kernel_rfl, HQ.out.pure (i := 7) (by omega)⟩)
       ·have e7 := (HQ.out.val 7 (by omega) (HD.out ⟨7, .data⟩ (by simp) rfl)).trans vv7.out
        exact oW hoo (by kernel_rfl) fun K hK => wV (v := .bool false) (fun _ _ => trivial) (by go_simp) (hK _ _ ⟨upd q 8 (V 8), by rw [vv8.out]; kernel_rfl, HQ.out.pure (i := 8) (by omega)⟩)
       ·have e8 := (HQ.out.val 8 (by omega) (HD.out ⟨8, .guard⟩ (by simp) rfl)).trans vv8.out
        exact oW hoo (by rw [e8]; kernel_rfl) fun K hK => wV (v := .pointer (some ⟨w.heap.size, 0, none⟩)) (fun _ _ => trivial) (by go_simp) (hK _ _ ⟨upd q 9 (V 9), by rw [vv9.out]; kernel_rfl, HQ.out.pure (i := 9) (by omega)⟩)
       ·have e9 := (HQ.out.val 9 (by omega) (HD.out ⟨9, .data⟩ (by simp) rfl)).trans vv9.out
        have e8 := (HQ.out.val 8 (by omega) (HD.out ⟨8, .guard⟩ (by simp) rfl)).trans vv8.out
        refine oW hoo (by rw [e8]; kernel_rfl) fun K hK => ?_
        obtain ⟨c0, c1, c2, c3, c4⟩ := (HS6.out.step HQ.out.bu).facts
        refine wV (v := .slice (some ⟨g, off, none⟩) N cap) (fun _ _ => trivial) (by go_simp) ?_
        exact hK _ _ ⟨upd q 10 (V 10), by rw [vv10.out]; kernel_rfl, HQ.out.pure (i := 10) (by omega)⟩
       ·have e8 := (HQ.out.val 8 (by omega) (HD.out ⟨8, .guard⟩ (by simp) rfl)).trans vv8.out
        exact oW hoo (by rw [e8]; kernel_rfl) fun K hK => wV (v := .pointer (some ⟨X, 2, none⟩)) (fun _ _ => trivial) (by go_simp) (hK _ _ ⟨upd q 11 (V 11), by rw [vv11.out]; kernel_rfl, HQ.out.pure (i := 11) (by omega)⟩)
       ·have e11 := (HQ.out.val 11 (by omega) (HD.out ⟨11, .data⟩ (by simp) rfl)).trans vv11.out
        have e8 := (HQ.out.val 8 (by omega) (HD.out ⟨8, .guard⟩ (by simp) rfl)).trans vv8.out
        refine oW hoo (by rw [e8]; kernel_rfl) fun K hK => ?_
        have hx5 := (HQ.out.bu.block X (blk_lt HX6.out)).trans HX6.out
        have l0 := cB hx5 0
        have l1 := cB hx5 1
        have l2 := cB hx5 2
        refine wV (v := .int .i64 ↑nd) (fun _ _ => trivial) (by go_simp) ?_
        exact hK _ _ ⟨upd q 12 (V 12), by rw [vv12.out]; kernel_rfl, HQ.out.pure (i := 12) (by omega)⟩
       ·have e10 := (HQ.out.val 10 (by omega) (HD.out ⟨10, .data⟩ (by simp) rfl)).trans vv10.out
        have e12 := (HQ.out.val 12 (by omega) (HD.out ⟨12, .data⟩ (by simp) rfl)).trans vv12.out
        have e8 := (HQ.out.val 8 (by omega) (HD.out ⟨8, .guard⟩ (by simp) rfl)).trans vv8.out
        refine oW hoo (by rw [e8]; kernel_rfl) fun K hK => ?_
        have bb : ((nd : Nat) : Int) < (N : Int) := HND.out.1
        have bb2 : nd < N := HND.out.2
        refine wV (v := .pointer (some ⟨g, off + nd * 3, none⟩)) (fun _ _ => trivial) (by go_simp) ?_
        exact hK _ _ ⟨upd q 13 (V 13), by rw [vv13.out]; kernel_rfl, HQ.out.pure (i := 13) (by omega)⟩
       ·have e13 := (HQ.out.val 13 (by omega) (HD.out ⟨13, .data⟩ (by simp) rfl)).trans vv13.out
        have e8 := (HQ.out.val 8 (by omega) (HD.out ⟨8, .guard⟩ (by simp) rfl)).trans vv8.out
        exact oW hoo (by rw [e8]; kernel_rfl) fun K hK => wV (v := .pointer (some ⟨g, off + nd * 3 + 1, none⟩)) (fun _ _ => trivial) (by go_simp) (hK _ _ ⟨upd q 14 (V 14), by rw [vv14.out]; kernel_rfl, HQ.out.pure (i := 14) (by omega)⟩)
       ·have e14 := (HQ.out.val 14 (by omega) (HD.out ⟨14, .data⟩ (by simp) rfl)).trans vv14.out
        have e8 := (HQ.out.val 8 (by omega) (HD.out ⟨8, .guard⟩ (by simp) rfl)).trans vv8.out
        refine oW hoo (by rw [e8]; kernel_rfl) fun K hK => ?_
        have z0 := ((HS6.out.step HQ.out.bu).below.cell (p := ⟨g, off + nd * 3 + 1, none⟩) HG.out).trans HM2.out
        refine wV (v := .int .i64 m2) (fun _ _ => trivial) (by go_simp) ?_
        exact hK _ _ ⟨upd q 15 (V 15), by rw [vv15.out]; kernel_rfl, HQ.out.pure (i := 15) (by omega)⟩
       ·have e8 := (HQ.out.val 8 (by omega) (HD.out ⟨8, .guard⟩ (by simp) rfl)).trans vv8.out
        exact oW hoo (by rw [e8]; kernel_rfl) fun K hK => wV (v := .pointer (some ⟨X, 0, none⟩)) (fun _ _ => trivial) (by go_simp) (hK _ _ ⟨upd q 16 (V 16), by rw [vv16.out]; kernel_rfl, HQ.out.pure (i := 16) (by omega)⟩)
       ·have e16 := (HQ.out.val 16 (by omega) (HD.out ⟨16, .data⟩ (by simp) rfl)).trans vv16.out
        have e8 := (HQ.out.val 8 (by omega) (HD.out ⟨8, .guard⟩ (by simp) rfl)).trans vv8.out
        refine oW hoo (by rw [e8]; kernel_rfl) fun K hK => ?_
        have hx5 := (HQ.out.bu.block X (blk_lt HX6.out)).trans HX6.out
        have l0 := cB hx5 0
        have l1 := cB hx5 1
        have l2 := cB hx5 2
        refine wV (v := .int .i64 p1) (fun _ _ => trivial) (by go_simp) ?_
        exact hK _ _ ⟨upd q 17 (V 17), by rw [vv17.out]; kernel_rfl, HQ.out.pure (i := 17) (by omega)⟩
       ·have e15 := (HQ.out.val 15 (by omega) (HD.out ⟨15, .data⟩ (by simp) rfl)).trans vv15.out
        have e17 := (HQ.out.val 17 (by omega) (HD.out ⟨17, .data⟩ (by simp) rfl)).trans vv17.out
        have e8 := (HQ.out.val 8 (by omega) (HD.out ⟨8, .guard⟩ (by simp) rfl)).trans vv8.out
        exact oW hoo (by rw [e8]; kernel_rfl) fun K hK => wV (v := .bool false) (fun _ _ => trivial) (by go_simp <;> simpa using HB7.out) (hK _ _ ⟨upd q 18 (V 18), by rw [vv18.out]; kernel_rfl, HQ.out.pure (i := 18) (by omega)⟩)
       ·have e8 := (HQ.out.val 8 (by omega) (HD.out ⟨8, .data⟩ (by simp) rfl)).trans vv8.out
        have e18 := (HQ.out.val 18 (by omega) (HD.out ⟨18, .data⟩ (by simp) rfl)).trans vv18.out
        exact oW hoo (by kernel_rfl) fun K hK => wV (v := .bool false) (fun _ _ => trivial) (by go_simp) (hK _ _ ⟨upd q 19 (V 19), by rw [vv19.out]; kernel_rfl, HQ.out.pure (i := 19) (by omega)⟩)
      case fc6z =>
       rintro d act Ws ⟨q, rfl, hR⟩ hall
       have q19 : q 19 = .bool false := (hR.val 19 (by omega) (hall 19 (by decide))).trans vv19.out
       rw [q19]
       have HS7 := Lib.hid (HS6.out.step hR.bu)
       clear hR hall
       try dsimp only
       go_wp2_with fail
       try rw [EK.out]
       go_roundw
       case rel =>
        refine ⟨i + 1, HLT.out, rfl, HS7.out, HYES.out ⟨by rw [← HNN.out]; exact HB1.out, by rw [← HNN.out]; exact HB2.out, ?_, ?_, fun x hx => ?_, fun x hx => ?_⟩⟩
        ·have := of_decide_eq_false HB3.out
         show 0 ≤ p1
         omega
        ·intro j' q' hj' hq'
         have := of_decide_eq_false HB5.out
         obtain rfl : j' = j := by have := HJI.out; omega
         rw [HPQ.out] at hq'
         injection hq' with hq'
         subst hq'
         show q1 < p1
         omega
        ·have hx : ns[nb]? = some x := hx
         rw [HXB.out] at hx
         injection hx with hx
         subst hx
         exact HN3.out
        ·have hx : ns[nd]? = some x := hx
         rw [HXD.out] at hx
         injection hx with hx
         subst hx
         exact HS2'.out
       case measure =>
        have := HLT.out
        show M - ((i + 1 : Nat) : Int).toNat < M - (i : Int).toNat
        omega
    ·have hjn : M = i := by omega
     have tl : decide ((i : Int) < (M : Int)) = false := decide_eq_false (by omega)
     have tl' : decide (i < M) = false := decide_eq_false hlt
     obtain rfl := HB.out.2 ⟨by rw [← HNN.out]; exact H1.out.1, by rw [← HNN.out]; exact H1.out.2, by rw [← HNN.out]; exact HLA.out, by rw [← HNN.out]; exact HDO.out, fun x hx => by rw [HX0.out] at hx; injection hx with hx; subst hx; exact ⟨rfl, rfl⟩,
      fun j x hx => by rw [← HNN.out]; exact HA2.out j x hx, fun j p hp => HAP.out j (by have := (List.getElem?_eq_some_iff.1 hp).1; rw [← HMM.out] at this; omega) p hp⟩
     clear hlt hi hjn
     go_wp2_with fail
     go_ret
     exact ⟨rfl, HS2.out.below⟩
end Go.Proofs.Ytgbafpjeapkklaa.Mb
