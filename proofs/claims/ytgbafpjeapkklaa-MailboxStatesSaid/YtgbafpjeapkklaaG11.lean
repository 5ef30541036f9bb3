/- Parts Sb, Tt, Tm, Tr, Sc, Sd, Rb, Rc of the proof. -/
import Derived.Test.YtgbafpjeapkklaaG5
import Derived.Test.YtgbafpjeapkklaaG7
import Derived.Test.YtgbafpjeapkklaaG8
import Derived.Test.YtgbafpjeapkklaaG9
import Derived.Test.YtgbafpjeapkklaaG10
namespace Go.Proofs.Ytgbafpjeapkklaa.Mb
open Go.RowKit Go.Proofs.YtgbafpjeapkklaaW.PrintWords PMailboxRuns
set_option linter.unusedVariables false
set_option linter.unusedSimpArgs false
theorem wrapm {z : Int} (h0 : -1 ≤ z) (h1 : z < 100000) : wrap64 z = z := by unfold wrap64; omega
end Go.Proofs.Ytgbafpjeapkklaa.Mb
namespace Go.Proofs.Ytgbafpjeapkklaa.Mb
open Go.RowKit Go.Proofs.YtgbafpjeapkklaaW.PrintWords PMailboxRuns
set_option linter.unusedVariables false
set_option linter.unusedSimpArgs false
theorem idx_cases (ps : List T3) (p : Int) : (idx (fun x => x.1 == p) ps = -1 ∧ ∀ o ∈ ps, o.1 ≠ p) ∨ ∃ (i : Nat) (o : T3), ps[i]? = some o ∧ o.1 = p ∧ idx (fun x => x.1 == p) ps = (i : Int) ∧ ∀ j y, j < i → ps[j]? = some y → y.1 ≠ p := by
 cases h : ps.findIdx? fun x => x.1 == p with
 | none =>
  left
  refine ⟨by unfold idx; rw [h], fun o ho e => ?_⟩
  rw [List.findIdx?_eq_none_iff] at h
  have := h o ho
  simp [e] at this
 | some i =>
  right
  have hi := h
  rw [List.findIdx?_eq_some_iff_getElem] at hi
  obtain ⟨hl, h1, h2⟩ := hi
  refine ⟨i, ps[i], List.getElem?_eq_getElem hl, by simpa using h1, by unfold idx; rw [h], fun j y hj hy => ?_⟩
  obtain ⟨g1, g2⟩ := List.getElem?_eq_some_iff.1 hy
  have := h2 j hj
  rw [g2] at this
  simpa using this
theorem Formed.sorted {ns ps : List T3} {last done : Int} (h : Formed ns last done ps) : ∀ (d i : Nat) (a b : T3), ps[i]? = some a → ps[i + d + 1]? = some b → a.1 < b.1
 | 0, i, a, b, ha, hb => (h.push _ _ hb).2.2.2.1 i a rfl ha
 | d + 1, i, a, b, ha, hb => by
  have hl := (List.getElem?_eq_some_iff.1 hb).1
  obtain ⟨c, hc⟩ : ∃ c, ps[i + d + 1]? = some c := ⟨ps[i + d + 1]'(by omega), by simp⟩
  have h1 := h.sorted d i a c ha hc
  have h2 := (h.push _ _ hb).2.2.2.1 (i + d + 1) c (by omega) hc
  omega
theorem Formed.lt {ns ps : List T3} {last done : Int} (h : Formed ns last done ps) {i j : Nat} {a b : T3} (hij : i < j) (ha : ps[i]? = some a) (hb : ps[j]? = some b) : a.1 < b.1 := by
 obtain ⟨d, rfl⟩ : ∃ d, j = i + d + 1 := ⟨j - i - 1, by omega⟩
 exact h.sorted d i a b ha hb
theorem posG_sorted {ns ps : List T3} {last done : Int} (h : Formed ns last done ps) (p : Int) : (∀ j o, j < posG ps p → ps[j]? = some o → o.1 < p) ∧ (∀ j o, posG ps p ≤ j → ps[j]? = some o → p ≤ o.1) := by
 refine ⟨fun j o hj ho => ?_, fun j o hj ho => ?_⟩
 ·have h1 := List.not_of_lt_findIdx (p := fun o : T3 => decide (p ≤ o.1)) (xs := ps) (i := j) hj
  obtain ⟨g1, g2⟩ := List.getElem?_eq_some_iff.1 ho
  rw [g2] at h1
  simp at h1
  exact h1
 ·obtain ⟨g1, g2⟩ := List.getElem?_eq_some_iff.1 ho
  have hlt : posG ps p < ps.length := by omega
  have h1 := List.findIdx_getElem (p := fun o : T3 => decide (p ≤ o.1)) (xs := ps) (w := hlt)
  have h2 : p ≤ (ps[posG ps p]).1 := of_decide_eq_true h1
  rcases Nat.lt_or_ge (posG ps p) j with hh | hh
  ·have := h.lt hh (List.getElem?_eq_getElem hlt) ho
   omega
  ·have e : posG ps p = j := by omega
   have : ps[posG ps p] = o := by simp only [e]; exact g2
   rw [this] at h2
   exact h2
theorem rdPj {ps : List T3} {j : Nat} {o : T3} (h : ps[j]? = some o) : rZ2 (L122 ps) (j : Int) = n122 o := by
 rw [rdPg (List.getElem?_eq_some_iff.1 h).1, pgt_of h]
section
variable {ns ps : List T3} {last done : Int} {em : Bool}
theorem check_right (h : RightS ns last done ps em) : Ev (fun k => hackamoreref28_Check.f k (L105 ns) last done (L122 ps) em) 0 :=
 check_evR (by have := h.few; omega) (fun _ => rfl) (fun hn => absurd (right_iff.1 h) hn)
theorem check_wrong (hP : ps.length ≤ 2000) (h : ¬ RightS ns last done ps em) : Ev (fun k => hackamoreref28_Check.f k (L105 ns) last done (L122 ps) em) 14 :=
 check_evR hP (fun hr => absurd (right_iff.2 hr) h) (fun _ => rfl)
theorem begin_goG (hr : RightS ns last done ps em) {p x : Int} (hno : ∀ o ∈ ps, o.1 ≠ p) (hm : ns.length < 2000) : ∀ i at', at' = max (posG ps p) i → i ≤ ps.length →
  Ev (fun k => hackamoreref28_Begin.l0 k p x (at' : Int) ((i : Int) - 1) (L105 ns) last done (L122 ps) em)
   (L105 (ns ++ [(x, p, -1)]), (ns.length : Int), done, L122 (ps.take (posG ps p) ++ (p, last, (ns.length : Int)) :: ps.drop (posG ps p)), false, em, 0) := by
 obtain ⟨hf1, hf2⟩ := hr.few
 have hpl := posG_le ps p
 obtain ⟨hlo, hhi⟩ := posG_sorted hr.1 p
 intro i
 induction i with
 | zero =>
  intro at' hat _
  obtain rfl : at' = posG ps p := by omega
  refine Ev.step (f := fun _ => some (L105 (ns ++ [(x, p, -1)]), (ns.length : Int), done, L122 (ps.take (posG ps p) ++ (p, last, (ns.length : Int)) :: ps.drop (posG ps p)), false, em, 0)) (fun k => ?_) (Ev.now _)
  simp only [hackamoreref28_Begin.l0, Option.bind_some]
  rw [if_neg (by omega), L105_l, L122_l, if_neg (by omega), if_pos (by omega), if_pos (by omega)]
  have ht : ((posG ps p : Nat) : Int).toNat = posG ps p := by omega
  rw [ht]
  have hl1 : ((L122 ps).take (posG ps p)).length ≤ ps.length := by rw [List.length_take, L122_l]; omega
  have hl2 : ((L122 ps).drop (posG ps p)).length ≤ ps.length := by rw [List.length_drop, L122_l]; omega
  rw [List.nil_append, List.nil_append, if_pos (by simp only [List.length_nil]; omega), if_pos (by omega), if_pos (by rw [List.length_append]; simp only [List.length_cons, List.length_nil]; omega), if_pos (by simp only [List.length_nil]; omega), if_pos (by rw [L105_l]; omega)]
  have e1 : L105 ns ++ [(⟨x, p, -1⟩ : S105)] = L105 (ns ++ [(x, p, -1)]) := by simp [L105, n105]
  have e2 : (L122 ps).take (posG ps p) ++ [(⟨p, last, (ns.length : Int)⟩ : S122)] ++ (L122 ps).drop (posG ps p) = L122 (ps.take (posG ps p) ++ (p, last, (ns.length : Int)) :: ps.drop (posG ps p)) := by
   simp [L122, n122, List.map_take, List.map_drop]
  rw [e1, e2]
 | succ i ih =>
  intro at' hat hi
  obtain ⟨o, ho⟩ : ∃ o, ps[i]? = some o := ⟨ps[i], by simp [show i < ps.length by omega]⟩
  refine Ev.step (fun k => ?_) (ih (max (posG ps p) i) rfl (by omega))
  simp only [hackamoreref28_Begin.l0]
  have e1 : ((i + 1 : Nat) : Int) - 1 = (i : Int) := by omega
  have hne : ¬ (n122 o).f0 = p := hno o (List.mem_of_getElem? ho)
  rw [e1, L122_l, if_pos (by omega), if_pos (by omega), if_pos (by omega), rdPj ho, if_neg hne, wrapm (by omega) (by omega)]
  have hne' : o.1 ≠ p := hne
  by_cases hgt : posG ps p ≤ i
  ·have hge := hhi i o hgt ho
   rw [if_pos (show (n122 o).f0 > p by show o.1 > p; omega)]
   congr 1
   omega
  ·have hlt := hlo i o (by omega) ho
   rw [if_neg (show ¬ (n122 o).f0 > p by show ¬ o.1 > p; omega)]
   congr 1
   omega
theorem begin_evG (hr : RightS ns last done ps em) {p x : Int} (hp : 0 ≤ p) (hno : ∀ o ∈ ps, o.1 ≠ p) (hm : ns.length < 2000) :
  Ev (fun k => hackamoreref28_Begin.f k (L105 ns) last done (L122 ps) em p x) (L105 (ns ++ [(x, p, -1)]), (ns.length : Int), done, L122 (ps.take (posG ps p) ++ (p, last, (ns.length : Int)) :: ps.drop (posG ps p)), false, em, 0) := by
 have hpl := posG_le ps p
 obtain ⟨hf1, hf2⟩ := hr.few
 refine Ev.bind (check_right hr) (Ev.congr (fun k => ?_) (begin_goG hr hno hm ps.length ps.length (by omega) (Nat.le_refl _)))
 rw [if_pos rfl, if_neg (by omega), L122_l, wrapm (by omega) (by omega)]
theorem begin_neg_evG (hr : RightS ns last done ps em) {p x : Int} (hp : p < 0) :
  Ev (fun k => hackamoreref28_Begin.f k (L105 ns) last done (L122 ps) em p x) ([], 0, 0, [], false, false, 1) := by
 refine Ev.bind (check_right hr) (Ev.congr (fun k => ?_) (Ev.now _))
 rw [if_pos rfl, if_pos hp]
theorem begin_wrong (hP : ps.length ≤ 2000) (h : ¬ RightS ns last done ps em) {p x : Int} :
  Ev (fun k => hackamoreref28_Begin.f k (L105 ns) last done (L122 ps) em p x) ([], 0, 0, [], false, false, 14) := by
 refine Ev.bind (check_wrong hP h) (Ev.congr (fun k => ?_) (Ev.now _))
 rw [if_neg (by decide)]
theorem begin_busy_goG (hf : ps.length ≤ 2000) {p x : Int} {j : Nat} {o : T3} (ho : ps[j]? = some o) (hop : o.1 = p) : ∀ i, j < i → i ≤ ps.length → ∀ at' : Int,
  Ev (fun k => hackamoreref28_Begin.l0 k p x at' ((i : Int) - 1) (L105 ns) last done (L122 ps) em) ([], 0, 0, [], false, false, 300) := by
 intro i
 induction i with
 | zero => intro h; omega
 | succ i ih =>
  intro hj hi at'
  obtain ⟨oi, hoi⟩ : ∃ o, ps[i]? = some o := ⟨ps[i], by simp [show i < ps.length by omega]⟩
  have e1 : ((i + 1 : Nat) : Int) - 1 = (i : Int) := by omega
  rw [e1]
  by_cases hpi : oi.1 = p
  ·refine Ev.step (f := fun _ => some ([], 0, 0, [], false, false, 300)) (fun k => ?_) (Ev.now _)
   simp only [hackamoreref28_Begin.l0]
   rw [L122_l, if_pos (by omega), if_pos (by omega), if_pos (by omega), rdPj hoi, if_pos (show (n122 oi).f0 = p from hpi)]
  ·have hji : j < i := by
    rcases Nat.lt_or_ge j i with h | h
    ·exact h
    ·have : j = i := by omega
     subst this
     rw [ho] at hoi
     injection hoi with hoi
     rw [← hoi] at hpi
     exact absurd hop hpi
   have hpi' : ¬ (n122 oi).f0 = p := hpi
   by_cases hgt : (n122 oi).f0 > p
   ·refine Ev.step (fun k => ?_) (ih hji (by omega) (i : Int))
    simp only [hackamoreref28_Begin.l0]
    rw [L122_l, if_pos (by omega), if_pos (by omega), if_pos (by omega), rdPj hoi, if_neg hpi', wrapm (by omega) (by omega), if_pos hgt]
   ·refine Ev.step (fun k => ?_) (ih hji (by omega) at')
    simp only [hackamoreref28_Begin.l0]
    rw [L122_l, if_pos (by omega), if_pos (by omega), if_pos (by omega), rdPj hoi, if_neg hpi', wrapm (by omega) (by omega), if_neg hgt]
theorem begin_busy_evG (hr : RightS ns last done ps em) {p x : Int} (hp : 0 ≤ p) {j : Nat} {o : T3} (ho : ps[j]? = some o) (hop : o.1 = p) :
  Ev (fun k => hackamoreref28_Begin.f k (L105 ns) last done (L122 ps) em p x) ([], 0, 0, [], false, false, 300) := by
 obtain ⟨hf1, hf2⟩ := hr.few
 have hjl := (List.getElem?_eq_some_iff.1 ho).1
 refine Ev.bind (check_right hr) (Ev.congr (fun k => ?_) (begin_busy_goG (ns := ns) (last := last) (done := done) (em := em) hf2 (x := x) ho hop ps.length hjl (Nat.le_refl _) (ps.length : Int)))
 rw [if_pos rfl, if_neg (by omega), L122_l, wrapm (by omega) (by omega)]
theorem finish_goG (hr : RightS ns last done ps em) {p nd : Int} {i b : Nat} {bx : T3} (ho : ps[i]? = some (p, (b : Int), nd)) (hbx : ns[b]? = some bx) : ∀ d j, j + d = i →
  Ev (fun k => hackamoreref28_Finish.l0 k p (j : Int) (L105 ns) last done (L122 ps) em)
   (L105 (ns.set b (bx.1, bx.2.1, nd)), last, done, L122 (ps.eraseIdx i), em, 0) := by
 obtain ⟨hf1, hf2⟩ := hr.few
 have hil := (List.getElem?_eq_some_iff.1 ho).1
 have hbl := (List.getElem?_eq_some_iff.1 hbx).1
 intro d
 induction d with
 | zero =>
  intro j hj
  obtain rfl : j = i := by omega
  have hrp : rZ2 (L122 ps) (j : Int) = ⟨p, (b : Int), nd⟩ := by rw [rdPj ho]; rfl
  have hrn : rZ5 (L105 ns) (b : Int) = n105 bx := by
   rw [rdNf (by omega) (by omega)]
   congr 1
   simp [ngt, List.getD_eq_getElem?_getD, hbx]
  refine Ev.step (f := fun _ => some (L105 (ns.set b (bx.1, bx.2.1, nd)), last, done, L122 (ps.eraseIdx j), em, 0)) (fun k => ?_) (Ev.now _)
  simp only [hackamoreref28_Finish.l0]
  rw [hrp, L122_l, if_pos (by omega), if_pos (by omega), if_pos rfl, Option.bind_some, L105_l, if_pos (by rw [List.length_nil]; omega), Option.bind_some, List.nil_append]
  rw [if_pos (show (0 : Int) ≤ (b : Int) by omega), L105_l, if_pos (show (b : Int) < (ns.length : Int) by omega), Option.bind_some, if_pos (show (j : Int) ≤ (ps.length : Int) by omega), Option.bind_some, wrap_small (by omega) (by omega)]
  have ht : ((j : Nat) : Int).toNat = j := by omega
  have ht2 : ((j : Int) + 1).toNat = j + 1 := by omega
  have ht3 : ((b : Nat) : Int).toNat = b := by omega
  have hl1 : ((L122 ps).take j).length ≤ ps.length := by rw [List.length_take, L122_l]; omega
  have hl2 : ((L122 ps).drop (j + 1)).length ≤ ps.length := by rw [List.length_drop, L122_l]; omega
  rw [ht, ht2, ht3, if_pos (by rw [List.length_nil]; omega), Option.bind_some, List.nil_append, if_pos (show (0 : Int) ≤ (j : Int) + 1 by omega), if_pos (show (j : Int) + 1 ≤ (ps.length : Int) by omega), Option.bind_some, if_pos (by omega), hrn]
  have e1 : (L105 ns).set b ⟨(n105 bx).f0, (n105 bx).f1, nd⟩ = L105 (ns.set b (bx.1, bx.2.1, nd)) := by
   simp only [L105, List.map_set]
   rfl
  have e2 : (L122 ps).take j ++ (L122 ps).drop (j + 1) = L122 (ps.eraseIdx j) := by
   rw [List.eraseIdx_eq_take_drop_succ]
   simp [L122, List.map_take, List.map_drop]
  rw [e1, e2]
 | succ d ih =>
  intro j hj
  obtain ⟨oj, hoj⟩ : ∃ o, ps[j]? = some o := ⟨ps[j], by simp [show j < ps.length by omega]⟩
  have hs := hr.1.lt (i := j) (j := i) (by omega) hoj ho
  simp only at hs
  refine Ev.step (fun k => ?_) (ih (j + 1) (by omega))
  simp only [hackamoreref28_Finish.l0]
  rw [rdPj hoj, L122_l, if_pos (by omega), if_pos (by omega), if_neg (show ¬ (n122 oj).f0 = p by show ¬ oj.1 = p; omega), wrap_small (by omega) (by omega)]
  rfl
theorem finish_evG (hr : RightS ns last done ps em) {p nd : Int} {i b : Nat} {bx : T3} (ho : ps[i]? = some (p, (b : Int), nd)) (hbx : ns[b]? = some bx) :
  Ev (fun k => hackamoreref28_Finish.f k (L105 ns) last done (L122 ps) em p) (L105 (ns.set b (bx.1, bx.2.1, nd)), last, done, L122 (ps.eraseIdx i), em, 0) := by
 refine Ev.bind (check_right hr) (Ev.congr (fun k => ?_) (finish_goG hr ho hbx i 0 (by omega)))
 rw [if_pos rfl]
 rfl
theorem finish_none_goG (hf : ps.length ≤ 2000) {p : Int} (hno : ∀ o ∈ ps, o.1 ≠ p) : ∀ d j, j + d = ps.length →
  Ev (fun k => hackamoreref28_Finish.l0 k p (j : Int) (L105 ns) last done (L122 ps) em) ([], 0, 0, [], false, 301) := by
 intro d
 induction d with
 | zero =>
  intro j hj
  refine Ev.step (f := fun _ => some ([], 0, 0, [], false, 301)) (fun k => ?_) (Ev.now _)
  simp only [hackamoreref28_Finish.l0]
  rw [L122_l, if_neg (by omega)]
 | succ d ih =>
  intro j hj
  obtain ⟨oj, hoj⟩ : ∃ o, ps[j]? = some o := ⟨ps[j], by simp [show j < ps.length by omega]⟩
  refine Ev.step (fun k => ?_) (ih (j + 1) (by omega))
  simp only [hackamoreref28_Finish.l0]
  rw [rdPj hoj, L122_l, if_pos (by omega), if_pos (by omega), if_neg (show ¬ (n122 oj).f0 = p from hno _ (List.mem_of_getElem? hoj)), wrap_small (by omega) (by omega)]
  rfl
theorem finish_none_evG (hr : RightS ns last done ps em) {p : Int} (hno : ∀ o ∈ ps, o.1 ≠ p) :
  Ev (fun k => hackamoreref28_Finish.f k (L105 ns) last done (L122 ps) em p) ([], 0, 0, [], false, 301) := by
 refine Ev.bind (check_right hr) (Ev.congr (fun k => ?_) (finish_none_goG (ns := ns) (last := last) (done := done) (em := em) (by have := hr.few; omega) hno ps.length 0 (by omega)))
 rw [if_pos rfl]
 rfl
theorem finish_wrong (hP : ps.length ≤ 2000) (h : ¬ RightS ns last done ps em) {p : Int} :
  Ev (fun k => hackamoreref28_Finish.f k (L105 ns) last done (L122 ps) em p) ([], 0, 0, [], false, 14) := by
 refine Ev.bind (check_wrong hP h) (Ev.congr (fun k => ?_) (Ev.now _))
 rw [if_neg (by decide)]
def Nx (ns ps : List T3) (E Y : Int) : Prop := nxtG ns E = Y ∨ (nxtG ns E = -1 ∧ ∃ i : Nat, i < ps.length ∧ (pgt ps i).2.1 = E ∧ (pgt ps i).2.2 = Y)
def Con (ns ps : List T3) : List Int → Prop
 | [] => True
 | x :: t => (∀ y, t.head? = some y → Nx ns ps x y) ∧ Con ns ps t
theorem Con.get {ns ps : List T3} : ∀ {l : List Int} {j : Nat} {E Y : Int}, Con ns ps l → l[j]? = some E → l[j + 1]? = some Y → Nx ns ps E Y
 | [], j, E, Y, _, h, _ => by simp at h
 | x :: t, 0, E, Y, hc, h1, h2 => by
  simp at h1
  subst h1
  exact hc.1 Y (by rw [List.head?_eq_getElem?]; simpa using h2)
 | x :: t, j + 1, E, Y, hc, h1, h2 => Con.get (j := j) hc.2 (by simpa using h1) (by simpa using h2)
theorem Con.app {ns ps : List T3} : ∀ {t u : List Int}, Con ns ps t → Con ns ps u → (∀ (h : t ≠ []) y, u.head? = some y → Nx ns ps (t.getLast h) y) → Con ns ps (t ++ u)
 | [], u, _, h, _ => h
 | x :: [], u, h1, h2, h3 => ⟨fun y hy => h3 (by simp) y hy, h2⟩
 | x :: z :: t, u, h1, h2, h3 => ⟨fun y hy => h1.1 y (by simpa using hy), Con.app h1.2 h2 (fun h y hy => by have := h3 (by simp) y hy; rwa [List.getLast_cons h] at this)⟩
theorem Pth.con {ns ps : List T3} : ∀ {t : List Int} {i : Int}, Pth ns i t → Con ns ps t
 | [], i, _ => trivial
 | x :: [], i, h => ⟨fun y hy => by simp at hy, trivial⟩
 | x :: z :: t, i, h => ⟨fun y hy => by
   simp at hy
   subst hy
   exact .inl h.2.2.1, h.2.2.con⟩
theorem Pth.head {ns : List T3} {t : List Int} {i : Int} (h : Pth ns i t) (ht : t ≠ []) : t.head? = some i := by
 cases t with
 | nil => exact absurd rfl ht
 | cons x t => rw [h.1]; rfl
theorem Lnk.con {ns ps : List T3} : ∀ {ks : List Nat} {e : Int} {u : List Int} {e' : Int}, Lnk ns ps ks e u e' → nxtG ns e = -1 → Con ns ps u ∧ (∀ y, u.head? = some y → Nx ns ps e y) ∧ (u = [] → e = e') ∧ (∀ h : u ≠ [], u.getLast h = e')
 | [], e, u, e', h, _ => by
  obtain ⟨rfl, rfl⟩ := h
  exact ⟨trivial, fun y hy => by simp at hy, fun _ => rfl, fun h => absurd rfl h⟩
 | k :: ks, e, u, e', h, hn => by
  obtain ⟨hk, he, t, u', ht, hp, rfl, h'⟩ := h
  obtain ⟨h1, h2, h3, h4⟩ := h'.con (hp.last ht)
  refine ⟨Con.app hp.con h1 (fun _ y hy => h2 y hy), fun y hy => ?_, fun h => ?_, fun h => ?_⟩
  ·have hh : (t ++ u').head? = some (pgt ps k).2.2 := by rw [List.head?_append, hp.head ht]; rfl
   rw [hh] at hy
   injection hy with hy
   subst hy
   exact .inr ⟨hn, k, hk, he, rfl⟩
  ·exact absurd (List.append_eq_nil_iff.1 h).1 ht
  ·by_cases hu : u' = []
   ·subst hu
    simpa using h3 rfl
   ·rw [List.getLast_append_of_ne_nil h hu]
    exact h4 hu
theorem order_facts (hr : RightS ns last done ps em) : ∃ O : List Int, O.Nodup ∧ O.length = ns.length ∧ (∀ x ∈ O, InR ns.length x) ∧ Con ns ps O ∧ done ∈ O ∧ (∀ h : O ≠ [], O.getLast h = last) ∧ ordR ns ps last (ns.length + 2) [] 0 0 = O := by
 obtain ⟨t, u, ks, ht, hp, hL, hkl, hnd, hlen, hdn, ho⟩ := order_of_right hr
 obtain ⟨h1, h2, h3, h4⟩ := hL.con (hp.last ht)
 refine ⟨t ++ u, hnd, hlen, ?_, Con.app hp.con h1 (fun _ y hy => h2 y hy), List.mem_append_left _ hdn, fun h => ?_, ho⟩
 ·intro x hx
  rcases List.mem_append.1 hx with hx | hx
  ·exact hp.inr x hx
  ·exact hL.inr x hx
 ·by_cases hu : u = []
  ·subst hu
   simpa using h3 rfl
  ·rw [List.getLast_append_of_ne_nil h hu]
   exact h4 hu
def waitL (ns : List T3) (O : List Int) (done : Int) : List Int := (O.drop (O.findIdx (· == done) + 1)).map fun x => (ngt ns x.toNat).1
theorem idx_push {ps : List T3} (hd : DupFree ps) {i : Nat} (hi : i < ps.length) {E : Int} (hE : (pgt ps i).2.1 = E) : idx (fun x => x.2.1 == E) ps = (i : Int) := by
 refine idx_found (List.getElem?_eq_getElem hi) (by rw [← hE]; simp [pgt, List.getD_eq_getElem?_getD, List.getElem?_eq_getElem hi]) fun j y hj hy => ?_
 have hjl : j < ps.length := by omega
 have : ¬ (pgt ps j).2.1 = E := fun e => by
  have := dup_uniq hd hjl hi (e.trans hE.symm)
  omega
 rw [pgt_of hy] at this
 simpa using this
theorem rest_of (hr : RightS ns last done ps em) {O : List Int} (h1 : O.Nodup) (h2 : O.length = ns.length) (h3 : ∀ x ∈ O, InR ns.length x) (h4 : Con ns ps O) (h5 : done ∈ O) (h6 : ∀ h : O ≠ [], O.getLast h = last) :
  Rest ns ps last done (O.drop (O.findIdx (· == done))) (waitL ns O done) := by
 have hlt : O.findIdx (· == done) < O.length := List.findIdx_lt_length_of_exists ⟨done, h5, by simp⟩
 have hat : O[O.findIdx (· == done)]? = some done := by
  rw [List.getElem?_eq_getElem hlt]
  have := List.findIdx_getElem (p := (· == done)) (xs := O) (w := hlt)
  simp at this
  rw [this]
 generalize hd0 : O.findIdx (· == done) = d0 at *
 have hwl : (waitL ns O done).length = O.length - (d0 + 1) := by unfold waitL; rw [hd0, List.length_map, List.length_drop]
 have hf := hr.few
 have hne : O ≠ [] := by rintro rfl; simp at hlt
 have hlast : O[O.length - 1]? = some last := by
  rw [← List.getLast?_eq_getElem?, List.getLast?_eq_some_getLast hne, h6 hne]
 refine ⟨by rw [List.getElem?_drop]; exact hat, ?_, by omega, fun n E hn hE => ?_⟩
 ·rw [List.getElem?_drop, hwl, show d0 + (O.length - (d0 + 1)) = O.length - 1 by omega]
  exact hlast
 ·rw [List.getElem?_drop] at hE
  have hl : d0 + n + 1 < O.length := by omega
  have hY := List.getElem?_eq_getElem hl
  refine ⟨?_, O[d0 + n + 1], ?_, h3 E (List.mem_of_getElem? hE), h3 _ (List.getElem_mem hl), ?_, ?_⟩
  ·rintro rfl
   have := (List.getElem?_inj (by omega) h1).1 (hE.trans hlast.symm)
   omega
  ·rw [List.getElem?_drop, ← Nat.add_assoc]
   exact hY
  ·unfold waitL
   rw [hd0, List.getElem?_map, List.getElem?_drop, show d0 + 1 + n = d0 + n + 1 by omega, hY]
   rfl
  ·rcases h4.get hE hY with h | ⟨h, i, hi, he, hp⟩
   ·exact .inl h
   ·exact .inr ⟨h, i, hi, idx_push hr.2.1 hi he, hp⟩
theorem waiting_goG {O : List Int} (hN : ns.length ≤ 2000) (hl : O.length = ns.length) (h1 : O.Nodup) (h3 : ∀ x ∈ O, InR ns.length x) {d0 : Nat} (hd0 : O[d0]? = some done) : ∀ d i, i + d = O.length →
  Ev (fun k => hackamoreref28_Waiting.l0 k (((O.take i).drop (d0 + 1)).map fun x => (ngt ns x.toNat).1) O (decide (d0 < i)) (i : Int) (L105 ns) last done (L122 ps) em) ((O.drop (d0 + 1)).map fun x => (ngt ns x.toNat).1, 0) := by
 have hdl := (List.getElem?_eq_some_iff.1 hd0).1
 intro d
 induction d with
 | zero =>
  intro i hi
  obtain rfl : i = O.length := by omega
  refine Ev.step (f := fun _ => some ((O.drop (d0 + 1)).map fun x => (ngt ns x.toNat).1, 0)) (fun k => ?_) (Ev.now _)
  simp only [hackamoreref28_Waiting.l0]
  rw [if_neg (by omega), List.take_length]
 | succ d ih =>
  intro i hi
  refine Ev.step (fun k => ?_) (ih (i + 1) (by omega))
  have hil : i < O.length := by omega
  simp only [hackamoreref28_Waiting.l0]
  rw [if_pos (by omega), wrap_small (by omega) (by omega)]
  have hrd : rd O (i : Int) = O[i] := rd_at hil
  have hin := h3 _ (List.getElem_mem hil)
  by_cases hlt : d0 < i
  ·have hle : (((O.take i).drop (d0 + 1)).map fun x => (ngt ns x.toNat).1).length ≤ 2000 := by rw [List.length_map, List.length_drop, List.length_take]; omega
   rw [if_pos (by simpa using hlt), if_pos (by omega), hrd, if_pos hin.1, L105_l, if_pos hin.2, if_pos (by omega), rdNf hin.1 hin.2]
   have h2 : (((O.take i).drop (d0 + 1)).map fun x => (ngt ns x.toNat).1) ++ [(n105 (ngt ns (O[i]).toNat)).f0] = ((O.take (i + 1)).drop (d0 + 1)).map fun x => (ngt ns x.toNat).1 := by
    rw [List.take_add_one, List.getElem?_eq_getElem hil]
    rw [List.drop_append_of_le_length (by rw [List.length_take]; omega)]
    simp [n105]
   rw [h2, show decide (d0 < i + 1) = true by simp; omega]
   rfl
  ·have hz : (((O.take i).drop (d0 + 1)).map fun x => (ngt ns x.toNat).1) = ((O.take (i + 1)).drop (d0 + 1)).map fun x => (ngt ns x.toNat).1 := by
    rw [List.drop_eq_nil_of_le (by rw [List.length_take]; omega), List.drop_eq_nil_of_le (by rw [List.length_take]; omega)]
   rw [if_neg (by simpa using hlt), if_pos (by omega), hrd, hz]
   have : (O[i] == done) = decide (d0 < i + 1) := by
    rw [Bool.eq_iff_iff]
    simp only [beq_iff_eq, decide_eq_true_eq]
    constructor
    ·intro e
     have := (List.getElem?_inj hil h1).1 (by rw [hd0, List.getElem?_eq_getElem hil, e] : O[i]? = O[d0]?)
     omega
    ·intro e
     obtain rfl : i = d0 := by omega
     rw [List.getElem?_eq_getElem hil] at hd0
     injection hd0
   rw [this]
   rfl
theorem waiting_evG (hr : RightS ns last done ps em) {O : List Int} (h1 : O.Nodup) (h2 : O.length = ns.length) (h3 : ∀ x ∈ O, InR ns.length x) (h5 : done ∈ O) (ho : ordR ns ps last (ns.length + 2) [] 0 0 = O) :
  Ev (fun k => hackamoreref28_Waiting.f k (L105 ns) last done (L122 ps) em) (waitL ns O done, 0) := by
 obtain ⟨hf1, hf2⟩ := hr.few
 have hlt : O.findIdx (· == done) < O.length := List.findIdx_lt_length_of_exists ⟨done, h5, by simp⟩
 have hat : O[O.findIdx (· == done)]? = some done := by
  rw [List.getElem?_eq_getElem hlt]
  have := List.findIdx_getElem (p := (· == done)) (xs := O) (w := hlt)
  simp at this
  rw [this]
 have hord : Ev (fun k => hackamoreref28_Order.f k (L105 ns) last done (L122 ps) em) O := by
  have := order_evR (x2 := done) (x4 := em) (last := last) hf1 hf2 (fun k hk => by
   have := (hr.1.push k _ (List.getElem?_eq_getElem hk)).2.1.1
   rw [pgt_of (List.getElem?_eq_getElem hk)]
   exact this) (ns.length + 2) [] 0 0 (by simp) (by simp) (by simp)
  rw [ho] at this
  exact this
 refine Ev.bind (check_right hr) (Ev.congr (f := fun k => (hackamoreref28_Order.f k (L105 ns) last done (L122 ps) em).bind fun t336 => (hackamoreref28_Waiting.l0 k (([] : List Int)) t336 false 0 (L105 ns) last done (L122 ps) em)) (fun k => ?_) (Ev.bind hord ?_))
 ·rw [if_pos rfl]
 ·have := waiting_goG (ps := ps) (last := last) (em := em) hf1 h2 h1 h3 hat O.length 0 (by omega)
  rw [show decide (O.findIdx (· == done) < 0) = false by simp] at this
  simp only [List.take_zero, List.drop_nil, List.map_nil] at this
  exact this
theorem waiting_wrong (hP : ps.length ≤ 2000) (h : ¬ RightS ns last done ps em) :
  Ev (fun k => hackamoreref28_Waiting.f k (L105 ns) last done (L122 ps) em) ([], 14) := by
 refine Ev.bind (check_wrong hP h) (Ev.congr (fun k => ?_) (Ev.now _))
 rw [if_neg (by decide)]
end
end Go.Proofs.Ytgbafpjeapkklaa.Mb
namespace Go.Proofs.Ytgbafpjeapkklaa.Mb
open Go.RowKit
set_option linter.unusedVariables false
set_option linter.unusedSimpArgs false
set_option maxRecDepth 100000 in
set_option maxHeartbeats 4000000 in
theorem popYes_g {ns ps : List T3} {last done : Int} {em : Bool} (hr : RightS ns last done ps em) {v : Value} (hc : InR ns.length (nxtG ns done)) (w : World) (hv : StG w v ns last done ps em) :
  Calls Try.prog 21 #[v] w fun e w' => ∃ v', e = .returned (.tuple #[v', .int .i64 (ngt ns (nxtG ns done).toNat).1, .bool true, .int .i64 0]) ∧ StG w' v' ns last (nxtG ns done) ps em ∧ Below w.heap.size w w' := by
 obtain ⟨hf1, hf2⟩ := hr.few
 have HDI := Lib.hid hr.1.done
 obtain ⟨vn, vp, rfl, hn, hp⟩ := hv
 have HCK : Hid (∀ W, Below w.heap.size w W → Calls Try.prog 18 #[.agg #[vn, .int .i64 last, .int .i64 done, vp, .bool em]] W fun e w' => e = .returned (.int .i64 0) ∧ Below W.heap.size W w') := fun W h => check_g ns ps last done em 0 (fun _ => rfl) (fun h => absurd hr h) vn vp W (hn.below h).1 (hp.below h).1 (by omega) (by omega)
 have HCL : Hid (∀ W, Below w.heap.size w W → Calls Try.prog 40 #[.agg #[vn, .int .i64 last, .int .i64 done, vp, .bool em]] W fun e w' => ∃ vn' vp', e = .returned (.agg #[vn', .int .i64 last, .int .i64 done, vp', .bool em]) ∧
   w'.ownsRow W.heap.size 99 3 vn' ns.length (cellsT ns) ∧ w'.ownsRow W.heap.size 102 3 vp' ps.length (cellsT ps) ∧ Below W.heap.size W w') :=
  fun W h => clone_at (hn.below h).1 (hp.below h).1 (by omega) (by omega) _ _ _
 have HB0 : Hid (CB w vn vp last done em ((w.alloc (Obj.cells #[vn, .int .i64 last, .int .i64 done, vp, .bool em] 28)).alloc (Obj.cells #[.slice none 0 0, .int .i64 0, .int .i64 0, .slice none 0 0, .bool false] 28))) := CB.mk w vn vp last done em
 obtain ⟨pn, cn, hA⟩ := hn.slice
 obtain ⟨pp, cp, hB⟩ := hp.slice
 subst hA
 subst hB
 clear hn hp
 have HCAN := Lib.hid hc
 have HPG : Hid (∀ {g B : Nat} {vn' vp' : Value} {W : World} {u1 u2 : Value}, CO w u1 u2 last done em g B vn' vp' ns ps last done em W → Calls Try.prog 43 #[.pointer (some ⟨g, 0, none⟩)] W fun e w' => e = .returned (.tuple #[.int .i64 (ngt ns (nxtG ns done).toNat).1, .bool true]) ∧ CO w u1 u2 last done em g B vn' vp' ns ps last (nxtG ns done) em w' ∧ W.heap.size ≤ w'.heap.size ∧ ∀ k, k < W.heap.size → k ≠ g → w'.heap[k]? = W.heap[k]?) := fun h => pop_gy h HDI.out HCAN.out
 generalize (ngt ns (nxtG ns done).toNat).1 = vv at *
 generalize hN : nxtG ns done = NXT at *
 clear hr hc hN
 go_enter Try.func21, Try.ntmps21
 go_upto_region 1 with fail
 generalize ((w.alloc (Obj.cells #[.slice pn ns.length cn, .int .i64 last, .int .i64 done, .slice pp ps.length cp, .bool em] 28)).alloc (Obj.cells #[.slice none 0 0, .int .i64 0, .int .i64 0, .slice none 0 0, .bool false] 28)) = W0 at *
 obtain ⟨c0, c1, c2, c3, c4⟩ := HB0.out.facts
 go_wp2_with fail
 refine (HCK.out _ HB0.out.1).mono ?_
 rintro e W1 ⟨rfl, hb1⟩
 have HB1 := Lib.hid (HB0.out.step hb1)
 clear hb1 c0 c1 c2 c3 c4
 obtain ⟨c0, c1, c2, c3, c4⟩ := HB1.out.facts
 go_wp2_with fail
 refine (HCL.out _ HB1.out.1).mono ?_
 rintro e W2 ⟨vn', vp', rfl, r1, r2, hb2⟩
 obtain ⟨pn', cn', hA⟩ := own_slice r1
 obtain ⟨pp', cp', hB⟩ := own_slice r2
 subst hA
 subst hB
 have HB2 := Lib.hid (HB1.out.step hb2)
 obtain ⟨g, W3, hg, hW3, hC3⟩ := CO.made last done em HB2.out HB1.out.size hb2.size r1 r2
 have HC3 : Hid (CO w (.slice pn ns.length cn) (.slice pp ps.length cp) last done em g W1.heap.size (.slice pn' ns.length cn') (.slice pp' ps.length cp') ns ps last done em W3) := hC3
 clear hb2 r1 r2 c0 c1 c2 c3 c4 hC3
 go_upto_region 5 with fail
 rw [← hg, ← hW3]
 clear hg hW3
 go_wp2_with fail
 refine (HPG.out HC3.out).mono ?_
 rintro e W4 ⟨rfl, hc4, _, _⟩
 have HC4 := Lib.hid hc4
 clear hc4
 obtain ⟨y0, y1, y2, y3, y4, z0, z1, z2, z3, z4⟩ := HC4.out.facts
 skip
 have f0 := (HC4.out.frozen 0).2
 have f1 := (HC4.out.frozen 1).2
 have f2 := (HC4.out.frozen 2).2
 have f3 := (HC4.out.frozen 3).2
 have f4 := (HC4.out.frozen 4).2
 go_wp2_with fail
 obtain ⟨W5, hW5⟩ : ∃ W5, W5 = (((((W4.setCell ⟨w.heap.size + 1, 0, none⟩ (.slice pn' ns.length cn')).setCell ⟨w.heap.size + 1, 1, none⟩ (.int .i64 last)).setCell ⟨w.heap.size + 1, 2, none⟩ (.int .i64 NXT)).setCell ⟨w.heap.size + 1, 3, none⟩ (.slice pp' ps.length cp')).setCell ⟨w.heap.size + 1, 4, none⟩ (.bool em)) := ⟨_, rfl⟩
 rw [← hW5]
 obtain ⟨k1, k2, k3, k4⟩ := HC4.out.out hW5
 have K1 := Lib.hid k1
 have K3 := Lib.hid k3
 have K4 := Lib.hid k4
 clear y0 y1 y2 y3 y4 z0 z1 z2 z3 z4 f0 f1 f2 f3 f4 k1 k3 k4 hW5
 have c0 : W5.cell? ⟨w.heap.size + 1, 0, none⟩ = some (.slice pn' ns.length cn') := cB k2 0
 have c1 : W5.cell? ⟨w.heap.size + 1, 1, none⟩ = some (.int .i64 last) := cB k2 1
 have c2 : W5.cell? ⟨w.heap.size + 1, 2, none⟩ = some (.int .i64 NXT) := cB k2 2
 have c3 : W5.cell? ⟨w.heap.size + 1, 3, none⟩ = some (.slice pp' ps.length cp') := cB k2 3
 have c4 : W5.cell? ⟨w.heap.size + 1, 4, none⟩ = some (.bool em) := cB k2 4
 refine bodyPost_ret (v := .tuple #[.agg #[.slice pn' ns.length cn', .int .i64 last, .int .i64 NXT, .slice pp' ps.length cp', .bool em], .int .i64 vv, .bool true, .int .i64 0]) (by simp [results, Try.results21, go_sem, c0, c1, c2, c3, c4]) rfl ⟨_, rfl, ⟨_, _, rfl, ?_, ?_⟩, ?_⟩
 ·exact K3.out
 ·exact K4.out
 ·exact K1.out
set_option maxRecDepth 100000 in
set_option maxHeartbeats 4000000 in
theorem popNo_g {ns ps : List T3} {last done : Int} {em : Bool} (hr : RightS ns last done ps em) {v : Value} (hc : nxtG ns done = -1) (w : World) (hv : StG w v ns last done ps em) :
  Calls Try.prog 21 #[v] w fun e w' => ∃ v', e = .returned (.tuple #[v', .int .i64 0, .bool false, .int .i64 0]) ∧ StG w' v' ns last done ps em ∧ Below w.heap.size w w' := by
 obtain ⟨hf1, hf2⟩ := hr.few
 have HDI := Lib.hid hr.1.done
 obtain ⟨vn, vp, rfl, hn, hp⟩ := hv
 have HCK : Hid (∀ W, Below w.heap.size w W → Calls Try.prog 18 #[.agg #[vn, .int .i64 last, .int .i64 done, vp, .bool em]] W fun e w' => e = .returned (.int .i64 0) ∧ Below W.heap.size W w') := fun W h => check_g ns ps last done em 0 (fun _ => rfl) (fun h => absurd hr h) vn vp W (hn.below h).1 (hp.below h).1 (by omega) (by omega)
 have HCL : Hid (∀ W, Below w.heap.size w W → Calls Try.prog 40 #[.agg #[vn, .int .i64 last, .int .i64 done, vp, .bool em]] W fun e w' => ∃ vn' vp', e = .returned (.agg #[vn', .int .i64 last, .int .i64 done, vp', .bool em]) ∧
   w'.ownsRow W.heap.size 99 3 vn' ns.length (cellsT ns) ∧ w'.ownsRow W.heap.size 102 3 vp' ps.length (cellsT ps) ∧ Below W.heap.size W w') :=
  fun W h => clone_at (hn.below h).1 (hp.below h).1 (by omega) (by omega) _ _ _
 have HB0 : Hid (CB w vn vp last done em ((w.alloc (Obj.cells #[vn, .int .i64 last, .int .i64 done, vp, .bool em] 28)).alloc (Obj.cells #[.slice none 0 0, .int .i64 0, .int .i64 0, .slice none 0 0, .bool false] 28))) := CB.mk w vn vp last done em
 obtain ⟨pn, cn, hA⟩ := hn.slice
 obtain ⟨pp, cp, hB⟩ := hp.slice
 subst hA
 subst hB
 clear hn hp
 have HCAN := Lib.hid hc
 clear hr hc
 go_enter Try.func21, Try.ntmps21
 go_upto_region 1 with fail
 generalize ((w.alloc (Obj.cells #[.slice pn ns.length cn, .int .i64 last, .int .i64 done, .slice pp ps.length cp, .bool em] 28)).alloc (Obj.cells #[.slice none 0 0, .int .i64 0, .int .i64 0, .slice none 0 0, .bool false] 28)) = W0 at *
 obtain ⟨c0, c1, c2, c3, c4⟩ := HB0.out.facts
 go_wp2_with fail
 refine (HCK.out _ HB0.out.1).mono ?_
 rintro e W1 ⟨rfl, hb1⟩
 have HB1 := Lib.hid (HB0.out.step hb1)
 clear hb1 c0 c1 c2 c3 c4
 obtain ⟨c0, c1, c2, c3, c4⟩ := HB1.out.facts
 go_wp2_with fail
 refine (HCL.out _ HB1.out.1).mono ?_
 rintro e W2 ⟨vn', vp', rfl, r1, r2, hb2⟩
 obtain ⟨pn', cn', hA⟩ := own_slice r1
 obtain ⟨pp', cp', hB⟩ := own_slice r2
 subst hA
 subst hB
 have HB2 := Lib.hid (HB1.out.step hb2)
 obtain ⟨g, W3, hg, hW3, hC3⟩ := CO.made last done em HB2.out HB1.out.size hb2.size r1 r2
 have HC3 : Hid (CO w (.slice pn ns.length cn) (.slice pp ps.length cp) last done em g W1.heap.size (.slice pn' ns.length cn') (.slice pp' ps.length cp') ns ps last done em W3) := hC3
 clear hb2 r1 r2 c0 c1 c2 c3 c4 hC3
 go_upto_region 5 with fail
 rw [← hg, ← hW3]
 clear hg hW3
 go_wp2_with fail
 refine (pop_gn HC3.out HDI.out HCAN.out).mono ?_
 rintro e W4 ⟨rfl, hc4, _⟩
 have HC4 := Lib.hid hc4
 clear hc4
 obtain ⟨y0, y1, y2, y3, y4, z0, z1, z2, z3, z4⟩ := HC4.out.facts
 skip
 have f0 := (HC4.out.frozen 0).2
 have f1 := (HC4.out.frozen 1).2
 have f2 := (HC4.out.frozen 2).2
 have f3 := (HC4.out.frozen 3).2
 have f4 := (HC4.out.frozen 4).2
 go_wp2_with fail
 obtain ⟨W5, hW5⟩ : ∃ W5, W5 = (((((W4.setCell ⟨w.heap.size + 1, 0, none⟩ (.slice pn' ns.length cn')).setCell ⟨w.heap.size + 1, 1, none⟩ (.int .i64 last)).setCell ⟨w.heap.size + 1, 2, none⟩ (.int .i64 done)).setCell ⟨w.heap.size + 1, 3, none⟩ (.slice pp' ps.length cp')).setCell ⟨w.heap.size + 1, 4, none⟩ (.bool em)) := ⟨_, rfl⟩
 rw [← hW5]
 obtain ⟨k1, k2, k3, k4⟩ := HC4.out.out hW5
 have K1 := Lib.hid k1
 have K3 := Lib.hid k3
 have K4 := Lib.hid k4
 clear y0 y1 y2 y3 y4 z0 z1 z2 z3 z4 f0 f1 f2 f3 f4 k1 k3 k4 hW5
 have c0 : W5.cell? ⟨w.heap.size + 1, 0, none⟩ = some (.slice pn' ns.length cn') := cB k2 0
 have c1 : W5.cell? ⟨w.heap.size + 1, 1, none⟩ = some (.int .i64 last) := cB k2 1
 have c2 : W5.cell? ⟨w.heap.size + 1, 2, none⟩ = some (.int .i64 done) := cB k2 2
 have c3 : W5.cell? ⟨w.heap.size + 1, 3, none⟩ = some (.slice pp' ps.length cp') := cB k2 3
 have c4 : W5.cell? ⟨w.heap.size + 1, 4, none⟩ = some (.bool em) := cB k2 4
 refine bodyPost_ret (v := .tuple #[.agg #[.slice pn' ns.length cn', .int .i64 last, .int .i64 done, .slice pp' ps.length cp', .bool em], .int .i64 0, .bool false, .int .i64 0]) (by simp [results, Try.results21, go_sem, c0, c1, c2, c3, c4]) rfl ⟨_, rfl, ⟨_, _, rfl, ?_, ?_⟩, ?_⟩
 ·exact K3.out
 ·exact K4.out
 ·exact K1.out
end Go.Proofs.Ytgbafpjeapkklaa.Mb
namespace Go.Proofs.Ytgbafpjeapkklaa.Mb
open Go.RowKit
set_option linter.unusedVariables false
set_option linter.unusedSimpArgs false
def goD (ns : List T3) : Nat → Int → List Int × Int
 | 0, d => ([], d)
 | k + 1, d => if nxtG ns d = -1 then ([], d) else ((ngt ns (nxtG ns d).toNat).1 :: (goD ns k (nxtG ns d)).1, (goD ns k (nxtG ns d)).2)
theorem goD_no {ns : List T3} {d : Int} {k : Nat} (h : nxtG ns d = -1) : goD ns (k + 1) d = ([], d) := by simp [goD, h]
theorem goD_yes {ns : List T3} {d : Int} {k N : Nat} (h : InR N (nxtG ns d)) : goD ns (k + 1) d = ((ngt ns (nxtG ns d).toNat).1 :: (goD ns k (nxtG ns d)).1, (goD ns k (nxtG ns d)).2) := by
 have : ¬ nxtG ns d = -1 := by have := h.1; omega
 simp [goD, this]
theorem nxt_ok {ns ps : List T3} {last done : Int} (h : Formed ns last done ps) {E : Int} (hE : InR ns.length E) : nxtG ns E = -1 ∨ InR ns.length (nxtG ns E) := by
 have hl : E.toNat < ns.length := by have := hE.1; have := hE.2; omega
 have hx := List.getElem?_eq_getElem hl
 rw [nxtG_of hx]
 exact (h.node _ _ hx).1
set_option maxRecDepth 100000 in
set_option maxHeartbeats 8000000 in
theorem batch_g {ns ps : List T3} {last done : Int} {em : Bool} (hr : RightS ns last done ps em) {v : Value} {most : Nat} (hms : most ≤ 2000) {GU : List Int} {GE : Int} (hG : goD ns most done = (GU, GE)) (w : World) (hv : StG w v ns last done ps em) :
  Calls Try.prog 12 #[v, .int .i64 most] w fun e w' => ∃ v' u, e = .returned (.tuple #[v', u, .int .i64 0]) ∧ StG w' v' ns last GE ps em ∧
   w'.ownsRow w.heap.size 3 1 u GU.length (ints GU) ∧ Below w.heap.size w w' := by
 obtain ⟨hf1, hf2⟩ := hr.few
 obtain ⟨vn, vp, rfl, hn, hp⟩ := hv
 have HCK : Hid (∀ W, Below w.heap.size w W → Calls Try.prog 18 #[.agg #[vn, .int .i64 last, .int .i64 done, vp, .bool em]] W fun e w' => e = .returned (.int .i64 0) ∧ Below W.heap.size W w') := fun W h => check_g ns ps last done em 0 (fun _ => rfl) (fun h => absurd hr h) vn vp W (hn.below h).1 (hp.below h).1 (by omega) (by omega)
 have HCL : Hid (∀ W, Below w.heap.size w W → Calls Try.prog 40 #[.agg #[vn, .int .i64 last, .int .i64 done, vp, .bool em]] W fun e w' => ∃ vn' vp', e = .returned (.agg #[vn', .int .i64 last, .int .i64 done, vp', .bool em]) ∧
   w'.ownsRow W.heap.size 99 3 vn' ns.length (cellsT ns) ∧ w'.ownsRow W.heap.size 102 3 vp' ps.length (cellsT ps) ∧ Below W.heap.size W w') :=
  fun W h => clone_at (hn.below h).1 (hp.below h).1 (by omega) (by omega) _ _ _
 have HB0 : Hid (CB w vn vp last done em ((w.alloc (Obj.cells #[vn, .int .i64 last, .int .i64 done, vp, .bool em] 28)).alloc (Obj.cells #[.slice none 0 0, .int .i64 0, .int .i64 0, .slice none 0 0, .bool false] 28))) := CB.mk w vn vp last done em
 obtain ⟨pn, cn, hA⟩ := hn.slice
 obtain ⟨pp, cp, hB⟩ := hp.slice
 subst hA
 subst hB
 clear hn hp
 obtain ⟨i0, hi, hz0, hz1, hz2⟩ := info_parts info3
 have HI := Lib.hid hi; clear hi
 have HZ0 := Lib.hid hz0; clear hz0
 have HZ1 := Lib.hid hz1; clear hz1
 have HZ2 := Lib.hid hz2; clear hz2
 have HDI := Lib.hid hr.1.done
 have HNO : Hid (∀ E, InR ns.length E → nxtG ns E = -1 ∨ InR ns.length (nxtG ns E)) := fun E hE => nxt_ok hr.1 hE
 have HGG := Lib.hid hG
 have HMS := Lib.hid hms
 have tm : decide ((most : Int) < 0) = false := decide_eq_false (by omega)
 clear hr hG hms hf1 hf2
 go_enter Try.func12, Try.ntmps12
 go_upto_region 1 with fail
 generalize ((w.alloc (Obj.cells #[.slice pn ns.length cn, .int .i64 last, .int .i64 done, .slice pp ps.length cp, .bool em] 28)).alloc (Obj.cells #[.slice none 0 0, .int .i64 0, .int .i64 0, .slice none 0 0, .bool false] 28)) = W0 at *
 obtain ⟨c0, c1, c2, c3, c4⟩ := HB0.out.facts
 go_wp2_with fail
 refine (HCK.out _ HB0.out.1).mono ?_
 rintro e W1 ⟨rfl, hb1⟩
 have HB1 := Lib.hid (HB0.out.step hb1)
 clear hb1 c0 c1 c2 c3 c4
 obtain ⟨c0, c1, c2, c3, c4⟩ := HB1.out.facts
 go_wp2_with fail
 refine (HCL.out _ HB1.out.1).mono ?_
 rintro e W2 ⟨vn', vp', rfl, r1, r2, hb2⟩
 obtain ⟨pn', cn', hA⟩ := own_slice r1
 obtain ⟨pp', cp', hB⟩ := own_slice r2
 subst hA
 subst hB
 have HB2 := Lib.hid (HB1.out.step hb2)
 obtain ⟨g, W3, hg, hW3, hC3⟩ := CO.made last done em HB2.out HB1.out.size hb2.size r1 r2
 have HC3 := Lib.hid hC3
 clear hb2 r1 r2 c0 c1 c2 c3 c4 hC3
 go_upto_region 7 with fail
 rw [← hg, ← hW3]
 clear hg hW3
 have HU0 : Hid (W3.ownsRow w.heap.size 3 1 (.slice none 0 0) 0 (ints [])) := World.ownsRow_nil _ _ _ _
 go_loopw [5] (fun s5 wr => ∃ (k : Nat) (u : List Int) (E : Int), k = u.length ∧ k ≤ most ∧ InR ns.length E ∧ (GU, GE) = (u ++ (goD ns (most - k) E).1, (goD ns (most - k) E).2) ∧ CO w (.slice pn ns.length cn) (.slice pp ps.length cp) last done em g W1.heap.size (.slice pn' ns.length cn') (.slice pp' ps.length cp') ns ps last E em wr ∧
  (∃ pu cu, s5 = .slice pu k cu ∧ wr.ownsRow w.heap.size 3 1 (.slice pu k cu) k (ints u))) (fun s5 _ => most - (lenOf s5))
 case atStart => exact ⟨0, [], done, rfl, by omega, HDI.out, by rw [List.nil_append]; exact HGG.out.symm, HC3.out, none, 0, rfl, HU0.out⟩
 case round =>
  obtain ⟨k, u, E, hku, hk, hEI, hpk, hco, pu, cu, rfl, hu⟩ := hrel
  have HKU := Lib.hid hku; clear hku
  have HEI := Lib.hid hEI; clear hEI
  have HCO := Lib.hid hco; clear hco
  have HU := Lib.hid hu; clear hu
  have HPKS := Lib.hid hpk; clear hpk
  by_cases hlt : k < most
  ·have tl : decide ((k : Int) < (most : Int)) = true := decide_eq_true (by omega)
   rcases HNO.out E HEI.out with hcan | hcan
   ·have HPK : Hid (GU = u ∧ GE = E) := by
     have h1 := HPKS.out
     obtain ⟨j, hj⟩ : ∃ j, most - k = j + 1 := ⟨most - k - 1, by omega⟩
     rw [hj, goD_no hcan] at h1
     exact Lib.hid (by simpa using h1)
    go_wp2_with fail
    refine (pop_gn HCO.out HEI.out hcan).mono ?_
    rintro e WX ⟨rfl, hco, hbx⟩
    have HCX := Lib.hid hco; clear hco
    have HUX : Hid (WX.ownsRow w.heap.size 3 1 (.slice pu k cu) k (ints u)) := own1_below HU.out hbx
    clear hbx
    obtain ⟨y0, y1, y2, y3, y4, z0, z1, z2, z3, z4⟩ := HCX.out.facts
    have f0 := (HCX.out.frozen 0).2
    have f1 := (HCX.out.frozen 1).2
    have f2 := (HCX.out.frozen 2).2
    have f3 := (HCX.out.frozen 3).2
    have f4 := (HCX.out.frozen 4).2
    go_wp2_with fail
    obtain ⟨W5, hW5⟩ : ∃ W5, W5 = (((((WX.setCell ⟨w.heap.size + 1, 0, none⟩ (.slice pn' ns.length cn')).setCell ⟨w.heap.size + 1, 1, none⟩ (.int .i64 last)).setCell ⟨w.heap.size + 1, 2, none⟩ (.int .i64 E)).setCell ⟨w.heap.size + 1, 3, none⟩ (.slice pp' ps.length cp')).setCell ⟨w.heap.size + 1, 4, none⟩ (.bool em)) := ⟨_, rfl⟩
    rw [← hW5]
    have HOX := Lib.hid (own5 HUX.out HCX.out.cb.2.2 (by decide) (.slice pn' ns.length cn') (.int .i64 last) (.int .i64 E) (.slice pp' ps.length cp') (.bool em))
    rw [← hW5] at HOX
    obtain ⟨k1, k2, k3, k4⟩ := HCX.out.out hW5
    have K1 := Lib.hid k1
    have K3 := Lib.hid k3
    have K4 := Lib.hid k4
    clear y0 y1 y2 y3 y4 z0 z1 z2 z3 z4 f0 f1 f2 f3 f4 k1 k3 k4 hW5
    have c0 : W5.cell? ⟨w.heap.size + 1, 0, none⟩ = some (.slice pn' ns.length cn') := cB k2 0
    have c1 : W5.cell? ⟨w.heap.size + 1, 1, none⟩ = some (.int .i64 last) := cB k2 1
    have c2 : W5.cell? ⟨w.heap.size + 1, 2, none⟩ = some (.int .i64 E) := cB k2 2
    have c3 : W5.cell? ⟨w.heap.size + 1, 3, none⟩ = some (.slice pp' ps.length cp') := cB k2 3
    have c4 : W5.cell? ⟨w.heap.size + 1, 4, none⟩ = some (.bool em) := cB k2 4
    refine bodyPost_ret (v := .tuple #[.agg #[.slice pn' ns.length cn', .int .i64 last, .int .i64 E, .slice pp' ps.length cp', .bool em], .slice pu k cu, .int .i64 0]) (by simp [results, Try.results12, go_sem, c0, c1, c2, c3, c4]) rfl ⟨_, .slice pu k cu, rfl, ⟨_, _, by rw [HPK.out.2], ?_, ?_⟩, ?_, ?_⟩
    ·exact K3.out
    ·exact K4.out
    ·rw [HPK.out.1, ← HKU.out]; exact HOX.out
    ·exact K1.out
   ·have HHC := Lib.hid hcan
    go_wp2_with fail
    refine (pop_gy HCO.out HEI.out hcan).mono ?_
    rintro e W6 ⟨rfl, hco, hs6, hk6⟩
    have HC6 := Lib.hid hco; clear hco
    have HU6 := Lib.hid (own1_kept HU.out HCO.out.box (by decide) hk6); clear hs6 hk6
    obtain ⟨x, hx⟩ : ∃ x, x = (ngt ns (nxtG ns E).toNat).1 := ⟨_, rfl⟩
    rw [← hx]
    have HX := Lib.hid hx; clear hx
    have ha : Below W6.heap.size W6 (W6.alloc (Obj.cells #[.int .i64 x] 3)) := (Below.refl _ _).alloc (Nat.le_refl _) _
    have hnew := (MapKept.heap_alloc W6 (Obj.cells #[.int .i64 x] 3)).1
    have HC7 := Lib.hid (CO.step HC6.out ha)
    have HU7 := Lib.hid (HU6.out.alloc (Obj.cells #[.int .i64 x] 3))
    have HSRC : Hid (∀ j u, [Value.int .i64 x][j]? = some u → (W6.alloc (Obj.cells #[.int .i64 x] 3)).cell? ((⟨W6.heap.size, 0, none⟩ : Addr).add j) = some u) := by
     intro j u hj
     cases j with
     | zero => simp at hj; subst hj; exact cB hnew 0
     | succ j => simp at hj
    clear ha hnew
    go_wp2_with (at_builtin; refine wpList_append_own _ rfl _ _ 30 rfl w.heap.size 3 i0 (.int .i64 0) 1 8 Try.underlying30 HI.out HZ0.out HZ1.out HZ2.out rfl (by decide) _ _ _ rfl HU7.out ⟨W6.heap.size, 0, none⟩ 1 1 [.int .i64 x] rfl rfl ?c1 ?c2 ?c3 ?c4 ?c5 ?_)
    case c1 => exact HSRC.out
    case c2 => exact ints_one [x]
    case c3 => have := HMS.out; unfold maxLen; omega
    case c4 => have := HMS.out; omega
    case c5 => have := HC7.out.cb.size; omega
    intro v8 W8 hown8 hgr8 _
    obtain ⟨pu8, cu8, e8⟩ := own1_slice hown8
    subst e8
    have HU8 := Lib.hid hown8; clear hown8
    have HC8 := Lib.hid (CO.grown HC7.out HU7.out (Nat.le_refl _) hgr8)
    clear hgr8
    go_wp2_with fail
    go_roundw
    case rel =>
     refine ⟨k + 1, u ++ [x], nxtG ns E, by rw [HKU.out]; simp, by omega, HHC.out, ?_, HC8.out, pu8, cu8, rfl, ?_⟩
     ·have h1 := HPKS.out
      obtain ⟨j, hj⟩ : ∃ j, most - k = j + 1 := ⟨most - k - 1, by omega⟩
      rw [hj, goD_yes HHC.out] at h1
      rw [show most - (k + 1) = j by omega, h1, HX.out]
      simp
     ·have := HU8.out
      simpa [ints] using this
    case measure => simp [lenOf]; omega
  ·have HPK : Hid (GU = u ∧ GE = E) := by
    have h1 := HPKS.out
    rw [show most - k = 0 by omega] at h1
    exact Lib.hid (by simpa [goD] using h1)
   have tl : decide ((k : Int) < (most : Int)) = false := decide_eq_false (by omega)
   have HCX := HCO
   have HUX := HU
   generalize hwx : wr = WX at *
   clear hwx
   obtain ⟨y0, y1, y2, y3, y4, z0, z1, z2, z3, z4⟩ := HCX.out.facts
   have f0 := (HCX.out.frozen 0).2
   have f1 := (HCX.out.frozen 1).2
   have f2 := (HCX.out.frozen 2).2
   have f3 := (HCX.out.frozen 3).2
   have f4 := (HCX.out.frozen 4).2
   go_wp2_with fail
   obtain ⟨W5, hW5⟩ : ∃ W5, W5 = (((((WX.setCell ⟨w.heap.size + 1, 0, none⟩ (.slice pn' ns.length cn')).setCell ⟨w.heap.size + 1, 1, none⟩ (.int .i64 last)).setCell ⟨w.heap.size + 1, 2, none⟩ (.int .i64 E)).setCell ⟨w.heap.size + 1, 3, none⟩ (.slice pp' ps.length cp')).setCell ⟨w.heap.size + 1, 4, none⟩ (.bool em)) := ⟨_, rfl⟩
   rw [← hW5]
   have HOX := Lib.hid (own5 HUX.out HCX.out.cb.2.2 (by decide) (.slice pn' ns.length cn') (.int .i64 last) (.int .i64 E) (.slice pp' ps.length cp') (.bool em))
   rw [← hW5] at HOX
   obtain ⟨k1, k2, k3, k4⟩ := HCX.out.out hW5
   have K1 := Lib.hid k1
   have K3 := Lib.hid k3
   have K4 := Lib.hid k4
   clear y0 y1 y2 y3 y4 z0 z1 z2 z3 z4 f0 f1 f2 f3 f4 k1 k3 k4 hW5
   have c0 : W5.cell? ⟨w.heap.size + 1, 0, none⟩ = some (.slice pn' ns.length cn') := cB k2 0
   have c1 : W5.cell? ⟨w.heap.size + 1, 1, none⟩ = some (.int .i64 last) := cB k2 1
   have c2 : W5.cell? ⟨w.heap.size + 1, 2, none⟩ = some (.int .i64 E) := cB k2 2
   have c3 : W5.cell? ⟨w.heap.size + 1, 3, none⟩ = some (.slice pp' ps.length cp') := cB k2 3
   have c4 : W5.cell? ⟨w.heap.size + 1, 4, none⟩ = some (.bool em) := cB k2 4
   refine bodyPost_ret (v := .tuple #[.agg #[.slice pn' ns.length cn', .int .i64 last, .int .i64 E, .slice pp' ps.length cp', .bool em], .slice pu k cu, .int .i64 0]) (by simp [results, Try.results12, go_sem, c0, c1, c2, c3, c4]) rfl ⟨_, .slice pu k cu, rfl, ⟨_, _, by rw [HPK.out.2], ?_, ?_⟩, ?_, ?_⟩
   ·exact K3.out
   ·exact K4.out
   ·rw [HPK.out.1, ← HKU.out]; exact HOX.out
   ·exact K1.out
set_option maxRecDepth 100000 in
set_option maxHeartbeats 4000000 in
theorem batch_neg_g {ns ps : List T3} {last done : Int} {em : Bool} (hr : RightS ns last done ps em) {v : Value} {p : Int} (hneg : p < 0) (w : World) (hv : StG w v ns last done ps em) :
  Calls Try.prog 12 #[v, .int .i64 p] w fun e w' => e = .returned (.tuple #[zv, .slice none 0 0, .int .i64 1]) ∧ Below w.heap.size w w' := by
 obtain ⟨hf1, hf2⟩ := hr.few
 obtain ⟨vn, vp, rfl, hn, hp'⟩ := hv
 have HCK : Hid (∀ W, Below w.heap.size w W → Calls Try.prog 18 #[.agg #[vn, .int .i64 last, .int .i64 done, vp, .bool em]] W fun e w' => e = .returned (.int .i64 0) ∧ Below W.heap.size W w') := fun W h => check_g ns ps last done em 0 (fun _ => rfl) (fun h => absurd hr h) vn vp W (hn.below h).1 (hp'.below h).1 (by omega) (by omega)
 have HB0 : Hid (CB w vn vp last done em ((w.alloc (Obj.cells #[vn, .int .i64 last, .int .i64 done, vp, .bool em] 28)).alloc (Obj.cells #[.slice none 0 0, .int .i64 0, .int .i64 0, .slice none 0 0, .bool false] 28))) := CB.mk w vn vp last done em
 obtain ⟨pn, cn, hA⟩ := hn.slice
 obtain ⟨pp, cp, hB⟩ := hp'.slice
 subst hA
 subst hB
 clear hn hp'
 have tp : decide (p < 0) = true := decide_eq_true hneg
 clear hr hf1 hf2
 go_enter Try.func12, Try.ntmps12
 go_upto_region 1 with fail
 generalize ((w.alloc (Obj.cells #[.slice pn ns.length cn, .int .i64 last, .int .i64 done, .slice pp ps.length cp, .bool em] 28)).alloc (Obj.cells #[.slice none 0 0, .int .i64 0, .int .i64 0, .slice none 0 0, .bool false] 28)) = W0 at *
 obtain ⟨c0, c1, c2, c3, c4⟩ := HB0.out.facts
 go_wp2_with fail
 refine (HCK.out _ HB0.out.1).mono ?_
 rintro e W1 ⟨rfl, hb1⟩
 have HB1 := Lib.hid (HB0.out.step hb1)
 clear hb1 c0 c1 c2 c3 c4
 obtain ⟨z0, z1, z2, z3, z4⟩ := HB1.out.zero
 obtain ⟨f0, f1, f2, f3, f4⟩ := HB1.out.frz
 go_wp2_with fail
 obtain ⟨W5, hW5⟩ : ∃ W5, W5 = (((((W1.setCell ⟨w.heap.size + 1, 0, none⟩ (.slice none 0 0)).setCell ⟨w.heap.size + 1, 1, none⟩ (.int .i64 0)).setCell ⟨w.heap.size + 1, 2, none⟩ (.int .i64 0)).setCell ⟨w.heap.size + 1, 3, none⟩ (.slice none 0 0)).setCell ⟨w.heap.size + 1, 4, none⟩ (.bool false)) := ⟨_, rfl⟩
 rw [← hW5]
 obtain ⟨k1, k2⟩ := HB1.out.out hW5
 have K1 := Lib.hid k1
 clear z0 z1 z2 z3 z4 f0 f1 f2 f3 f4 k1 hW5
 obtain ⟨c0, c1, c2, c3, c4⟩ := z_cells k2
 refine bodyPost_ret (v := .tuple #[.agg #[.slice none 0 0, .int .i64 0, .int .i64 0, .slice none 0 0, .bool false], .slice none 0 0, .int .i64 1]) (by simp [results, Try.results12, go_sem, c0, c1, c2, c3, c4]) rfl ⟨rfl, K1.out⟩
end Go.Proofs.Ytgbafpjeapkklaa.Mb
namespace Go.Proofs.Ytgbafpjeapkklaa.Mb
open Go.RowKit Go.Proofs.YtgbafpjeapkklaaW.PrintWords PMailboxRuns
set_option linter.unusedVariables false
set_option linter.unusedSimpArgs false
theorem L105_get {l : List (Int × Int × Int)} {j : Nat} {x : S105} (h : (L105 l)[j]? = some x) : ∃ y, l[j]? = some y ∧ x = n105 y := by
 simp only [L105, List.getElem?_map] at h
 obtain ⟨y, h1, h2⟩ := Option.map_eq_some_iff.1 h
 exact ⟨y, h1, h2.symm⟩
theorem L122_get {l : List (Int × Int × Int)} {j : Nat} {x : S122} (h : (L122 l)[j]? = some x) : ∃ y, l[j]? = some y ∧ x = n122 y := by
 simp only [L122, List.getElem?_map] at h
 obtain ⟨y, h1, h2⟩ := Option.map_eq_some_iff.1 h
 exact ⟨y, h1, h2.symm⟩
theorem trip_at {w : World} {a : Addr} {n cap : Nat} {l : List (Int × Int × Int)} (h : Tri w (.slice (some a) n cap) l) {j : Nat} {y : Int × Int × Int} (hy : l[j]? = some y) : ∀ i u, (trip y)[i]? = some u → w.cell? (a.add (j * 3 + i)) = some u := by
 intro i u hu
 obtain ⟨h0, h1, h2⟩ := cellsT_get l j y hy
 rcases i with _ | _ | _ | i
 ·simp [trip] at hu; subst hu; exact h.src _ _ h0
 ·simp [trip] at hu; subst hu; exact h.src _ _ h1
 ·simp [trip] at hu; subst hu; exact h.src _ _ h2
 ·simp [trip] at hu
theorem tri105 {w : World} {ns : Value} {l : List (Int × Int × Int)} (h : TriT w 105 ns l) (hl : l.length ≤ 2000) : ∃ A c, ns = .slice A (L105 l).length c ∧ (L105 l).length ≤ c ∧ Kd.C k105 w A (L105 l).length (L105 l) := by
 have e : (L105 l).length = l.length := by simp [L105]
 have ht := h.1
 obtain ⟨p, cap, rfl, hc, h1⟩ := h.1
 refine ⟨p, cap, by rw [e], by rw [e]; exact hc, rfl, by omega, fun h0 => ?_⟩
 rcases h1 with h1 | ⟨g, off, rfl, _⟩
 ·subst h1; simp [L105] at h0
 ·refine ⟨_, rfl, fun j x hx => ?_⟩
  obtain ⟨y, hy, rfl⟩ := L105_get hx
  exact ⟨trip y, rfl, k105_mk w (n105 y), trip_at ht hy⟩
theorem tri122 {w : World} {ns : Value} {l : List (Int × Int × Int)} (h : TriT w 122 ns l) (hl : l.length ≤ 2000) : ∃ A c, ns = .slice A (L122 l).length c ∧ (L122 l).length ≤ c ∧ Kd.C k122 w A (L122 l).length (L122 l) := by
 have e : (L122 l).length = l.length := by simp [L122]
 have ht := h.1
 obtain ⟨p, cap, rfl, hc, h1⟩ := h.1
 refine ⟨p, cap, by rw [e], by rw [e]; exact hc, rfl, by omega, fun h0 => ?_⟩
 rcases h1 with h1 | ⟨g, off, rfl, _⟩
 ·subst h1; simp [L122] at h0
 ·refine ⟨_, rfl, fun j x hx => ?_⟩
  obtain ⟨y, hy, rfl⟩ := L122_get hx
  exact ⟨trip y, rfl, k122_mk w (n122 y), trip_at ht hy⟩
theorem cells_of_reps {α : Type} (R : α → List Value → Prop) (f : Int × Int × Int → α) (hR : ∀ y c, R (f y) c → c = trip y) : ∀ (l : List (Int × Int × Int)) (cs : List Value), Reps R 3 (l.map f) cs → cs = cellsT l := by
 intro l
 induction l with
 | nil => intro cs h; have := h.1; simp at this; rw [this]; rfl
 | cons y l ih =>
  intro cs h
  have h0 := hR y _ (h.2 0 (f y) (by simp))
  simp only [Nat.zero_mul, List.drop_zero] at h0
  have hs : cs = cs.take 3 ++ cs.drop 3 := (List.take_append_drop 3 cs).symm
  rw [hs, h0, cellsT_cons]
  congr 1
  refine ih _ ⟨?_, fun j p hp => ?_⟩
  ·have := h.1
   simp only [List.length_map, List.length_cons, List.length_drop] at this ⊢
   omega
  ·have := h.2 (j + 1) p (by simpa using hp)
   rw [List.drop_drop, show 3 + j * 3 = (j + 1) * 3 by omega]
   exact this
theorem R105_tri {w : World} {base : Nat} {ok : Nat → Prop} {v : Value} {l : List (Int × Int × Int)} (h : Kd.R k105 105 w base ok v (L105 l)) : TriT w 105 v l := by
 obtain ⟨_, inner, ho, hr⟩ := h
 have e : inner = cellsT l := cells_of_reps _ n105 (fun y c hc => k105_openM hc) l inner hr
 rw [e] at ho
 exact own_triT (by simp [L105]) ho
theorem R122_tri {w : World} {base : Nat} {ok : Nat → Prop} {v : Value} {l : List (Int × Int × Int)} (h : Kd.R k122 122 w base ok v (L122 l)) : TriT w 122 v l := by
 obtain ⟨_, inner, ho, hr⟩ := h
 have e : inner = cellsT l := cells_of_reps _ n122 (fun y c hc => k122_openM hc) l inner hr
 rw [e] at ho
 exact own_triT (by simp [L122]) ho
end Go.Proofs.Ytgbafpjeapkklaa.Mb
namespace Go.Proofs.Ytgbafpjeapkklaa.Mb
open Go.RowKit Go.Proofs.YtgbafpjeapkklaaW.PrintWords PMailboxRuns
set_option linter.unusedVariables false
set_option linter.unusedSimpArgs false
theorem R_empty {α : Type} {d : Kd α} {e : Nat} {w : World} {base : Nat} {ok : Nat → Prop} {v : Value} (h : Kd.R d e w base ok v []) : TriT w e v [] := by
 obtain ⟨A, c, rfl, hl, _⟩ := Kd.R_reads h
 refine ⟨⟨A, c, rfl, hl, .inl rfl⟩, fun g hg => ?_⟩
 obtain ⟨cells, hc⟩ := Kd.R_own h |>.elim fun inner ho => own_typed ho g hg
 exact ⟨cells, _, hc⟩
def StZ (w : World) (v : Value) : Prop := ∃ ns ps, v = .agg #[ns, .int .i64 0, .int .i64 0, ps, .bool false] ∧ TriT w 105 ns [] ∧ TriT w 122 ps []
theorem StZ.below {w w' : World} {v : Value} (h : StZ w v) (hb : Below w.heap.size w w') : StZ w' v := by
 obtain ⟨ns, ps, e, h1, h2⟩ := h
 exact ⟨ns, ps, e, h1.below hb, h2.below hb⟩
theorem V105 {w : World} {A : Option Addr} {c : Nat} {xs : List S105} (h : Kd.C k105 w A xs.length xs) (hc : xs.length ≤ c) : Kd.V k105 105 w w.heap.size (fun k => k < w.heap.size) (.slice A xs.length c) xs :=
 ⟨A, c, rfl, hc, Kd.C_F (Kd.heap_iso _ (Kd.heap_pair (Kd.heap_int _) (Kd.heap_pair (Kd.heap_int _) (Kd.heap_int _)))) h⟩
theorem V122 {w : World} {A : Option Addr} {c : Nat} {xs : List S122} (h : Kd.C k122 w A xs.length xs) (hc : xs.length ≤ c) : Kd.V k122 122 w w.heap.size (fun k => k < w.heap.size) (.slice A xs.length c) xs :=
 ⟨A, c, rfl, hc, Kd.C_F (Kd.heap_iso _ (Kd.heap_pair (Kd.heap_int _) (Kd.heap_pair (Kd.heap_int _) (Kd.heap_int _)))) h⟩
theorem Rint_own {w : World} {base : Nat} {ok : Nat → Prop} {v : Value} {l : List Int} (h : Kd.R (Kd.int .i64) 3 w base ok v l) : w.ownsRow base 3 1 v l.length (ints l) := by
 obtain ⟨_, inner, ho, hr⟩ := h
 have e : inner = ints l := by
  obtain ⟨h1, h2⟩ := hr
  apply List.ext_getElem?
  intro j
  by_cases hj : j < l.length
  ·have := h2 j l[j] (by simp [hj])
   have hs : (List.drop (j * 1) inner).take 1 = [Value.int .i64 l[j]] := this
   have h3 : ((List.drop (j * 1) inner).take 1)[0]? = inner[j]? := by
    rw [List.getElem?_take]; simp
   rw [← h3, hs]
   simp [ints, hj]
  ·rw [List.getElem?_eq_none (by rw [h1]; show l.length * 1 ≤ j; omega), List.getElem?_eq_none (by simp [ints]; omega)]
 rw [e] at ho
 exact ho
end Go.Proofs.Ytgbafpjeapkklaa.Mb
namespace Go.Proofs.Ytgbafpjeapkklaa.PMailboxRuns
open Go.RowKit Go.Proofs.YtgbafpjeapkklaaW.PrintWords Go.Proofs.YtgbafpjeapkklaaW.PrintLast Go.Proofs.YtgbafpjeapkklaaW.PrintMore
attribute [local go_sem] max2_int min2_int max_two min_two max_three min_three max_four min_four
set_option linter.unusedVariables false
set_option linter.unusedSimpArgs false
theorem eqA99 (d : Nat) (w : World) (x0 y0 : Int) (x1 y1 : Int) (x2 y2 : Int) :
  (Op.equalIn (d + 2) 99 (.agg #[.int .i64 x0, .int .i64 x1, .int .i64 x2]) (.agg #[.int .i64 y0, .int .i64 y1, .int .i64 y2])).run Try.prog w = .ok (x0 == y0 && (x1 == y1 && (x2 == y2))) w := by
 refine eqA_of Try.underlying99 (by kernel_rfl) ?_
 refine eqf_cons (by rfl) (by go_simp; rfl) (by go_simp; rfl) (by go_simp) ?_
 refine eqf_cons (by rfl) (by go_simp; rfl) (by go_simp; rfl) (by go_simp) ?_
 exact eqf_last (by rfl) (by go_simp; rfl) (by go_simp; rfl) (by go_simp)
end Go.Proofs.Ytgbafpjeapkklaa.PMailboxRuns
namespace Go.Proofs.Ytgbafpjeapkklaa.PMailboxRuns
open Go.RowKit Go.Proofs.YtgbafpjeapkklaaW.PrintWords Go.Proofs.YtgbafpjeapkklaaW.PrintLast Go.Proofs.YtgbafpjeapkklaaW.PrintMore
attribute [local go_sem] max2_int min2_int max_two min_two max_three min_three max_four min_four
set_option linter.unusedVariables false
set_option linter.unusedSimpArgs false
theorem eqA102 (d : Nat) (w : World) (x0 y0 : Int) (x1 y1 : Int) (x2 y2 : Int) :
  (Op.equalIn (d + 2) 102 (.agg #[.int .i64 x0, .int .i64 x1, .int .i64 x2]) (.agg #[.int .i64 y0, .int .i64 y1, .int .i64 y2])).run Try.prog w = .ok (x0 == y0 && (x1 == y1 && (x2 == y2))) w := by
 refine eqA_of Try.underlying102 (by kernel_rfl) ?_
 refine eqf_cons (by rfl) (by go_simp; rfl) (by go_simp; rfl) (by go_simp) ?_
 refine eqf_cons (by rfl) (by go_simp; rfl) (by go_simp; rfl) (by go_simp) ?_
 exact eqf_last (by rfl) (by go_simp; rfl) (by go_simp; rfl) (by go_simp)
end Go.Proofs.Ytgbafpjeapkklaa.PMailboxRuns
