/- Mailbox: Begin. -/
import Derived.Test.YtgbafpjeapkklaaMm
namespace Go.Proofs.Ytgbafpjeapkklaa.Mb
open Go.RowKit
set_option linter.unusedVariables false
set_option linter.unusedSimpArgs false

/-- Where a producer's push goes. -/
def Q.pos (q : Q) (p : Int) : Nat := q.opn.findIdx fun o => decide (p ≤ o.1)
def Q.beg (q : Q) (p x : Int) : Q := { vals := q.vals ++ [(x, p)], opn := q.opn.take (q.pos p) ++ (p, q.m + 1) :: q.opn.drop (q.pos p), done := q.done, empty := false }
theorem pos_of {q : Q} {p : Int} {k : Nat} (hk : k ≤ q.opn.length) (h1 : ∀ j o, j < k → q.opn[j]? = some o → o.1 < p) (h2 : ∀ o, q.opn[k]? = some o → p ≤ o.1) : q.pos p = k := by
  unfold Q.pos
  by_cases hlt : k < q.opn.length
  · rw [List.findIdx_eq hlt]
    refine ⟨by simpa using h2 _ (List.getElem?_eq_getElem hlt), fun j hj => ?_⟩
    have := h1 j _ hj (List.getElem?_eq_getElem (by omega))
    simpa using this
  · obtain rfl : k = q.opn.length := by omega
    rw [List.findIdx_eq_length]
    intro o ho
    obtain ⟨j, hj, e⟩ := List.getElem_of_mem ho
    have := h1 j o hj (by rw [← e]; simp)
    simpa using this
theorem pos_le (q : Q) (p : Int) : q.pos p ≤ q.opn.length := List.findIdx_le_length
theorem beg_m (q : Q) (p x : Int) : (q.beg p x).m = q.m + 1 := by simp [Q.m, Q.beg]
theorem beg_isOpen (q : Q) (p x : Int) (k : Nat) : (q.beg p x).isOpen k = (q.isOpen k || k == q.m + 1) := by
  have e : q.opn.any (fun o => o.2 == k) = (q.opn.take (q.pos p) ++ q.opn.drop (q.pos p)).any fun o => o.2 == k := by rw [List.take_append_drop]
  unfold Q.isOpen Q.beg
  rw [e]
  simp only [List.any_append, List.any_cons]
  have : (q.m + 1 == k) = (k == q.m + 1) := by rw [Bool.eq_iff_iff]; simp; omega
  rw [this]
  cases (List.take (q.pos p) q.opn).any fun o => o.2 == k <;> cases (k == q.m + 1) <;> simp
theorem beg_pushes (q : Q) (p x : Int) : (q.beg p x).pushes = q.pushes.take (q.pos p) ++ (p, (q.m : Int), ((q.m : Int) + 1)) :: q.pushes.drop (q.pos p) := by
  simp [Q.pushes, Q.beg, List.map_take, List.map_drop]
theorem beg_nodes (q : Q) (p x : Int) (hop : ∀ o ∈ q.opn, o.2 ≤ q.m) : (q.beg p x).nodes = q.nodes ++ [(x, p, -1)] := by
  apply List.ext_getElem?
  intro k
  by_cases hk : k ≤ q.m
  · rw [nodes_get (q := q.beg p x) (j := k) (by rw [beg_m]; omega), List.getElem?_append_left (by rw [nodes_len]; omega), nodes_get hk]
    have hn : (q.beg p x).nxt k = q.nxt k := by
      unfold Q.nxt
      rw [beg_isOpen, beg_m]
      by_cases hkm : k = q.m
      · subst hkm; simp
      · have : (k + 1 == q.m + 1) = false := by simp; omega
        rw [this, Bool.or_false]
        have h1 : k < q.m + 1 := by omega
        have h2 : k < q.m := by omega
        simp [h1, h2]
    by_cases h0 : k = 0
    · subst h0; simp only [Q.node, if_pos, hn]
    · have hv : (q.beg p x).vals.getD (k - 1) (0, 0) = q.vals.getD (k - 1) (0, 0) := by
        have : k - 1 < q.vals.length := by have : q.m = q.vals.length := rfl; omega
        simp [Q.beg, List.getElem?_append_left this]
      simp only [Q.node, if_neg h0, hn, hv]
  · by_cases hk2 : k = q.m + 1
    · subst hk2
      rw [nodes_get (q := q.beg p x) (j := q.m + 1) (by rw [beg_m]; omega), List.getElem?_append_right (by rw [nodes_len]; omega), nodes_len]
      have hn : (q.beg p x).nxt (q.m + 1) = -1 := by unfold Q.nxt; rw [beg_m]; simp
      have hv : (q.beg p x).vals.getD q.m (0, 0) = (x, p) := by
        have : q.m = q.vals.length := rfl
        simp [Q.beg, this]
      unfold Q.node
      rw [hn]
      simp only [Nat.add_sub_cancel, hv]
      simp
    · rw [List.getElem?_eq_none (by rw [nodes_len, beg_m]; omega), List.getElem?_eq_none (by rw [List.length_append, nodes_len]; simp; omega)]
theorem beg_wf {q : Q} (hq : WF q) {p x : Int} (hm : q.m + 1 < 2000) (hp : 0 ≤ p) (hno : ∀ o ∈ q.opn, o.1 ≠ p) : WF (q.beg p x) where
  few := by rw [beg_m]; exact hm
  fewo := by
    rw [beg_m]
    have := hq.fewo
    have h2 := pos_le q p
    simp only [Q.beg, List.length_append, List.length_take, List.length_cons, List.length_drop]
    omega
  prod := by
    intro y hy
    simp only [Q.beg, List.mem_append, List.mem_singleton] at hy
    rcases hy with hy | rfl
    · exact hq.prod y hy
    · exact hp
  sorted := by
    have hs := hq.sorted
    have h1 : ∀ o ∈ q.opn.take (q.pos p), o.1 < p := by
      intro o ho
      obtain ⟨j, hj, e⟩ := List.getElem_of_mem ho
      have hjp : j < q.pos p := by rw [List.length_take] at hj; omega
      have := List.not_of_lt_findIdx (p := fun o : Int × Nat => decide (p ≤ o.1)) (xs := q.opn) (i := j) hjp
      rw [List.getElem_take] at e
      rw [e] at this
      simpa using this
    have h2 : ∀ o ∈ q.opn.drop (q.pos p), p < o.1 := by
      intro o ho
      obtain ⟨j, hj, e⟩ := List.getElem_of_mem ho
      rw [List.length_drop] at hj
      rw [List.getElem_drop] at e
      have hlt : q.pos p < q.opn.length := by omega
      have h3 : p ≤ (q.opn[q.pos p]).1 := by
        have := List.findIdx_getElem (p := fun o : Int × Nat => decide (p ≤ o.1)) (xs := q.opn) (w := hlt)
        exact of_decide_eq_true this
      have h4 : p < (q.opn[q.pos p]).1 := by
        have := hno _ (List.getElem_mem hlt)
        omega
      by_cases h0 : j = 0
      · subst h0; simp at e; rw [← e]; exact h4
      · have := List.pairwise_iff_getElem.1 hs (q.pos p) (q.pos p + j) hlt (by omega) (by omega)
        rw [e] at this
        omega
    have h3 : (q.opn.take (q.pos p) ++ q.opn.drop (q.pos p)).Pairwise fun a b => a.1 < b.1 := by rw [List.take_append_drop]; exact hs
    rw [List.pairwise_append] at h3
    show (q.opn.take (q.pos p) ++ (p, q.m + 1) :: q.opn.drop (q.pos p)).Pairwise _
    rw [List.pairwise_append]
    refine ⟨h3.1, List.pairwise_cons.2 ⟨fun o ho => h2 o ho, h3.2.1⟩, fun a ha b hb => ?_⟩
    rcases List.mem_cons.1 hb with rfl | hb
    · exact h1 a ha
    · exact h3.2.2 a ha b hb
  opn := by
    intro o ho
    have h1 : o = (p, q.m + 1) ∨ o ∈ q.opn := by
      simp only [Q.beg, List.mem_append, List.mem_cons] at ho
      rcases ho with ho | rfl | ho
      · exact .inr (List.mem_of_mem_take ho)
      · exact .inl rfl
      · exact .inr (List.mem_of_mem_drop ho)
    rw [beg_m]
    rcases h1 with rfl | h1
    · refine ⟨by simp, by simp, ?_, hp⟩
      have : q.m = q.vals.length := rfl
      simp [Q.beg, this]
    · obtain ⟨a, b, c, d⟩ := hq.opn o h1
      refine ⟨a, by omega, ?_, d⟩
      have : o.2 - 1 < q.vals.length := by have : q.m = q.vals.length := rfl; omega
      rw [← c]
      simp [Q.beg, List.getElem?_append_left this]
  done := by rw [beg_m]; have := hq.done; show q.done ≤ _; omega
  linked := by
    intro j h1 h2
    have h3 : j ≤ q.done := h2
    rw [beg_isOpen, hq.linked j h1 h3]
    have := hq.done
    simp; omega
  mt := by intro h; cases h

/-- The row of nodes was changed: its new value is stored. -/
theorem CO.re1 {w : World} {ns ps : Value} {m d : Int} {b : Bool} {g B : Nat} {ns' ps' : Value} {l1 l2 : List (Int × Int × Int)} {m' d' : Int} {b' : Bool} {W W' : World} (h : CO w ns ps m d b g B ns' ps' l1 l2 m' d' b' W)
    (hg : W.grownBy W' ns'.ownBlock) {ns'' : Value} {l1' : List (Int × Int × Int)} (ho : W'.ownsRow B 99 3 ns'' l1'.length (cellsT l1')) :
    W'.heap[g]? = some (.cells #[ns', .int .i64 m', .int .i64 d', ps', .bool b'] 28 (0, 0)) ∧ CB w ns ps m d b W' ∧ CO w ns ps m d b g B ns'' ps' l1' l2 m' d' b' (W'.setCell ⟨g, 0, none⟩ ns'') := by
  have hne : ∀ (k : Nat) (C : Array Value) (t : TypeId) (f : Nat × Nat), W.heap[k]? = some (.cells C t f) → t ≠ 99 → some k ≠ ns'.ownBlock := fun k C t f hk ht e => own_ne h.r1 hk (Ne.symm ht) e.symm
  have hk : ∀ (k : Nat) (C : Array Value) (t : TypeId) (f : Nat × Nat), W.heap[k]? = some (.cells C t f) → t ≠ 99 → W'.heap[k]? = some (.cells C t f) := fun k C t f h1 h2 => (hg.block k (blk_lt h1) (hne k C t f h1 h2)).trans h1
  have hlow := h.low
  have hlowg := h.lowg
  have hbox := hk _ _ _ _ h.box (by decide)
  have hcb : CB w ns ps m d b W' := ⟨h.cb.1.grown hg h.cb.1.size (fun k hk => by have := h.r1.lt k hk; omega), hk _ _ _ _ h.cb.2.1 (by decide), hk _ _ _ _ h.cb.2.2 (by decide)⟩
  have hr2 : W'.ownsRow B 102 3 ps' l2.length (cellsT l2) := by
    refine ⟨h.r2.1, ?_⟩
    rcases h.r2.2 with h0 | ⟨g', cap, cur, h1, h2, h3, h4⟩
    · exact .inl h0
    · exact .inr ⟨g', cap, cur, h1, h2, hk _ _ _ _ h3 (by decide), h4⟩
  refine ⟨hbox, hcb, ⟨hcb.1.setCell (p := ⟨g, 0, none⟩) (by show w.heap.size ≤ g; omega) _, blk_set_ne hcb.2.1 ⟨g, 0, none⟩ (by show w.heap.size ≠ g; omega) _, blk_set_ne hcb.2.2 ⟨g, 0, none⟩ (by show w.heap.size + 1 ≠ g; omega) _⟩, blk_set hbox 0 _, h.low, h.lowg, own_set ho hbox (by decide) _ _, own_set hr2 hbox (by decide) _ _⟩
/-- A fresh block is in no row. -/
theorem own_fresh {W : World} {B : Nat} {e : TypeId} {v : Value} {n : Nat} {xs : List Value} (h : W.ownsRow B e 3 v n xs) : v.ownBlock ≠ some W.heap.size := by
  intro hv
  have := h.lt _ hv
  omega

set_option maxRecDepth 100000 in
set_option maxHeartbeats 8000000 in
theorem begin_at {q : Q} (hq : WF q) {v : Value} {p x : Int} (hp : 0 ≤ p) (hno : ∀ o ∈ q.opn, o.1 ≠ p) (hm : q.m + 1 < 2000) (hins : InsC (q.pos p) q.pushes (p, (q.m : Int), (q.m : Int) + 1)) (w : World) (hv : St w v q) :
    Calls Try.prog 10 #[v, .int .i64 p, .int .i64 x] w fun e w' => ∃ v', e = .returned (.tuple #[v', .bool q.empty, .int .i64 0]) ∧ St w' v' (q.beg p x) ∧ Below w.heap.size w w' := by
  obtain ⟨ns, ps, rfl, hn, hp'⟩ := hv
  have hfo := hq.fewo
  have HCK : Hid (∀ W, Below w.heap.size w W → Calls Try.prog 18 #[.agg #[ns, .int .i64 q.m, .int .i64 q.done, ps, .bool q.empty]] W fun e w' => e = .returned (.int .i64 0) ∧ Below W.heap.size W w') := fun W h => check_at hq ns ps W (hn.below h).1 (hp'.below h).1
  have HPU : Hid (∀ W, Below w.heap.size w W → Calls Try.prog 39 #[.agg #[ns, .int .i64 q.m, .int .i64 q.done, ps, .bool q.empty], .int .i64 p] W fun e w' => e = .returned (.int .i64 (-1)) ∧ Below W.heap.size W w') := fun W h => by
    rw [← push_none hno]
    exact push_at (by rw [pushes_len]; omega) _ _ _ p W (hp'.below h).1
  have HCL : Hid (∀ W, Below w.heap.size w W → Calls Try.prog 40 #[.agg #[ns, .int .i64 q.m, .int .i64 q.done, ps, .bool q.empty]] W fun e w' => ∃ ns' ps', e = .returned (.agg #[ns', .int .i64 q.m, .int .i64 q.done, ps', .bool q.empty]) ∧
      w'.ownsRow W.heap.size 99 3 ns' q.nodes.length (cellsT q.nodes) ∧ w'.ownsRow W.heap.size 102 3 ps' q.pushes.length (cellsT q.pushes) ∧ Below W.heap.size W w') :=
    fun W h => clone_at (hn.below h).1 (hp'.below h).1 (by rw [nodes_len]; omega) (by rw [pushes_len]; omega) _ _ _
  have HB0 : Hid (CB w ns ps q.m q.done q.empty ((w.alloc (Obj.cells #[ns, .int .i64 q.m, .int .i64 q.done, ps, .bool q.empty] 28)).alloc (Obj.cells #[.slice none 0 0, .int .i64 0, .int .i64 0, .slice none 0 0, .bool false] 28))) := CB.mk w ns ps q.m q.done q.empty
  obtain ⟨pn, cn, hA⟩ := hn.slice
  obtain ⟨pp, cp, hB⟩ := hp'.slice
  subst hA
  subst hB
  clear hn hp'
  obtain ⟨i0, hi0, hz0, hz1, hz2⟩ := info_parts info99
  have HI := Lib.hid hi0; clear hi0
  have HZ0 := Lib.hid hz0; clear hz0
  have HZ1 := Lib.hid hz1; clear hz1
  have HZ2 := Lib.hid hz2; clear hz2
  have HQ := Lib.hid hq
  have HNL := Lib.hid (nodes_len q)
  have HPL := Lib.hid (pushes_len q)
  have HINS := Lib.hid hins
  have HBN := Lib.hid (beg_nodes q p x (fun o ho => (hq.opn o ho).2.1))
  have HBP := Lib.hid (beg_pushes q p x)
  have HSTF : Hid (∀ (W : World) (a b : Value) , TriT W 99 a (q.beg p x).nodes → TriT W 102 b (q.beg p x).pushes → St W (.agg #[a, .int .i64 ((q.m : Int) + 1), .int .i64 q.done, b, .bool false]) (q.beg p x)) := fun W a b h1 h2 => ⟨a, b, by rw [beg_m]; rfl, h1, h2⟩
  have HPSM : Hid (q.pushes.length ≤ 2000) := by show _ ≤ _; rw [pushes_len]; omega
  have tp : decide (p < 0) = false := decide_eq_false (by omega)
  have tl : ((q.nodes.length : Int) == 2000) = false := by rw [nodes_len]; simp; omega
  clear hq hno hins hfo hp
  have HMM := Lib.hid hm
  clear hm
  generalize hM : q.m = M at *
  generalize hD : q.done = D at *
  have HM := Lib.hid hM
  clear hM hD
  go_enter Try.func10, Try.ntmps10
  go_upto_region 1 with fail
  generalize ((w.alloc (Obj.cells #[.slice pn q.nodes.length cn, .int .i64 M, .int .i64 D, .slice pp q.pushes.length cp, .bool q.empty] 28)).alloc (Obj.cells #[.slice none 0 0, .int .i64 0, .int .i64 0, .slice none 0 0, .bool false] 28)) = W0 at *
  obtain ⟨c0, c1, c2, c3, c4⟩ := HB0.out.facts
  go_wp2_with fail
  refine (HCK.out _ HB0.out.1).mono ?_
  rintro e W1 ⟨rfl, hb1⟩
  have HB1 := Lib.hid (HB0.out.step hb1)
  clear hb1 c0 c1 c2 c3 c4
  obtain ⟨c0, c1, c2, c3, c4⟩ := HB1.out.facts
  go_wp2_with fail
  refine (HPU.out _ HB1.out.1).mono ?_
  rintro e W1' ⟨rfl, hb1⟩
  have HB1' := Lib.hid (HB1.out.step hb1)
  clear hb1 c0 c1 c2 c3 c4
  obtain ⟨c0, c1, c2, c3, c4⟩ := HB1'.out.facts
  go_wp2_with fail
  refine (HCL.out _ HB1'.out.1).mono ?_
  rintro e W2 ⟨ns', ps', rfl, r1, r2, hb2⟩
  obtain ⟨pn', cn', hA⟩ := own_slice r1
  obtain ⟨pp', cp', hB⟩ := own_slice r2
  subst hA
  subst hB
  have HB2 := Lib.hid (HB1'.out.step hb2)
  obtain ⟨g, W3, hg, hW3, hC3⟩ := CO.made M D q.empty HB2.out HB1'.out.size hb2.size r1 r2
  have HC3 := Lib.hid hC3
  clear hb2 r1 r2 c0 c1 c2 c3 c4 hC3
  go_upto_region 12 with fail
  rw [← hg, ← hW3]
  clear hg hW3
  go_loopw [11] (fun s11 wr => ∃ k : Nat, k ≤ q.pushes.length ∧ s11 = .int .i64 k ∧ (∀ (j : Nat) (o : Int × Nat), j < k → q.opn[j]? = some o → o.1 < p) ∧
    CO w (.slice pn q.nodes.length cn) (.slice pp q.pushes.length cp) M D q.empty g W1'.heap.size (.slice pn' q.nodes.length cn') (.slice pp' q.pushes.length cp') q.nodes q.pushes M D q.empty wr) (fun s11 _ => q.pushes.length - (intOf s11).toNat)
  case atStart => exact ⟨0, by omega, rfl, fun j o hj => by omega, HC3.out⟩
  case round =>
    obtain ⟨k, hk, rfl, hlow, hco⟩ := hrel
    have HLOW := Lib.hid hlow; clear hlow
    have HC := Lib.hid hco; clear hco
    obtain ⟨y0, y1, y2, y3, y4, _⟩ := HC.out.facts
    by_cases hlt : k < q.pushes.length
    · have tk : decide ((k : Int) < (q.pushes.length : Int)) = true := decide_eq_true (by omega)
      have tk' : (k : Int) < (q.pushes.length : Int) := by omega
      obtain ⟨gp, cpp, e, _, _, _, hcp⟩ := own_some rfl HC.out.r2 (by omega)
      injection e with e _ e3
      subst e
      subst e3
      obtain ⟨o, ho⟩ : ∃ o, q.opn[k]? = some o := ⟨q.opn[k]'(by have := HPL.out; omega), by simp⟩
      obtain ⟨x0, _, _⟩ := hcp k _ (pushes_get ho)
      simp only at x0
      obtain ⟨op, oj⟩ := o
      simp only at x0
      clear hcp
      have HOK := Lib.hid ho; clear ho
      by_cases hop : op < p
      · have tO : decide (op < p) = true := decide_eq_true hop
        go_wp2_with fail
        have ew : wrap64 ((k : Int) + 1) = ((k + 1 : Nat) : Int) := by have := HPSM.out; unfold wrap64; omega
        rw [ew]
        go_roundw
        case rel =>
          refine ⟨k + 1, by omega, rfl, fun j o hj ho => ?_, HC.out⟩
          by_cases hjk : j = k
          · subst hjk
            have := HOK.out
            rw [ho] at this
            injection this with this
            rw [this]
            exact hop
          · exact HLOW.out j o (by omega) ho
        case measure => simp [intOf]; omega
      · have tO : decide (op < p) = false := decide_eq_false hop
        have HPOS : Hid (q.pos p = k) := pos_of (by have := HPL.out; omega) HLOW.out (fun o ho => by
          have := HOK.out
          rw [ho] at this
          injection this with this
          rw [this]
          show p ≤ op
          omega)
        go_upto_region 14 with fail
        clear y0 y1 y2 y3 y4
        have HINK : Hid (InsC k q.pushes (p, (M : Int), (q.nodes.length : Int))) := by
          show InsC _ _ _
          have := HINS.out
          rw [HPOS.out] at this
          rw [HNL.out]
          have e : (((M + 1 : Nat)) : Int) = (M : Int) + 1 := by simp
          rw [e]
          exact this
        obtain ⟨y0, y1, y2, y3, y4, _⟩ := HC.out.facts
        obtain ⟨c0, c1, c2, c3, c4⟩ := HC.out.cb.facts
        obtain ⟨X, hX⟩ : ∃ X, X = wr.heap.size := ⟨_, rfl⟩
        obtain ⟨W5, hW5⟩ : ∃ W5, W5 = wr.alloc (Obj.cells #[.int .i64 p, .int .i64 (M : Int), .int .i64 (q.nodes.length : Int)] 102) := ⟨_, rfl⟩
        have hb5 : Below wr.heap.size wr W5 := by rw [hW5]; exact (Below.refl _ _).alloc (Nat.le_refl _) _
        have hx5 : W5.heap[X]? = some (.cells (trip (p, (M : Int), (q.nodes.length : Int))).toArray 102 (0, 0)) := by rw [hW5, hX]; exact (MapKept.heap_alloc _ _).1
        have HX5 := Lib.hid hx5
        have HC5 := Lib.hid (HC.out.step hb5)
        have HFX : Hid ((Value.slice (some ⟨gp, 0, none⟩) q.pushes.length cp').ownBlock ≠ some X) := by rw [hX]; exact own_fresh HC.out.r2
        have HB5S : Hid (W1'.heap.size ≤ W5.heap.size) := Nat.le_trans HC.out.lowg (Nat.le_of_lt (Nat.lt_of_lt_of_le (blk_lt HC.out.box) hb5.size))
        clear hb5 hx5
        go_wp2_with fail
        rw [← hW5, ← hX]
        refine (HINK.out W5 _ X _ HC5.out.r2 HB5S.out HX5.out HFX.out).mono ?_
        rintro e W6 ⟨ps6, rfl, ho6, hg6⟩
        clear hW5 hX
        obtain ⟨pp6, cp6, e6⟩ := own_slice ho6
        subst e6
        obtain ⟨l6, hl6⟩ : ∃ l6, l6 = q.pushes.take k ++ (p, (M : Int), (q.nodes.length : Int)) :: q.pushes.drop k := ⟨_, rfl⟩
        rw [← hl6] at ho6
        have hlen6 : q.pushes.length + 1 = l6.length := by rw [hl6, List.length_append, List.length_take, List.length_cons, List.length_drop]; omega
        rw [hlen6] at ho6 ⊢
        obtain ⟨k1, k2, k3⟩ := HC5.out.re2 hg6 ho6
        have HC7 := Lib.hid k3
        have HL6 := Lib.hid hl6
        obtain ⟨L6, hL6⟩ : ∃ L6, L6 = l6.length := ⟨_, rfl⟩
        rw [← hL6] at HC7 ⊢
        clear y0 y1 y2 y3 y4 c0 c1 c2 c3 c4 k3 hlen6 hl6 hg6 ho6 hL6
        have g3 : W6.cell? ⟨g, 3, none⟩ = some (.slice (some ⟨gp, 0, none⟩) q.pushes.length cp') := cell_blk k1 3
        have f3 : W6.frozen? ⟨g, 3, none⟩ = false := frozen_blk k1 3
        clear k1 k2
        go_upto_region 15 with fail
        clear g3 f3
        obtain ⟨W7, hW7⟩ : ∃ W7, W7 = W6.setCell ⟨g, 3, none⟩ (.slice pp6 L6 cp6) := ⟨_, rfl⟩
        rw [← hW7] at HC7 ⊢
        clear hW7
        obtain ⟨y0, y1, y2, y3, y4, _⟩ := HC7.out.facts
        obtain ⟨Y, hY⟩ : ∃ Y, Y = W7.heap.size := ⟨_, rfl⟩
        obtain ⟨W8, hW8⟩ : ∃ W8, W8 = W7.alloc (Obj.cells #[.int .i64 x, .int .i64 p, .int .i64 (-1)] 99) := ⟨_, rfl⟩
        have hb8 : Below W7.heap.size W7 W8 := by rw [hW8]; exact (Below.refl _ _).alloc (Nat.le_refl _) _
        have hx8 : W8.heap[Y]? = some (.cells (trip (x, p, -1)).toArray 99 (0, 0)) := by rw [hW8, hY]; exact (MapKept.heap_alloc _ _).1
        have HSRC : Hid (∀ j u, (cellsT [(x, p, (-1 : Int))])[j]? = some u → W8.cell? ((⟨Y, 0, none⟩ : Addr).add j) = some u) := by
          intro j u hj
          have e : cellsT [(x, p, (-1 : Int))] = trip (x, p, -1) := by simp [cellsT]
          rw [e] at hj
          rw [Addr.add_lit, Nat.zero_add]
          refine (cell_blk hx8 j).trans ?_
          rw [List.getElem?_toArray]
          exact hj
        have HC8 := Lib.hid (HC7.out.step hb8)
        have HB8S : Hid (W1'.heap.size ≤ W8.heap.size) := Nat.le_trans HC8.out.lowg (Nat.le_of_lt (blk_lt HC8.out.box))
        have HNLS : Hid (q.nodes.length ≤ 2000) := by show _ ≤ _; rw [HNL.out]; have := HMM.out; have := HM.out; omega
        clear hb8 hx8
        go_wp2_with (at_builtin; rw [← hW8, ← hY]; refine wpList_append_own _ rfl _ _ 25 rfl W1'.heap.size 99 i0 (.agg #[.int .i64 0, .int .i64 0, .int .i64 0]) 3 24 Try.underlying25 HI.out HZ0.out HZ1.out HZ2.out rfl (by decide) _ _ _ rfl HC8.out.r1 ⟨Y, 0, none⟩ 1 1 (cellsT [(x, p, (-1 : Int))]) rfl rfl ?c1 ?c2 ?c3 ?c4 ?c5 ?_)
        case c1 => exact HSRC.out
        case c2 => exact cellsT_one _
        case c3 => have := HNLS.out; unfold maxLen; omega
        case c4 => have := HNLS.out; omega
        case c5 => exact HB8S.out
        intro v9 W9 hown9 hgr9 _
        rw [← hW8] at hgr9
        obtain ⟨pn9, cn9, e9⟩ := own_slice hown9
        subst e9
        obtain ⟨l9, hl9⟩ : ∃ l9, l9 = q.nodes ++ [(x, p, (-1 : Int))] := ⟨_, rfl⟩
        have hlen9 : q.nodes.length + 1 = l9.length := by rw [hl9, List.length_append]; rfl
        rw [← cellsT_append, ← hl9, hlen9] at hown9
        rw [hlen9]
        obtain ⟨k1, k2, k3⟩ := HC8.out.re1 hgr9 hown9
        have HC9 := Lib.hid k3
        have HL9 := Lib.hid hl9
        obtain ⟨L9, hL9⟩ : ∃ L9, L9 = l9.length := ⟨_, rfl⟩
        rw [← hL9] at HC9 ⊢
        clear y0 y1 y2 y3 y4 k3 hlen9 hl9 hgr9 hown9 hL9 hW8 hY
        have g0 : W9.cell? ⟨g, 0, none⟩ = some (.slice pn' q.nodes.length cn') := cell_blk k1 0
        have f0 : W9.frozen? ⟨g, 0, none⟩ = false := frozen_blk k1 0
        clear k1 k2
        go_upto_region 16 with fail
        clear g0 f0
        obtain ⟨W10, hW10⟩ : ∃ W10, W10 = W9.setCell ⟨g, 0, none⟩ (.slice pn9 L9 cn9) := ⟨_, rfl⟩
        rw [← hW10] at HC9 ⊢
        clear hW10
        obtain ⟨y0, y1, y2, y3, y4, _⟩ := HC9.out.facts
        obtain ⟨c0, c1, c2, c3, c4⟩ := HC9.out.cb.facts
        have f1 := (HC9.out.frozen 1).1
        have f4 := (HC9.out.frozen 4).1
        go_upto_region 17 with fail
        have HC11 := Lib.hid ((HC9.out.set1 (q.nodes.length : Int)).set4 false)
        obtain ⟨W11, hW11⟩ : ∃ W11, W11 = (W10.setCell ⟨g, 1, none⟩ (.int .i64 (q.nodes.length : Int))).setCell ⟨g, 4, none⟩ (.bool false) := ⟨_, rfl⟩
        rw [← hW11] at HC11 ⊢
        clear hW11 y0 y1 y2 y3 y4 c0 c1 c2 c3 c4 f1 f4
        obtain ⟨y0, y1, y2, y3, y4, z0, z1, z2, z3, z4⟩ := HC11.out.facts
        have c4 : W11.cell? ⟨w.heap.size, 4, none⟩ = some (.bool q.empty) := HC11.out.cb.facts.2.2.2.2
        have f0 := (HC11.out.frozen 0).2
        have f1 := (HC11.out.frozen 1).2
        have f2 := (HC11.out.frozen 2).2
        have f3 := (HC11.out.frozen 3).2
        have f4 := (HC11.out.frozen 4).2
        have hne : ¬ g = w.heap.size + 1 := by have := HC11.out.low; have := HC11.out.lowg; omega
        have hne' : ¬ w.heap.size + 1 = g := fun e => hne e.symm
        go_region
        obtain ⟨W12, hW12⟩ : ∃ W12, W12 = (((((W11.setCell ⟨w.heap.size + 1, 0, none⟩ (.slice pn9 L9 cn9)).setCell ⟨w.heap.size + 1, 1, none⟩ (.int .i64 (q.nodes.length : Int))).setCell ⟨w.heap.size + 1, 2, none⟩ (.int .i64 D)).setCell ⟨w.heap.size + 1, 3, none⟩ (.slice pp6 L6 cp6)).setCell ⟨w.heap.size + 1, 4, none⟩ (.bool false)) := ⟨_, rfl⟩
        rw [← hW12]
        obtain ⟨k1, k2, k3, k4⟩ := HC11.out.out hW12
        have K1 := Lib.hid k1
        have K3 := Lib.hid k3
        have K4 := Lib.hid k4
        clear y0 y1 y2 y3 y4 z0 z1 z2 z3 z4 f0 f1 f2 f3 f4 k1 k3 k4 hW12 c4 hne hne'
        have c0 : W12.cell? ⟨w.heap.size + 1, 0, none⟩ = some (.slice pn9 L9 cn9) := cell_blk k2 0
        have c1 : W12.cell? ⟨w.heap.size + 1, 1, none⟩ = some (.int .i64 (q.nodes.length : Int)) := cell_blk k2 1
        have c2 : W12.cell? ⟨w.heap.size + 1, 2, none⟩ = some (.int .i64 D) := cell_blk k2 2
        have c3 : W12.cell? ⟨w.heap.size + 1, 3, none⟩ = some (.slice pp6 L6 cp6) := cell_blk k2 3
        have c4 : W12.cell? ⟨w.heap.size + 1, 4, none⟩ = some (.bool false) := cell_blk k2 4
        go_wp2_with fail
        have eM : (q.nodes.length : Int) = (M : Int) + 1 := by rw [HNL.out]; simp
        refine bodyPost_ret (v := .tuple #[.agg #[.slice pn9 L9 cn9, .int .i64 ((M : Int) + 1), .int .i64 D, .slice pp6 L6 cp6, .bool false], .bool q.empty, .int .i64 0]) (by rw [← eM]; simp [results, Try.results10, go_sem, c0, c1, c2, c3, c4]) rfl ⟨_, rfl, HSTF.out _ _ _ ?_ ?_, ?_⟩
        · rw [HBN.out, ← HL9.out]
          exact K3.out
        · rw [HBP.out, HPOS.out, ← eM, ← HL6.out]
          exact K4.out
        · exact K1.out.drew
    · have tk : decide ((k : Int) < (q.pushes.length : Int)) = false := decide_eq_false (by omega)
      have HPOS : Hid (q.pos p = k) := pos_of (by have := HPL.out; omega) HLOW.out (fun o ho => by
        have := (List.getElem?_eq_some_iff.1 ho).1
        have := HPL.out
        omega)
      go_upto_region 14 with fail
      clear y0 y1 y2 y3 y4
      have HINK : Hid (InsC k q.pushes (p, (M : Int), (q.nodes.length : Int))) := by
        show InsC _ _ _
        have := HINS.out
        rw [HPOS.out] at this
        rw [HNL.out]
        have e : (((M + 1 : Nat)) : Int) = (M : Int) + 1 := by simp
        rw [e]
        exact this
      obtain ⟨y0, y1, y2, y3, y4, _⟩ := HC.out.facts
      obtain ⟨c0, c1, c2, c3, c4⟩ := HC.out.cb.facts
      obtain ⟨X, hX⟩ : ∃ X, X = wr.heap.size := ⟨_, rfl⟩
      obtain ⟨W5, hW5⟩ : ∃ W5, W5 = wr.alloc (Obj.cells #[.int .i64 p, .int .i64 (M : Int), .int .i64 (q.nodes.length : Int)] 102) := ⟨_, rfl⟩
      have hb5 : Below wr.heap.size wr W5 := by rw [hW5]; exact (Below.refl _ _).alloc (Nat.le_refl _) _
      have hx5 : W5.heap[X]? = some (.cells (trip (p, (M : Int), (q.nodes.length : Int))).toArray 102 (0, 0)) := by rw [hW5, hX]; exact (MapKept.heap_alloc _ _).1
      have HX5 := Lib.hid hx5
      have HC5 := Lib.hid (HC.out.step hb5)
      have HFX : Hid ((Value.slice pp' q.pushes.length cp').ownBlock ≠ some X) := by rw [hX]; exact own_fresh HC.out.r2
      have HB5S : Hid (W1'.heap.size ≤ W5.heap.size) := Nat.le_trans HC.out.lowg (Nat.le_of_lt (Nat.lt_of_lt_of_le (blk_lt HC.out.box) hb5.size))
      clear hb5 hx5
      go_wp2_with fail
      rw [← hW5, ← hX]
      refine (HINK.out W5 _ X _ HC5.out.r2 HB5S.out HX5.out HFX.out).mono ?_
      rintro e W6 ⟨ps6, rfl, ho6, hg6⟩
      clear hW5 hX
      obtain ⟨pp6, cp6, e6⟩ := own_slice ho6
      subst e6
      obtain ⟨l6, hl6⟩ : ∃ l6, l6 = q.pushes.take k ++ (p, (M : Int), (q.nodes.length : Int)) :: q.pushes.drop k := ⟨_, rfl⟩
      rw [← hl6] at ho6
      have hlen6 : q.pushes.length + 1 = l6.length := by rw [hl6, List.length_append, List.length_take, List.length_cons, List.length_drop]; omega
      rw [hlen6] at ho6 ⊢
      obtain ⟨k1, k2, k3⟩ := HC5.out.re2 hg6 ho6
      have HC7 := Lib.hid k3
      have HL6 := Lib.hid hl6
      obtain ⟨L6, hL6⟩ : ∃ L6, L6 = l6.length := ⟨_, rfl⟩
      rw [← hL6] at HC7 ⊢
      clear y0 y1 y2 y3 y4 c0 c1 c2 c3 c4 k3 hlen6 hl6 hg6 ho6 hL6
      have g3 : W6.cell? ⟨g, 3, none⟩ = some (.slice pp' q.pushes.length cp') := cell_blk k1 3
      have f3 : W6.frozen? ⟨g, 3, none⟩ = false := frozen_blk k1 3
      clear k1 k2
      go_upto_region 15 with fail
      clear g3 f3
      obtain ⟨W7, hW7⟩ : ∃ W7, W7 = W6.setCell ⟨g, 3, none⟩ (.slice pp6 L6 cp6) := ⟨_, rfl⟩
      rw [← hW7] at HC7 ⊢
      clear hW7
      obtain ⟨y0, y1, y2, y3, y4, _⟩ := HC7.out.facts
      obtain ⟨Y, hY⟩ : ∃ Y, Y = W7.heap.size := ⟨_, rfl⟩
      obtain ⟨W8, hW8⟩ : ∃ W8, W8 = W7.alloc (Obj.cells #[.int .i64 x, .int .i64 p, .int .i64 (-1)] 99) := ⟨_, rfl⟩
      have hb8 : Below W7.heap.size W7 W8 := by rw [hW8]; exact (Below.refl _ _).alloc (Nat.le_refl _) _
      have hx8 : W8.heap[Y]? = some (.cells (trip (x, p, -1)).toArray 99 (0, 0)) := by rw [hW8, hY]; exact (MapKept.heap_alloc _ _).1
      have HSRC : Hid (∀ j u, (cellsT [(x, p, (-1 : Int))])[j]? = some u → W8.cell? ((⟨Y, 0, none⟩ : Addr).add j) = some u) := by
        intro j u hj
        have e : cellsT [(x, p, (-1 : Int))] = trip (x, p, -1) := by simp [cellsT]
        rw [e] at hj
        rw [Addr.add_lit, Nat.zero_add]
        refine (cell_blk hx8 j).trans ?_
        rw [List.getElem?_toArray]
        exact hj
      have HC8 := Lib.hid (HC7.out.step hb8)
      have HB8S : Hid (W1'.heap.size ≤ W8.heap.size) := Nat.le_trans HC8.out.lowg (Nat.le_of_lt (blk_lt HC8.out.box))
      have HNLS : Hid (q.nodes.length ≤ 2000) := by show _ ≤ _; rw [HNL.out]; have := HMM.out; have := HM.out; omega
      clear hb8 hx8
      go_wp2_with (at_builtin; rw [← hW8, ← hY]; refine wpList_append_own _ rfl _ _ 25 rfl W1'.heap.size 99 i0 (.agg #[.int .i64 0, .int .i64 0, .int .i64 0]) 3 24 Try.underlying25 HI.out HZ0.out HZ1.out HZ2.out rfl (by decide) _ _ _ rfl HC8.out.r1 ⟨Y, 0, none⟩ 1 1 (cellsT [(x, p, (-1 : Int))]) rfl rfl ?c1 ?c2 ?c3 ?c4 ?c5 ?_)
      case c1 => exact HSRC.out
      case c2 => exact cellsT_one _
      case c3 => have := HNLS.out; unfold maxLen; omega
      case c4 => have := HNLS.out; omega
      case c5 => exact HB8S.out
      intro v9 W9 hown9 hgr9 _
      rw [← hW8] at hgr9
      obtain ⟨pn9, cn9, e9⟩ := own_slice hown9
      subst e9
      obtain ⟨l9, hl9⟩ : ∃ l9, l9 = q.nodes ++ [(x, p, (-1 : Int))] := ⟨_, rfl⟩
      have hlen9 : q.nodes.length + 1 = l9.length := by rw [hl9, List.length_append]; rfl
      rw [← cellsT_append, ← hl9, hlen9] at hown9
      rw [hlen9]
      obtain ⟨k1, k2, k3⟩ := HC8.out.re1 hgr9 hown9
      have HC9 := Lib.hid k3
      have HL9 := Lib.hid hl9
      obtain ⟨L9, hL9⟩ : ∃ L9, L9 = l9.length := ⟨_, rfl⟩
      rw [← hL9] at HC9 ⊢
      clear y0 y1 y2 y3 y4 k3 hlen9 hl9 hgr9 hown9 hL9 hW8 hY
      have g0 : W9.cell? ⟨g, 0, none⟩ = some (.slice pn' q.nodes.length cn') := cell_blk k1 0
      have f0 : W9.frozen? ⟨g, 0, none⟩ = false := frozen_blk k1 0
      clear k1 k2
      go_upto_region 16 with fail
      clear g0 f0
      obtain ⟨W10, hW10⟩ : ∃ W10, W10 = W9.setCell ⟨g, 0, none⟩ (.slice pn9 L9 cn9) := ⟨_, rfl⟩
      rw [← hW10] at HC9 ⊢
      clear hW10
      obtain ⟨y0, y1, y2, y3, y4, _⟩ := HC9.out.facts
      obtain ⟨c0, c1, c2, c3, c4⟩ := HC9.out.cb.facts
      have f1 := (HC9.out.frozen 1).1
      have f4 := (HC9.out.frozen 4).1
      go_upto_region 17 with fail
      have HC11 := Lib.hid ((HC9.out.set1 (q.nodes.length : Int)).set4 false)
      obtain ⟨W11, hW11⟩ : ∃ W11, W11 = (W10.setCell ⟨g, 1, none⟩ (.int .i64 (q.nodes.length : Int))).setCell ⟨g, 4, none⟩ (.bool false) := ⟨_, rfl⟩
      rw [← hW11] at HC11 ⊢
      clear hW11 y0 y1 y2 y3 y4 c0 c1 c2 c3 c4 f1 f4
      obtain ⟨y0, y1, y2, y3, y4, z0, z1, z2, z3, z4⟩ := HC11.out.facts
      have c4 : W11.cell? ⟨w.heap.size, 4, none⟩ = some (.bool q.empty) := HC11.out.cb.facts.2.2.2.2
      have f0 := (HC11.out.frozen 0).2
      have f1 := (HC11.out.frozen 1).2
      have f2 := (HC11.out.frozen 2).2
      have f3 := (HC11.out.frozen 3).2
      have f4 := (HC11.out.frozen 4).2
      have hne : ¬ g = w.heap.size + 1 := by have := HC11.out.low; have := HC11.out.lowg; omega
      have hne' : ¬ w.heap.size + 1 = g := fun e => hne e.symm
      go_region
      obtain ⟨W12, hW12⟩ : ∃ W12, W12 = (((((W11.setCell ⟨w.heap.size + 1, 0, none⟩ (.slice pn9 L9 cn9)).setCell ⟨w.heap.size + 1, 1, none⟩ (.int .i64 (q.nodes.length : Int))).setCell ⟨w.heap.size + 1, 2, none⟩ (.int .i64 D)).setCell ⟨w.heap.size + 1, 3, none⟩ (.slice pp6 L6 cp6)).setCell ⟨w.heap.size + 1, 4, none⟩ (.bool false)) := ⟨_, rfl⟩
      rw [← hW12]
      obtain ⟨k1, k2, k3, k4⟩ := HC11.out.out hW12
      have K1 := Lib.hid k1
      have K3 := Lib.hid k3
      have K4 := Lib.hid k4
      clear y0 y1 y2 y3 y4 z0 z1 z2 z3 z4 f0 f1 f2 f3 f4 k1 k3 k4 hW12 c4 hne hne'
      have c0 : W12.cell? ⟨w.heap.size + 1, 0, none⟩ = some (.slice pn9 L9 cn9) := cell_blk k2 0
      have c1 : W12.cell? ⟨w.heap.size + 1, 1, none⟩ = some (.int .i64 (q.nodes.length : Int)) := cell_blk k2 1
      have c2 : W12.cell? ⟨w.heap.size + 1, 2, none⟩ = some (.int .i64 D) := cell_blk k2 2
      have c3 : W12.cell? ⟨w.heap.size + 1, 3, none⟩ = some (.slice pp6 L6 cp6) := cell_blk k2 3
      have c4 : W12.cell? ⟨w.heap.size + 1, 4, none⟩ = some (.bool false) := cell_blk k2 4
      go_wp2_with fail
      have eM : (q.nodes.length : Int) = (M : Int) + 1 := by rw [HNL.out]; simp
      refine bodyPost_ret (v := .tuple #[.agg #[.slice pn9 L9 cn9, .int .i64 ((M : Int) + 1), .int .i64 D, .slice pp6 L6 cp6, .bool false], .bool q.empty, .int .i64 0]) (by rw [← eM]; simp [results, Try.results10, go_sem, c0, c1, c2, c3, c4]) rfl ⟨_, rfl, HSTF.out _ _ _ ?_ ?_, ?_⟩
      · rw [HBN.out, ← HL9.out]
        exact K3.out
      · rw [HBP.out, HPOS.out, ← eM, ← HL6.out]
        exact K4.out
      · exact K1.out.drew
end Go.Proofs.Ytgbafpjeapkklaa.Mb
