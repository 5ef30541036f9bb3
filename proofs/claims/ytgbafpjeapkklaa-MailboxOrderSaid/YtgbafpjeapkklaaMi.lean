/- Mailbox: Mark. -/
import Derived.Test.YtgbafpjeapkklaaMh
namespace Go.Proofs.Ytgbafpjeapkklaa.Mb
open Go.RowKit
set_option linter.unusedVariables false
set_option linter.unusedSimpArgs false

/-- A list of triples, with the kind of its block. -/
def TriT (w : World) (e : TypeId) (v : Value) (l : List (Int × Int × Int)) : Prop := Tri w v l ∧ ∀ g, v.ownBlock = some g → ∃ cur f, w.heap[g]? = some (.cells cur e f)
theorem TriT.below {w w' : World} {e : TypeId} {v : Value} {l : List (Int × Int × Int)} (h : TriT w e v l) (hb : Below w.heap.size w w') : TriT w' e v l :=
  ⟨h.1.below hb, fun g hg => by obtain ⟨cur, f, hc⟩ := h.2 g hg; exact ⟨cur, f, (hb.block g (blk_lt hc)).trans hc⟩⟩
theorem TriT.slice {w : World} {e : TypeId} {v : Value} {l : List (Int × Int × Int)} (h : TriT w e v l) : ∃ p cap, v = .slice p l.length cap := h.1.slice
theorem own_triT {w : World} {base : Nat} {e : TypeId} {v : Value} {n : Nat} {l : List (Int × Int × Int)} (hn : n = l.length) (h : w.ownsRow base e 3 v n (cellsT l)) : TriT w e v l := by
  refine ⟨own_tri hn h, fun g hg => ?_⟩
  rcases h.2 with ⟨rfl, _⟩ | ⟨g', cap, cur, rfl, _, hgg, _⟩
  · simp [Value.ownBlock] at hg
  · simp [Value.ownBlock] at hg
    subst hg
    exact ⟨cur, _, hgg⟩
/-- A state as a value. -/
def St (w : World) (v : Value) (q : Q) : Prop := ∃ ns ps, v = .agg #[ns, .int .i64 q.m, .int .i64 q.done, ps, .bool q.empty] ∧ TriT w 99 ns q.nodes ∧ TriT w 102 ps q.pushes
theorem St.below {w w' : World} {v : Value} {q : Q} (h : St w v q) (hb : Below w.heap.size w w') : St w' v q := by
  obtain ⟨ns, ps, e, h1, h2⟩ := h
  exact ⟨ns, ps, e, h1.below hb, h2.below hb⟩

/-- An operation's memory behind clone: the three boxes, and the two rows that are its own. -/
structure CO (w : World) (ns ps : Value) (m d : Int) (b : Bool) (g B : Nat) (ns' ps' : Value) (l1 l2 : List (Int × Int × Int)) (m' d' : Int) (b' : Bool) (W : World) : Prop where
  cb : CB w ns ps m d b W
  box : W.heap[g]? = some (.cells #[ns', .int .i64 m', .int .i64 d', ps', .bool b'] 28 (0, 0))
  low : w.heap.size + 2 ≤ B
  lowg : B ≤ g
  r1 : W.ownsRow B 99 3 ns' l1.length (cellsT l1)
  r2 : W.ownsRow B 102 3 ps' l2.length (cellsT l2)
theorem CO.step {w : World} {ns ps : Value} {m d : Int} {b : Bool} {g B : Nat} {ns' ps' : Value} {l1 l2 : List (Int × Int × Int)} {m' d' : Int} {b' : Bool} {W W' : World} (h : CO w ns ps m d b g B ns' ps' l1 l2 m' d' b' W) (hb : Below W.heap.size W W') :
    CO w ns ps m d b g B ns' ps' l1 l2 m' d' b' W' :=
  ⟨h.cb.step hb, (hb.block _ (blk_lt h.box)).trans h.box, h.low, h.lowg, own_below h.r1 hb, own_below h.r2 hb⟩
theorem CB.size {w : World} {ns ps : Value} {m d : Int} {b : Bool} {W : World} (h : CB w ns ps m d b W) : w.heap.size + 2 ≤ W.heap.size := by
  have := blk_lt h.2.2; omega
/-- A row that is owned does not begin in a block of another kind. -/
theorem own_ne {W : World} {B g : Nat} {e t : TypeId} {v : Value} {n : Nat} {xs : List Value} {C : Array Value} {f : Nat × Nat} (h : W.ownsRow B e 3 v n xs) (hg : W.heap[g]? = some (.cells C t f)) (ht : e ≠ t) : v.ownBlock ≠ some g := by
  intro hv
  rcases h.2 with ⟨rfl, _⟩ | ⟨g', cap, cur, rfl, _, hgg, _⟩
  · simp [Value.ownBlock] at hv
  · simp [Value.ownBlock] at hv
    subst hv
    rw [hgg] at hg
    injection hg with hg
    injection hg with _ h2 _
    exact ht h2
theorem own_set {W : World} {B g : Nat} {e t : TypeId} {v : Value} {n : Nat} {xs : List Value} {C : Array Value} {f : Nat × Nat} (h : W.ownsRow B e 3 v n xs) (hg : W.heap[g]? = some (.cells C t f)) (ht : e ≠ t) (o : Nat) (u : Value) : (W.setCell ⟨g, o, none⟩ u).ownsRow B e 3 v n xs := by
  have hne := own_ne h hg ht
  refine ⟨h.1, ?_⟩
  rcases h.2 with h0 | ⟨g', cap, cur, h1, h2, h3, h4⟩
  · exact .inl h0
  · refine .inr ⟨g', cap, cur, h1, h2, ?_, h4⟩
    subst h1
    exact blk_set_ne h3 _ (by intro e; apply hne; simp [Value.ownBlock]; exact e) _
/-- A cell of the operation's own box is stored. -/
theorem CO.set {w : World} {ns ps : Value} {m d : Int} {b : Bool} {g B : Nat} {ns' ps' : Value} {l1 l2 : List (Int × Int × Int)} {m' d' : Int} {b' : Bool} {W : World} (h : CO w ns ps m d b g B ns' ps' l1 l2 m' d' b' W) (o : Nat) (u : Value) :
    CB w ns ps m d b (W.setCell ⟨g, o, none⟩ u) ∧ (W.setCell ⟨g, o, none⟩ u).ownsRow B 99 3 ns' l1.length (cellsT l1) ∧ (W.setCell ⟨g, o, none⟩ u).ownsRow B 102 3 ps' l2.length (cellsT l2) := by
  have := h.low
  have := h.lowg
  refine ⟨⟨h.cb.1.setCell (p := ⟨g, o, none⟩) (by show w.heap.size ≤ g; omega) _, blk_set_ne h.cb.2.1 ⟨g, o, none⟩ (by show w.heap.size ≠ g; omega) _, blk_set_ne h.cb.2.2 ⟨g, o, none⟩ (by show w.heap.size + 1 ≠ g; omega) _⟩, own_set h.r1 h.box (by decide) _ _, own_set h.r2 h.box (by decide) _ _⟩
theorem CO.set4 {w : World} {ns ps : Value} {m d : Int} {b : Bool} {g B : Nat} {ns' ps' : Value} {l1 l2 : List (Int × Int × Int)} {m' d' : Int} {b' : Bool} {W : World} (h : CO w ns ps m d b g B ns' ps' l1 l2 m' d' b' W) (c : Bool) :
    CO w ns ps m d b g B ns' ps' l1 l2 m' d' c (W.setCell ⟨g, 4, none⟩ (.bool c)) :=
  ⟨(h.set 4 _).1, blk_set h.box 4 _, h.low, h.lowg, (h.set 4 _).2.1, (h.set 4 _).2.2⟩
theorem CO.set2 {w : World} {ns ps : Value} {m d : Int} {b : Bool} {g B : Nat} {ns' ps' : Value} {l1 l2 : List (Int × Int × Int)} {m' d' : Int} {b' : Bool} {W : World} (h : CO w ns ps m d b g B ns' ps' l1 l2 m' d' b' W) (c : Int) :
    CO w ns ps m d b g B ns' ps' l1 l2 m' c b' (W.setCell ⟨g, 2, none⟩ (.int .i64 c)) :=
  ⟨(h.set 2 _).1, blk_set h.box 2 _, h.low, h.lowg, (h.set 2 _).2.1, (h.set 2 _).2.2⟩
theorem CO.set1 {w : World} {ns ps : Value} {m d : Int} {b : Bool} {g B : Nat} {ns' ps' : Value} {l1 l2 : List (Int × Int × Int)} {m' d' : Int} {b' : Bool} {W : World} (h : CO w ns ps m d b g B ns' ps' l1 l2 m' d' b' W) (c : Int) :
    CO w ns ps m d b g B ns' ps' l1 l2 c d' b' (W.setCell ⟨g, 1, none⟩ (.int .i64 c)) :=
  ⟨(h.set 1 _).1, blk_set h.box 1 _, h.low, h.lowg, (h.set 1 _).2.1, (h.set 1 _).2.2⟩
/-- Behind clone's call its result is put into a new box. -/
theorem CO.made {w : World} {ns ps : Value} {m d : Int} {b : Bool} {B : Nat} {ns' ps' : Value} {l1 l2 : List (Int × Int × Int)} {W : World} (m' d' : Int) (b' : Bool) (h : CB w ns ps m d b W) (hB : w.heap.size + 2 ≤ B) (hBW : B ≤ W.heap.size)
    (r1 : W.ownsRow B 99 3 ns' l1.length (cellsT l1)) (r2 : W.ownsRow B 102 3 ps' l2.length (cellsT l2)) :
    ∃ g W', g = W.heap.size ∧ W' = W.alloc (Obj.cells #[ns', .int .i64 m', .int .i64 d', ps', .bool b'] 28) ∧ CO w ns ps m d b g B ns' ps' l1 l2 m' d' b' W' := by
  have ha : Below W.heap.size W (W.alloc (Obj.cells #[ns', .int .i64 m', .int .i64 d', ps', .bool b'] 28)) := (Below.refl _ _).alloc (Nat.le_refl _) _
  have hn := (MapKept.heap_alloc W (Obj.cells #[ns', .int .i64 m', .int .i64 d', ps', .bool b'] 28)).1
  exact ⟨_, _, rfl, rfl, h.step ha, hn, hB, hBW, own_below r1 ha, own_below r2 ha⟩
/-- The result's box is stored, whole. -/
theorem CO.out {w : World} {ns ps : Value} {m d : Int} {b : Bool} {g B : Nat} {ns' ps' : Value} {l1 l2 : List (Int × Int × Int)} {m' d' : Int} {b' : Bool} {W : World} (h : CO w ns ps m d b g B ns' ps' l1 l2 m' d' b' W) {W' : World}
    (hW : W' = (((((W.setCell ⟨w.heap.size + 1, 0, none⟩ ns').setCell ⟨w.heap.size + 1, 1, none⟩ (.int .i64 m')).setCell ⟨w.heap.size + 1, 2, none⟩ (.int .i64 d')).setCell ⟨w.heap.size + 1, 3, none⟩ ps').setCell ⟨w.heap.size + 1, 4, none⟩ (.bool b'))) :
    Below w.heap.size w W' ∧ W'.heap[w.heap.size + 1]? = some (.cells #[ns', .int .i64 m', .int .i64 d', ps', .bool b'] 28 (0, 0)) ∧ TriT W' 99 ns' l1 ∧ TriT W' 102 ps' l2 := by
  subst hW
  have := h.low
  obtain ⟨f1, f2, f3⟩ := five h.cb.2.2 ns' (.int .i64 m') (.int .i64 d') ps' (.bool b')
  exact ⟨f2 _ _ (Nat.le_succ _) h.cb.1, f1, own_triT rfl (f3 _ _ _ _ _ _ (by omega) h.r1), own_triT rfl (f3 _ _ _ _ _ _ (by omega) h.r2)⟩
theorem CO.facts {w : World} {ns ps : Value} {m d : Int} {b : Bool} {g B : Nat} {ns' ps' : Value} {l1 l2 : List (Int × Int × Int)} {m' d' : Int} {b' : Bool} {W : World} (h : CO w ns ps m d b g B ns' ps' l1 l2 m' d' b' W) :
    W.cell? ⟨g, 0, none⟩ = some ns' ∧ W.cell? ⟨g, 1, none⟩ = some (.int .i64 m') ∧ W.cell? ⟨g, 2, none⟩ = some (.int .i64 d') ∧ W.cell? ⟨g, 3, none⟩ = some ps' ∧ W.cell? ⟨g, 4, none⟩ = some (.bool b') ∧
    W.cell? ⟨w.heap.size + 1, 0, none⟩ = some (.slice none 0 0) ∧ W.cell? ⟨w.heap.size + 1, 1, none⟩ = some (.int .i64 0) ∧ W.cell? ⟨w.heap.size + 1, 2, none⟩ = some (.int .i64 0) ∧ W.cell? ⟨w.heap.size + 1, 3, none⟩ = some (.slice none 0 0) ∧ W.cell? ⟨w.heap.size + 1, 4, none⟩ = some (.bool false) :=
  ⟨cell_blk h.box 0, cell_blk h.box 1, cell_blk h.box 2, cell_blk h.box 3, cell_blk h.box 4, cell_blk h.cb.2.2 0, cell_blk h.cb.2.2 1, cell_blk h.cb.2.2 2, cell_blk h.cb.2.2 3, cell_blk h.cb.2.2 4⟩
theorem CO.frozen {w : World} {ns ps : Value} {m d : Int} {b : Bool} {g B : Nat} {ns' ps' : Value} {l1 l2 : List (Int × Int × Int)} {m' d' : Int} {b' : Bool} {W : World} (h : CO w ns ps m d b g B ns' ps' l1 l2 m' d' b' W) (o : Nat) :
    W.frozen? ⟨g, o, none⟩ = false ∧ W.frozen? ⟨w.heap.size + 1, o, none⟩ = false := ⟨frozen_blk h.box o, frozen_blk h.cb.2.2 o⟩
theorem CB.facts {w : World} {ns ps : Value} {m d : Int} {b : Bool} {W : World} (h : CB w ns ps m d b W) :
    W.cell? ⟨w.heap.size, 0, none⟩ = some ns ∧ W.cell? ⟨w.heap.size, 1, none⟩ = some (.int .i64 m) ∧ W.cell? ⟨w.heap.size, 2, none⟩ = some (.int .i64 d) ∧ W.cell? ⟨w.heap.size, 3, none⟩ = some ps ∧ W.cell? ⟨w.heap.size, 4, none⟩ = some (.bool b) :=
  ⟨cell_blk h.2.1 0, cell_blk h.2.1 1, cell_blk h.2.1 2, cell_blk h.2.1 3, cell_blk h.2.1 4⟩

set_option maxRecDepth 100000 in
set_option maxHeartbeats 4000000 in
theorem mark_at {q : Q} (hq : WF q) {v : Value} (w : World) (hv : St w v q) :
    Calls Try.prog 13 #[v] w fun e w' => ∃ v', e = .returned (.tuple #[v', .bool (decide (q.done = q.m)), .int .i64 0]) ∧ St w' v' { q with empty := decide (q.done = q.m) } ∧ Below w.heap.size w w' := by
  obtain ⟨ns, ps, rfl, hn, hp⟩ := hv
  have hfew := hq.few
  have hfo := hq.fewo
  have HCK : Hid (∀ W, Below w.heap.size w W → Calls Try.prog 18 #[.agg #[ns, .int .i64 q.m, .int .i64 q.done, ps, .bool q.empty]] W fun e w' => e = .returned (.int .i64 0) ∧ Below W.heap.size W w') := fun W h => check_at hq ns ps W (hn.below h).1 (hp.below h).1
  have HCL : Hid (∀ W, Below w.heap.size w W → Calls Try.prog 40 #[.agg #[ns, .int .i64 q.m, .int .i64 q.done, ps, .bool q.empty]] W fun e w' => ∃ ns' ps', e = .returned (.agg #[ns', .int .i64 q.m, .int .i64 q.done, ps', .bool q.empty]) ∧
      w'.ownsRow W.heap.size 99 3 ns' q.nodes.length (cellsT q.nodes) ∧ w'.ownsRow W.heap.size 102 3 ps' q.pushes.length (cellsT q.pushes) ∧ Below W.heap.size W w') :=
    fun W h => clone_at (hn.below h).1 (hp.below h).1 (by rw [nodes_len]; omega) (by rw [pushes_len]; omega) _ _ _
  have HB0 : Hid (CB w ns ps q.m q.done q.empty ((w.alloc (Obj.cells #[ns, .int .i64 q.m, .int .i64 q.done, ps, .bool q.empty] 28)).alloc (Obj.cells #[.slice none 0 0, .int .i64 0, .int .i64 0, .slice none 0 0, .bool false] 28))) := CB.mk w ns ps q.m q.done q.empty
  obtain ⟨pn, cn, hA⟩ := hn.slice
  obtain ⟨pp, cp, hB⟩ := hp.slice
  subst hA
  subst hB
  clear hn hp
  obtain ⟨t, ht⟩ : ∃ t : Bool, t = decide (q.done = q.m) := ⟨_, rfl⟩
  have et : ((q.done : Int) == (q.m : Int)) = t := by
    rw [ht]
    by_cases h : q.done = q.m
    · simp [h]
    · simp [h]; omega
  rw [← ht]
  have HTT := Lib.hid ht; clear ht
  have HNQ : Hid ({ q with empty := t }.nodes = q.nodes ∧ { q with empty := t }.pushes = q.pushes) := ⟨rfl, rfl⟩
  generalize hM : q.m = M at *
  generalize hD : q.done = D at *
  go_enter Try.func13, Try.ntmps13
  go_upto_region 1 with fail
  generalize ((w.alloc (Obj.cells #[.slice pn q.nodes.length cn, .int .i64 M, .int .i64 D, .slice pp q.pushes.length cp, .bool q.empty] 28)).alloc (Obj.cells #[.slice none 0 0, .int .i64 0, .int .i64 0, .slice none 0 0, .bool false] 28)) = W0 at *
  obtain ⟨c0, c1, c2, c3, c4⟩ := HB0.out.facts
  go_wp2_with fail
  refine (HCK.out _ HB0.out.1).mono ?_
  rintro e W1 ⟨rfl, hb1⟩
  have HB1 := Lib.hid (HB0.out.step hb1)
  clear hb1 c0 c1 c2 c3 c4
  obtain ⟨c0, c1, c2, c3, c4⟩ := HB1.out.facts
  go_wp2_with fail
  refine (HCL.out _ HB1.out.1).mono ?_
  rintro e W2 ⟨ns', ps', rfl, r1, r2, hb2⟩
  obtain ⟨pn', cn', hA⟩ := own_slice r1
  obtain ⟨pp', cp', hB⟩ := own_slice r2
  subst hA
  subst hB
  have HB2 := Lib.hid (HB1.out.step hb2)
  obtain ⟨g, W3, hg, hW3, hC3⟩ := CO.made M D q.empty HB2.out HB1.out.size hb2.size r1 r2
  have HC3 := Lib.hid hC3
  clear hb2 r1 r2 c0 c1 c2 c3 c4 hC3
  go_upto_region 5 with fail
  rw [← hg, ← hW3]
  clear hg hW3
  obtain ⟨c0, c1, c2, c3, c4⟩ := HC3.out.cb.facts
  have f4 := (HC3.out.frozen 4).1
  obtain ⟨y0, y1, y2, y3, y4, _⟩ := HC3.out.facts
  go_upto_region 6 with fail
  clear c0 c1 c2 c3 c4 f4 y0 y1 y2 y3 y4
  have HC4 := Lib.hid (HC3.out.set4 t)
  generalize W3.setCell ⟨g, 4, none⟩ (.bool t) = W4 at *
  obtain ⟨y0, y1, y2, y3, y4, z0, z1, z2, z3, z4⟩ := HC4.out.facts
  have f0 := (HC4.out.frozen 0).2
  have f1 := (HC4.out.frozen 1).2
  have f2 := (HC4.out.frozen 2).2
  have f3 := (HC4.out.frozen 3).2
  have f4 := (HC4.out.frozen 4).2
  have hne : ¬ g = w.heap.size + 1 := by have := HC4.out.low; have := HC4.out.lowg; omega
  have hne' : ¬ w.heap.size + 1 = g := fun e => hne e.symm
  go_region
  obtain ⟨W5, hW5⟩ : ∃ W5, W5 = (((((W4.setCell ⟨w.heap.size + 1, 0, none⟩ (.slice pn' q.nodes.length cn')).setCell ⟨w.heap.size + 1, 1, none⟩ (.int .i64 M)).setCell ⟨w.heap.size + 1, 2, none⟩ (.int .i64 D)).setCell ⟨w.heap.size + 1, 3, none⟩ (.slice pp' q.pushes.length cp')).setCell ⟨w.heap.size + 1, 4, none⟩ (.bool t)) := ⟨_, rfl⟩
  rw [← hW5]
  obtain ⟨k1, k2, k3, k4⟩ := HC4.out.out hW5
  have K1 := Lib.hid k1
  have K3 := Lib.hid k3
  have K4 := Lib.hid k4
  clear y0 y1 y2 y3 y4 z0 z1 z2 z3 z4 f0 f1 f2 f3 f4 k1 k3 k4 hW5
  have c0 : W5.cell? ⟨w.heap.size + 1, 0, none⟩ = some (.slice pn' q.nodes.length cn') := cell_blk k2 0
  have c1 : W5.cell? ⟨w.heap.size + 1, 1, none⟩ = some (.int .i64 M) := cell_blk k2 1
  have c2 : W5.cell? ⟨w.heap.size + 1, 2, none⟩ = some (.int .i64 D) := cell_blk k2 2
  have c3 : W5.cell? ⟨w.heap.size + 1, 3, none⟩ = some (.slice pp' q.pushes.length cp') := cell_blk k2 3
  have c4 : W5.cell? ⟨w.heap.size + 1, 4, none⟩ = some (.bool t) := cell_blk k2 4
  go_wp2_with fail
  refine bodyPost_ret (v := .tuple #[.agg #[.slice pn' q.nodes.length cn', .int .i64 M, .int .i64 D, .slice pp' q.pushes.length cp', .bool t], .bool t, .int .i64 0]) (by simp [results, Try.results13, go_sem, c0, c1, c2, c3, c4]) rfl ⟨_, rfl, ⟨_, _, by subst hM; subst hD; rfl, ?_, ?_⟩, ?_⟩
  · exact K3.out
  · exact K4.out
  · exact K1.out.drew
end Go.Proofs.Ytgbafpjeapkklaa.Mb
