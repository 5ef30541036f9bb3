/- Mailbox: awake. -/
import Derived.Test.YtgbafpjeapkklaaMo
namespace Go.Proofs.Ytgbafpjeapkklaa.Mb
open Go.RowKit
set_option linter.unusedVariables false
set_option linter.unusedSimpArgs false

/-- A variable that holds a state. -/
structure SB (w : World) (X : Nat) (ns ps : Value) (q : Q) (W : World) : Prop where
  below : Below w.heap.size w W
  low : w.heap.size ≤ X
  box : W.heap[X]? = some (.cells #[ns, .int .i64 q.m, .int .i64 q.done, ps, .bool q.empty] 28 (0, 0))
  t1 : TriT W 99 ns q.nodes
  t2 : TriT W 102 ps q.pushes
theorem SB.step {w : World} {X : Nat} {ns ps : Value} {q : Q} {W W' : World} (h : SB w X ns ps q W) (hb : Below W.heap.size W W') : SB w X ns ps q W' :=
  ⟨h.below.trans (hb.mono h.below.size), h.low, (hb.block _ (blk_lt h.box)).trans h.box, h.t1.below hb, h.t2.below hb⟩
theorem SB.st {w : World} {X : Nat} {ns ps : Value} {q : Q} {W : World} (h : SB w X ns ps q W) : St W (.agg #[ns, .int .i64 q.m, .int .i64 q.done, ps, .bool q.empty]) q := ⟨ns, ps, rfl, h.t1, h.t2⟩
theorem SB.facts {w : World} {X : Nat} {ns ps : Value} {q : Q} {W : World} (h : SB w X ns ps q W) :
    W.cell? ⟨X, 0, none⟩ = some ns ∧ W.cell? ⟨X, 1, none⟩ = some (.int .i64 q.m) ∧ W.cell? ⟨X, 2, none⟩ = some (.int .i64 q.done) ∧ W.cell? ⟨X, 3, none⟩ = some ps ∧ W.cell? ⟨X, 4, none⟩ = some (.bool q.empty) :=
  ⟨cell_blk h.box 0, cell_blk h.box 1, cell_blk h.box 2, cell_blk h.box 3, cell_blk h.box 4⟩
theorem SB.frz {w : World} {X : Nat} {ns ps : Value} {q : Q} {W : World} (h : SB w X ns ps q W) :
    W.frozen? ⟨X, 0, none⟩ = false ∧ W.frozen? ⟨X, 1, none⟩ = false ∧ W.frozen? ⟨X, 2, none⟩ = false ∧ W.frozen? ⟨X, 3, none⟩ = false ∧ W.frozen? ⟨X, 4, none⟩ = false :=
  ⟨frozen_blk h.box 0, frozen_blk h.box 1, frozen_blk h.box 2, frozen_blk h.box 3, frozen_blk h.box 4⟩
/-- A list of triples stays when a block of another kind is changed. -/
theorem TriT.keep {W W' : World} {e : TypeId} {v : Value} {l : List (Int × Int × Int)} (h : TriT W e v l) (hs : W.heap.size ≤ W'.heap.size) (hk : ∀ (k : Nat) (C : Array Value) (f : Nat × Nat), W.heap[k]? = some (.cells C e f) → W'.heap[k]? = W.heap[k]?) : TriT W' e v l := by
  obtain ⟨⟨p, cap, rfl, hc, h1⟩, h2⟩ := h
  refine ⟨⟨p, cap, rfl, hc, ?_⟩, fun g hg => ?_⟩
  · rcases h1 with h1 | ⟨g, off, rfl, hg, h1⟩
    · exact .inl h1
    · obtain ⟨cur, f, hcur⟩ := h2 g rfl
      have e' := hk _ _ _ hcur
      refine .inr ⟨g, off, rfl, Nat.lt_of_lt_of_le hg hs, fun k x hx => ?_⟩
      obtain ⟨a, b, c⟩ := h1 k x hx
      exact ⟨(World.cell?_of_block (a := ⟨g, off + k * 3, none⟩) e').trans a, (World.cell?_of_block (a := ⟨g, off + k * 3 + 1, none⟩) e').trans b, (World.cell?_of_block (a := ⟨g, off + k * 3 + 2, none⟩) e').trans c⟩
  · obtain ⟨cur, f, hcur⟩ := h2 g hg
    exact ⟨cur, f, (hk _ _ _ hcur).trans hcur⟩
theorem TriT.five {W : World} {e t : TypeId} {v : Value} {l : List (Int × Int × Int)} (h : TriT W e v l) {X : Nat} {C : Array Value} {f : Nat × Nat} (hX : W.heap[X]? = some (.cells C t f)) (ht : e ≠ t) (v0 v1 v2 v3 v4 : Value) :
    TriT (((((W.setCell ⟨X, 0, none⟩ v0).setCell ⟨X, 1, none⟩ v1).setCell ⟨X, 2, none⟩ v2).setCell ⟨X, 3, none⟩ v3).setCell ⟨X, 4, none⟩ v4) e v l := by
  refine h.keep (by simp [World.setCell]) fun k C' f' hk => ?_
  have hne : k ≠ X := by
    rintro rfl
    rw [hk] at hX
    injection hX with hX
    injection hX with _ h2 _
    exact ht h2
  rw [Below.heap_setCell _ _ _ _ hne, Below.heap_setCell _ _ _ _ hne, Below.heap_setCell _ _ _ _ hne, Below.heap_setCell _ _ _ _ hne, Below.heap_setCell _ _ _ _ hne]
/-- A state is stored, whole. -/
theorem SB.put {w : World} {X : Nat} {ns ps : Value} {q : Q} {W : World} (h : SB w X ns ps q W) {ns' ps' : Value} {q' : Q} (h1 : TriT W 99 ns' q'.nodes) (h2 : TriT W 102 ps' q'.pushes) {W' : World}
    (hW : W' = (((((W.setCell ⟨X, 0, none⟩ ns').setCell ⟨X, 1, none⟩ (.int .i64 q'.m)).setCell ⟨X, 2, none⟩ (.int .i64 q'.done)).setCell ⟨X, 3, none⟩ ps').setCell ⟨X, 4, none⟩ (.bool q'.empty))) : SB w X ns' ps' q' W' := by
  subst hW
  obtain ⟨f1, f2, _⟩ := five h.box ns' (.int .i64 q'.m) (.int .i64 q'.done) ps' (.bool q'.empty)
  exact ⟨f2 _ _ h.low h.below, h.low, f1, h1.five h.box (by decide) _ _ _ _ _, h2.five h.box (by decide) _ _ _ _ _⟩
theorem SB.mk' {w : World} {W : World} (hb : Below w.heap.size w W) {ns' ps' : Value} {q' : Q} (h1 : TriT W 99 ns' q'.nodes) (h2 : TriT W 102 ps' q'.pushes) :
    ∃ X W', X = W.heap.size ∧ W' = W.alloc (Obj.cells #[ns', .int .i64 q'.m, .int .i64 q'.done, ps', .bool q'.empty] 28) ∧ SB w X ns' ps' q' W' ∧ Below W.heap.size W W' := by
  have ha : Below W.heap.size W (W.alloc (Obj.cells #[ns', .int .i64 q'.m, .int .i64 q'.done, ps', .bool q'.empty] 28)) := (Below.refl _ _).alloc (Nat.le_refl _) _
  exact ⟨_, _, rfl, rfl, ⟨hb.trans (ha.mono hb.size), hb.size, (MapKept.heap_alloc _ _).1, h1.below ha, h2.below ha⟩, ha⟩

theorem pos_last {q : Q} {p : Int} (h : ∀ o ∈ q.opn, o.1 < p) : q.pos p = q.pushes.length := by
  rw [pushes_len]
  exact pos_of (Nat.le_refl _) (fun j o _ ho => h o (List.mem_of_getElem? ho)) (fun o ho => by have := (List.getElem?_eq_some_iff.1 ho).1; omega)
theorem begin_last {q : Q} (hq : WF q) {v : Value} {p x : Int} (hp : 0 ≤ p) (hno : ∀ o ∈ q.opn, o.1 < p) (hm : q.m + 1 < 2000) (w : World) (hv : St w v q) :
    Calls Try.prog 10 #[v, .int .i64 p, .int .i64 x] w fun e w' => ∃ v', e = .returned (.tuple #[v', .bool q.empty, .int .i64 0]) ∧ St w' v' (q.beg p x) ∧ Below w.heap.size w w' := by
  refine begin_at hq hp (fun o ho => by have := hno o ho; omega) hm ?_ w hv
  rw [pos_last hno]
  exact insert_end (by rw [pushes_len]; have := hq.fewo; omega) _
theorem pop_wf {q : Q} (hq : WF q) (hc : q.can q.done = true) : WF { q with done := q.done + 1 } where
  few := hq.few
  fewo := hq.fewo
  prod := hq.prod
  sorted := hq.sorted
  opn := hq.opn
  done := by unfold Q.can at hc; simp at hc; exact hc.1
  linked := by
    intro j h1 h2
    have h3 : j ≤ q.done + 1 := h2
    by_cases h4 : j = q.done + 1
    · subst h4; unfold Q.can at hc; simp at hc; exact hc.2
    · exact hq.linked j h1 (by omega)
  mt := by
    intro h
    have := hq.mt h
    unfold Q.can at hc
    simp at hc
    omega

def a1 : Q := q0.beg 0 7
def a2 : Q := a1.beg 1 8
def a3 : Q := a2.fin 1
def a4 : Q := a3.fin 0
def a5 : Q := { a4 with done := a4.done + 1 }
def a6 : Q := { a5 with done := a5.done + 1 }
theorem a1_wf : WF a1 := beg_wf q0_wf (by decide) (by decide) (by decide)
theorem a2_wf : WF a2 := beg_wf a1_wf (by decide) (by decide) (by decide)
theorem a3_wf : WF a3 := fin_wf a2_wf (o := (1, 2)) (by decide)
theorem a4_wf : WF a4 := fin_wf a3_wf (o := (0, 1)) (by decide)
theorem a5_wf : WF a5 := pop_wf a4_wf (by decide)
theorem a6_wf : WF a6 := pop_wf a5_wf (by decide)

set_option maxRecDepth 100000 in
set_option maxHeartbeats 4000000 in
theorem awake_at (w : World) : Calls Try.prog 8 #[] w fun e w' => e = .returned (.bool true) ∧ Below w.heap.size w w' := by
  have H1 : Hid (∀ W v, St W v q0 → Calls Try.prog 10 #[v, .int .i64 0, .int .i64 7] W fun e w' => ∃ v', e = .returned (.tuple #[v', .bool true, .int .i64 0]) ∧ St w' v' a1 ∧ Below W.heap.size W w') :=
    fun W v h => begin_last q0_wf (by decide) (by decide) (by decide) W h
  have H2 : Hid (∀ W v, St W v a1 → Calls Try.prog 10 #[v, .int .i64 1, .int .i64 8] W fun e w' => ∃ v', e = .returned (.tuple #[v', .bool false, .int .i64 0]) ∧ St w' v' a2 ∧ Below W.heap.size W w') :=
    fun W v h => begin_last a1_wf (by decide) (by decide) (by decide) W h
  have H3 : Hid (∀ W v, St W v a2 → Calls Try.prog 11 #[v, .int .i64 1] W fun e w' => ∃ v', e = .returned (.tuple #[v', .int .i64 0]) ∧ St w' v' a3 ∧ Below W.heap.size W w') :=
    fun W v h => finish_at a2_wf (i := 1) (j := 2) (by decide) W h
  have H4 : Hid (∀ W v, St W v a3 → Calls Try.prog 21 #[v] W fun e w' => ∃ v', e = .returned (.tuple #[v', .int .i64 0, .bool false, .int .i64 0]) ∧ St w' v' a3 ∧ Below W.heap.size W w') :=
    fun W v h => PopNo_at a3_wf (by decide) W h
  have H5 : Hid (∀ W v, St W v a3 → Calls Try.prog 11 #[v, .int .i64 0] W fun e w' => ∃ v', e = .returned (.tuple #[v', .int .i64 0]) ∧ St w' v' a4 ∧ Below W.heap.size W w') :=
    fun W v h => finish_at a3_wf (i := 0) (j := 1) (by decide) W h
  have H6 : Hid (∀ W v, St W v a4 → Calls Try.prog 21 #[v] W fun e w' => ∃ v', e = .returned (.tuple #[v', .int .i64 7, .bool true, .int .i64 0]) ∧ St w' v' a5 ∧ Below W.heap.size W w') :=
    fun W v h => PopYes_at a4_wf (by decide) W h
  have H7 : Hid (∀ W v, St W v a5 → Calls Try.prog 21 #[v] W fun e w' => ∃ v', e = .returned (.tuple #[v', .int .i64 8, .bool true, .int .i64 0]) ∧ St w' v' a6 ∧ Below W.heap.size W w') :=
    fun W v h => PopYes_at a5_wf (by decide) W h
  have H8 : Hid (∀ W v, St W v a6 → Calls Try.prog 13 #[v] W fun e w' => ∃ v', e = .returned (.tuple #[v', .bool true, .int .i64 0]) ∧ St w' v' { a6 with empty := true } ∧ Below W.heap.size W w') :=
    fun W v h => mark_at a6_wf W h
  go_enter Try.func8, Try.ntmps8
  go_wp2_with fail
  refine (new_at w).mono ?_
  rintro e W1 ⟨v1, rfl, ⟨ns1, ps1, rfl, t1, t2⟩, hb1⟩
  have HB1 := Lib.hid hb1; clear hb1
  have HST := Lib.hid (show St W1 (.agg #[ns1, .int .i64 q0.m, .int .i64 q0.done, ps1, .bool q0.empty]) q0 from ⟨_, _, rfl, t1, t2⟩); clear t1 t2
  go_wp2_with fail
  refine (H1.out _ _ HST.out).mono ?_
  rintro e W2 ⟨v2, rfl, ⟨ns2, ps2, rfl, t1, t2⟩, hb2⟩
  obtain ⟨pn2, cn2, e1⟩ := t1.slice
  obtain ⟨pp2, cp2, e2⟩ := t2.slice
  subst e1
  subst e2
  obtain ⟨X, W3, hX, hW3, hsb, _⟩ := SB.mk' (HB1.out.trans (hb2.mono HB1.out.size)) t1 t2
  have HS := Lib.hid hsb
  clear hb2 t1 t2 hsb HB1 HST
  go_upto_region 2 with fail
  rw [← hX, ← hW3]
  clear hX hW3
  obtain ⟨c0, c1, c2, c3, c4⟩ := HS.out.facts
  go_wp2_with fail
  refine (H2.out _ _ HS.out.st).mono ?_
  rintro e V3 ⟨v3, rfl, ⟨ns3, ps3, rfl, t1, t2⟩, hb⟩
  obtain ⟨pn3, cn3, e1⟩ := t1.slice
  obtain ⟨pp3, cp3, e2⟩ := t2.slice
  subst e1
  subst e2
  have HS1 := Lib.hid (HS.out.step hb)
  clear hb c0 c1 c2 c3 c4 HS
  obtain ⟨c0, c1, c2, c3, c4⟩ := HS1.out.facts
  obtain ⟨f0, f1, f2, f3, f4⟩ := HS1.out.frz
  obtain ⟨W4, hW⟩ : ∃ W4, W4 = (((((V3.setCell ⟨X, 0, none⟩ (.slice pn3 a2.nodes.length cn3)).setCell ⟨X, 1, none⟩ (.int .i64 a2.m)).setCell ⟨X, 2, none⟩ (.int .i64 a2.done)).setCell ⟨X, 3, none⟩ (.slice pp3 a2.pushes.length cp3)).setCell ⟨X, 4, none⟩ (.bool a2.empty)) := ⟨_, rfl⟩
  have HS := Lib.hid (HS1.out.put t1 t2 hW)
  clear t1 t2
  go_upto_region 3 with fail
  rw [← hW]
  clear hW c0 c1 c2 c3 c4 f0 f1 f2 f3 f4 HS1
  obtain ⟨c0, c1, c2, c3, c4⟩ := HS.out.facts
  go_wp2_with fail
  refine (H3.out _ _ HS.out.st).mono ?_
  rintro e V4 ⟨v4, rfl, ⟨ns4, ps4, rfl, t1, t2⟩, hb⟩
  obtain ⟨pn4, cn4, e1⟩ := t1.slice
  obtain ⟨pp4, cp4, e2⟩ := t2.slice
  subst e1
  subst e2
  have HS1 := Lib.hid (HS.out.step hb)
  clear hb c0 c1 c2 c3 c4 HS
  obtain ⟨c0, c1, c2, c3, c4⟩ := HS1.out.facts
  obtain ⟨f0, f1, f2, f3, f4⟩ := HS1.out.frz
  obtain ⟨W5, hW⟩ : ∃ W5, W5 = (((((V4.setCell ⟨X, 0, none⟩ (.slice pn4 a3.nodes.length cn4)).setCell ⟨X, 1, none⟩ (.int .i64 a3.m)).setCell ⟨X, 2, none⟩ (.int .i64 a3.done)).setCell ⟨X, 3, none⟩ (.slice pp4 a3.pushes.length cp4)).setCell ⟨X, 4, none⟩ (.bool a3.empty)) := ⟨_, rfl⟩
  have HS := Lib.hid (HS1.out.put t1 t2 hW)
  clear t1 t2
  go_upto_region 4 with fail
  rw [← hW]
  clear hW c0 c1 c2 c3 c4 f0 f1 f2 f3 f4 HS1
  obtain ⟨c0, c1, c2, c3, c4⟩ := HS.out.facts
  go_wp2_with fail
  refine (H4.out _ _ HS.out.st).mono ?_
  rintro e V5 ⟨v5, rfl, ⟨ns5, ps5, rfl, t1, t2⟩, hb⟩
  obtain ⟨pn5, cn5, e1⟩ := t1.slice
  obtain ⟨pp5, cp5, e2⟩ := t2.slice
  subst e1
  subst e2
  have HS1 := Lib.hid (HS.out.step hb)
  clear hb c0 c1 c2 c3 c4 HS
  obtain ⟨c0, c1, c2, c3, c4⟩ := HS1.out.facts
  obtain ⟨f0, f1, f2, f3, f4⟩ := HS1.out.frz
  obtain ⟨W6, hW⟩ : ∃ W6, W6 = (((((V5.setCell ⟨X, 0, none⟩ (.slice pn5 a3.nodes.length cn5)).setCell ⟨X, 1, none⟩ (.int .i64 a3.m)).setCell ⟨X, 2, none⟩ (.int .i64 a3.done)).setCell ⟨X, 3, none⟩ (.slice pp5 a3.pushes.length cp5)).setCell ⟨X, 4, none⟩ (.bool a3.empty)) := ⟨_, rfl⟩
  have HS := Lib.hid (HS1.out.put t1 t2 hW)
  clear t1 t2
  go_upto_region 5 with fail
  rw [← hW]
  clear hW c0 c1 c2 c3 c4 f0 f1 f2 f3 f4 HS1
  obtain ⟨c0, c1, c2, c3, c4⟩ := HS.out.facts
  go_wp2_with fail
  refine (H5.out _ _ HS.out.st).mono ?_
  rintro e V6 ⟨v6, rfl, ⟨ns6, ps6, rfl, t1, t2⟩, hb⟩
  obtain ⟨pn6, cn6, e1⟩ := t1.slice
  obtain ⟨pp6, cp6, e2⟩ := t2.slice
  subst e1
  subst e2
  have HS1 := Lib.hid (HS.out.step hb)
  clear hb c0 c1 c2 c3 c4 HS
  obtain ⟨c0, c1, c2, c3, c4⟩ := HS1.out.facts
  obtain ⟨f0, f1, f2, f3, f4⟩ := HS1.out.frz
  obtain ⟨W7, hW⟩ : ∃ W7, W7 = (((((V6.setCell ⟨X, 0, none⟩ (.slice pn6 a4.nodes.length cn6)).setCell ⟨X, 1, none⟩ (.int .i64 a4.m)).setCell ⟨X, 2, none⟩ (.int .i64 a4.done)).setCell ⟨X, 3, none⟩ (.slice pp6 a4.pushes.length cp6)).setCell ⟨X, 4, none⟩ (.bool a4.empty)) := ⟨_, rfl⟩
  have HS := Lib.hid (HS1.out.put t1 t2 hW)
  clear t1 t2
  go_upto_region 6 with fail
  rw [← hW]
  clear hW c0 c1 c2 c3 c4 f0 f1 f2 f3 f4 HS1
  obtain ⟨c0, c1, c2, c3, c4⟩ := HS.out.facts
  go_wp2_with fail
  refine (H6.out _ _ HS.out.st).mono ?_
  rintro e V7 ⟨v7, rfl, ⟨ns7, ps7, rfl, t1, t2⟩, hb⟩
  obtain ⟨pn7, cn7, e1⟩ := t1.slice
  obtain ⟨pp7, cp7, e2⟩ := t2.slice
  subst e1
  subst e2
  have HS1 := Lib.hid (HS.out.step hb)
  clear hb c0 c1 c2 c3 c4 HS
  obtain ⟨c0, c1, c2, c3, c4⟩ := HS1.out.facts
  obtain ⟨f0, f1, f2, f3, f4⟩ := HS1.out.frz
  obtain ⟨W8, hW⟩ : ∃ W8, W8 = (((((V7.setCell ⟨X, 0, none⟩ (.slice pn7 a5.nodes.length cn7)).setCell ⟨X, 1, none⟩ (.int .i64 a5.m)).setCell ⟨X, 2, none⟩ (.int .i64 a5.done)).setCell ⟨X, 3, none⟩ (.slice pp7 a5.pushes.length cp7)).setCell ⟨X, 4, none⟩ (.bool a5.empty)) := ⟨_, rfl⟩
  have HS := Lib.hid (HS1.out.put t1 t2 hW)
  clear t1 t2
  go_upto_region 7 with fail
  rw [← hW]
  clear hW c0 c1 c2 c3 c4 f0 f1 f2 f3 f4 HS1
  obtain ⟨c0, c1, c2, c3, c4⟩ := HS.out.facts
  go_wp2_with fail
  refine (H7.out _ _ HS.out.st).mono ?_
  rintro e V8 ⟨v8, rfl, ⟨ns8, ps8, rfl, t1, t2⟩, hb⟩
  obtain ⟨pn8, cn8, e1⟩ := t1.slice
  obtain ⟨pp8, cp8, e2⟩ := t2.slice
  subst e1
  subst e2
  have HS1 := Lib.hid (HS.out.step hb)
  clear hb c0 c1 c2 c3 c4 HS
  obtain ⟨c0, c1, c2, c3, c4⟩ := HS1.out.facts
  obtain ⟨f0, f1, f2, f3, f4⟩ := HS1.out.frz
  obtain ⟨W9, hW⟩ : ∃ W9, W9 = (((((V8.setCell ⟨X, 0, none⟩ (.slice pn8 a6.nodes.length cn8)).setCell ⟨X, 1, none⟩ (.int .i64 a6.m)).setCell ⟨X, 2, none⟩ (.int .i64 a6.done)).setCell ⟨X, 3, none⟩ (.slice pp8 a6.pushes.length cp8)).setCell ⟨X, 4, none⟩ (.bool a6.empty)) := ⟨_, rfl⟩
  have HS := Lib.hid (HS1.out.put t1 t2 hW)
  clear t1 t2
  go_upto_region 8 with fail
  rw [← hW]
  clear hW c0 c1 c2 c3 c4 f0 f1 f2 f3 f4 HS1
  obtain ⟨c0, c1, c2, c3, c4⟩ := HS.out.facts
  go_wp2_with fail
  refine (H8.out _ _ HS.out.st).mono ?_
  rintro e V ⟨v, rfl, ⟨ns, ps, rfl, t1, t2⟩, hb⟩
  obtain ⟨pn, cn, e1⟩ := t1.slice
  obtain ⟨pp, cp, e2⟩ := t2.slice
  subst e1
  subst e2
  obtain ⟨Y, W, hY, hW, hsb, _⟩ := SB.mk' (HS.out.step hb).below t1 t2
  have HF : Hid (Below w.heap.size w W) := hsb.below
  clear hb c0 c1 c2 c3 c4 HS t1 t2 hsb
  go_upto_region 9 with fail
  rw [← hY, ← hW]
  clear hY hW
  have hmx : ∀ (ts : Array TypeId) (t : TypeId) (w : World), (Builtin.max_ ts t #[.int .i64 0, .int .i64 0, .int .i64 0, .int .i64 0, .int .i64 0, .int .i64 0, .int .i64 0, .int .i64 0]).run Try.prog w = .ok (.int .i64 0) w := fun ts t w => by
    simp [Builtin.max_, Builtin.max2, Result.andThen]
  go_wp2_with fail
  go_ret
  exact ⟨rfl, HF.out⟩
end Go.Proofs.Ytgbafpjeapkklaa.Mb
