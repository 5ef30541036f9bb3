/- Parts Ma, Ua, Mb, Mc, Md, Me, Mf, Mg, Mh, Mi, Mj, Mk, Ml, Mm, Mn, Mo, Mp of the proof. -/
import Derived.Test.YtgbafpjeapkklaaRows
import Derived.WalkKit
import Derived.WalkSpells
import Derived.WalkLawsBesides
import Derived.BigQuiet
import Derived.RegionTactic
import Derived.BigRegion
import Derived.ChangeAlike
import Derived.Deep.QuietTactic
import Derived.Lib.Hide
import Derived.Conc.LoneSelect
import Derived.KernelRfl
import Derived.Deep.RegionHeld3
import Derived.Deep.Cut
import Derived.Deep.CutRange
import Derived.MapKept
import Derived.OwnWalk
import Derived.Laws.AppendOwn
import Derived.Lib.SliceRun
import Derived.Deep.RegionLaw
import Derived.Deep.RegionWith
import Derived.Lib.Overlaps
import Derived.Lib.AppendZeros
import Derived.Lib.AppendZerosOnto
import Derived.Laws.Externs
import Derived.Laws.CopyRow
namespace Go.Proofs.Ytgbafpjeapkklaa.Mb
open Go.RowKit
set_option linter.unusedVariables false
set_option linter.unusedSimpArgs false
theorem cell_blk {w : World} {b : Nat} {C : Array Value} {t : TypeId} {f : Nat × Nat} (h : w.heap[b]? = some (.cells C t f)) (o : Nat) : w.cell? ⟨b, o, none⟩ = C[o]? := by
  simp [World.cell?, h]
theorem frozen_blk {w : World} {b : Nat} {C : Array Value} {t : TypeId} (h : w.heap[b]? = some (.cells C t (0, 0))) (o : Nat) : w.frozen? ⟨b, o, none⟩ = false := by
  simp [World.frozen?, h]
theorem blk_set {w : World} {b : Nat} {C : Array Value} {t : TypeId} {f : Nat × Nat} (h : w.heap[b]? = some (.cells C t f)) (o : Nat) (v : Value) : (w.setCell ⟨b, o, none⟩ v).heap[b]? = some (.cells (C.setIfInBounds o v) t f) := by
  simp [World.setCell, Array.getElem?_modify, h]
theorem blk_set_ne {w : World} {b : Nat} {x : Option Obj} (h : w.heap[b]? = x) (p : Addr) (hp : b ≠ p.block) (v : Value) : (w.setCell p v).heap[b]? = x := by
  rw [Below.heap_setCell _ _ _ _ hp]; exact h
theorem blk_lt {w : World} {b : Nat} {x : Obj} (h : w.heap[b]? = some x) : b < w.heap.size := by
  rcases Nat.lt_or_ge b w.heap.size with hlt | hge
  · exact hlt
  · rw [Array.getElem?_eq_none hge] at h; cases h
def Tri (w : World) (v : Value) (l : List (Int × Int × Int)) : Prop :=
  ∃ p cap, v = .slice p l.length cap ∧ l.length ≤ cap ∧ (l = [] ∨ ∃ g off, p = some ⟨g, off, none⟩ ∧ g < w.heap.size ∧
    ∀ (k : Nat) (x : Int × Int × Int), l[k]? = some x → w.cell? ⟨g, off + k * 3, none⟩ = some (.int .i64 x.1) ∧ w.cell? ⟨g, off + k * 3 + 1, none⟩ = some (.int .i64 x.2.1) ∧ w.cell? ⟨g, off + k * 3 + 2, none⟩ = some (.int .i64 x.2.2))
theorem Tri.below {w w' : World} {v : Value} {l : List (Int × Int × Int)} (h : Tri w v l) (hb : Below w.heap.size w w') : Tri w' v l := by
  obtain ⟨p, cap, rfl, hc, h⟩ := h
  refine ⟨p, cap, rfl, hc, ?_⟩
  rcases h with h | ⟨g, off, rfl, h2, h3⟩
  · exact .inl h
  · refine .inr ⟨g, off, rfl, Nat.lt_of_lt_of_le h2 hb.size, fun k o ho => ?_⟩
    obtain ⟨a, b, c⟩ := h3 k o ho
    exact ⟨(hb.cell (p := ⟨g, off + k * 3, none⟩) h2).trans a, (hb.cell (p := ⟨g, off + k * 3 + 1, none⟩) h2).trans b, (hb.cell (p := ⟨g, off + k * 3 + 2, none⟩) h2).trans c⟩
theorem Tri.slice {w : World} {v : Value} {l : List (Int × Int × Int)} (h : Tri w v l) : ∃ p cap, v = .slice p l.length cap := by
  obtain ⟨p, cap, e, _⟩ := h
  exact ⟨p, cap, e⟩
structure Q where
  vals : List (Int × Int)
  opn : List (Int × Nat)
  done : Nat
  empty : Bool
def Q.m (q : Q) : Nat := q.vals.length
def Q.isOpen (q : Q) (j : Nat) : Bool := q.opn.any fun o => o.2 == j
def Q.nxt (q : Q) (j : Nat) : Int := if j < q.m ∧ q.isOpen (j + 1) = false then (j : Int) + 1 else -1
def Q.node (q : Q) (j : Nat) : Int × Int × Int := if j = 0 then (0, -1, q.nxt 0) else ((q.vals.getD (j - 1) (0, 0)).1, (q.vals.getD (j - 1) (0, 0)).2, q.nxt j)
def Q.nodes (q : Q) : List (Int × Int × Int) := (List.range (q.m + 1)).map q.node
def Q.pushes (q : Q) : List (Int × Int × Int) := q.opn.map fun o => (o.1, (o.2 : Int) - 1, (o.2 : Int))
structure WF (q : Q) : Prop where
  few : q.m < 2000
  fewo : q.opn.length ≤ q.m
  prod : ∀ x ∈ q.vals, 0 ≤ x.2
  sorted : q.opn.Pairwise fun a b => a.1 < b.1
  opn : ∀ o ∈ q.opn, 1 ≤ o.2 ∧ o.2 ≤ q.m ∧ (q.vals.getD (o.2 - 1) (0, 0)).2 = o.1 ∧ 0 ≤ o.1
  done : q.done ≤ q.m
  linked : ∀ j, 1 ≤ j → j ≤ q.done → q.isOpen j = false
  mt : q.empty = true → q.done = q.m
theorem nodes_get {q : Q} {j : Nat} (h : j ≤ q.m) : q.nodes[j]? = some (q.node j) := by
  simp [Q.nodes, show j < q.m + 1 by omega]
theorem nodes_len (q : Q) : q.nodes.length = q.m + 1 := by simp [Q.nodes]
theorem pushes_len (q : Q) : q.pushes.length = q.opn.length := by simp [Q.pushes]
theorem pushes_get {q : Q} {k : Nat} {o : Int × Nat} (h : q.opn[k]? = some o) : q.pushes[k]? = some (o.1, (o.2 : Int) - 1, (o.2 : Int)) := by
  simp [Q.pushes, h]
theorem isOpen_of {q : Q} {o : Int × Nat} (h : o ∈ q.opn) : q.isOpen o.2 = true := by
  simp only [Q.isOpen, List.any_eq_true]
  exact ⟨o, h, by simp⟩
theorem open_uniq {q : Q} (hq : WF q) {i k : Nat} {o p : Int × Nat} (hi : q.opn[i]? = some o) (hk : q.opn[k]? = some p) (h : o.2 = p.2) : i = k := by
  have ho := hq.opn o (List.mem_of_getElem? hi)
  have hp := hq.opn p (List.mem_of_getElem? hk)
  have e : o.1 = p.1 := by rw [← ho.2.2.1, ← hp.2.2.1, h]
  obtain ⟨x1, x2⟩ := List.getElem?_eq_some_iff.1 hi
  obtain ⟨y1, y2⟩ := List.getElem?_eq_some_iff.1 hk
  have hs := List.pairwise_iff_getElem.1 hq.sorted
  rcases Nat.lt_trichotomy i k with h | h | h
  · have := hs i k x1 y1 h; rw [x2, y2] at this; omega
  · exact h
  · have := hs k i y1 x1 h; rw [x2, y2] at this; omega
set_option maxRecDepth 100000 in
set_option maxHeartbeats 1000000 in
theorem is_at (A B : Option Addr) (L cap l2 c2 : Nat) (a b : Int) (e : Bool) (n : Int) (h1 : 0 ≤ n) (h2 : n < L) (w : World) :
    Calls Try.prog 66 #[.agg #[.slice A L cap, .int .i64 a, .int .i64 b, .slice B l2 c2, .bool e], .int .i64 n] w fun e w' => e = .returned (.bool true) ∧ Below w.heap.size w w' := by
  have t1 : decide (0 ≤ n) = true := decide_eq_true h1
  have t2 : decide (n < (L : Int)) = true := decide_eq_true h2
  go_enter Try.func66, Try.ntmps66
  go_wp2_with fail
  go_ret
  exact ⟨rfl, (Below.refl _ _).alloc (Nat.le_refl _) _⟩
end Go.Proofs.Ytgbafpjeapkklaa.Mb
namespace Go.Proofs.Ytgbafpjeapkklaa.Mb
open Go.Conc Go.RowKit
set_option linter.unusedVariables false
set_option linter.unusedSimpArgs false
set_option maxRecDepth 100000 in
theorem take_none {c cap s r : Nat} (w : World) (hc : w.heap[c]? = some (.chan cap #[] false s r false)) :
    Calls Try.prog 59 #[.chan (some c)] w fun e w' => e = .returned (.tuple #[.int .i64 0, .bool false]) ∧ w' = w := by
  refine calls_of_loneTo fun cs => ?_
  have e : Frame.enter Try.prog 59 #[.chan (some c)] .normal = (base 59).at ⟨#[.chan (some c), undef, undef, undef, undef, undef, undef, undef, undef, undef, undef], []⟩ [.code (Try.f59.body.getD .skip)] := by
    simp [Frame.enter, Frame.at, Try.func59, base, Try.f59]
  rw [e]
  refine LoneTo.goes (n := 11) ?_
  simp only [Try.f59, Option.getD_some]
  s_c stepG_seq
  s_reg
  s_op
  s_op
  s_c stepG_region_end
  s_c stepG_seq
  s_reg
  s_op
  s_c stepG_region_end
  s_c stepG_seq
  s_reg
  s_stop
  refine LoneTo.step (step_lone_select_default (c := c) (z := .int .i64 0) (stepG_comm (cases := #[rcase c (.int .i64 0)]) (blocking := false) (shape := .select) (w' := w) rfl rfl (by decide) (by simp [go_sem, execOp, rcase, Act.eval])) hc) ?_
  rw [Frame.finish_at]
  walk_nrm
  refine LoneTo.goes (n := 11) ?_
  s_op
  s_op
  s_c stepG_region_end
  s_c stepG_block
  s_cond false
  s_c stepG_seq
  s_reg
  s_op
  s_op
  s_c stepG_region_end
  s_c stepG_ret'
  s_stop
  refine LoneTo.done ⟨.returned (.tuple #[.int .i64 0, .bool false]), _, rfl, ⟨rfl, rfl⟩, rfl, rfl, rfl, rfl, _, Try.func59, by simp [results, Try.f59, Frame.at]⟩
set_option maxRecDepth 100000 in
theorem take_some {c cap s r : Nat} {x : Int} {l : List Int} (w : World) (hc : w.heap[c]? = some (.chan cap ((x :: l).map (Value.int .i64)).toArray false s r false)) :
    Calls Try.prog 59 #[.chan (some c)] w fun e w' => e = .returned (.tuple #[.int .i64 x, .bool true]) ∧ w' = w.setChan c cap (l.map (Value.int .i64)).toArray false s (r + 1) false := by
  refine calls_of_loneTo fun cs => ?_
  have e : Frame.enter Try.prog 59 #[.chan (some c)] .normal = (base 59).at ⟨#[.chan (some c), undef, undef, undef, undef, undef, undef, undef, undef, undef, undef], []⟩ [.code (Try.f59.body.getD .skip)] := by
    simp [Frame.enter, Frame.at, Try.func59, base, Try.f59]
  rw [e]
  have hx : (((x :: l).map (Value.int .i64)).toArray).getD 0 undef = .int .i64 x := by simp
  have hl : (((x :: l).map (Value.int .i64)).toArray).extract 1 (((x :: l).map (Value.int .i64)).toArray).size = (l.map (Value.int .i64)).toArray := by
    simp only [List.extract_toArray, List.map_cons, List.size_toArray, List.length_cons, List.length_map]
    simp [List.extract, List.take_of_length_le]
  refine LoneTo.goes (n := 11) ?_
  simp only [Try.f59, Option.getD_some]
  s_c stepG_seq
  s_reg
  s_op
  s_op
  s_c stepG_region_end
  s_c stepG_seq
  s_reg
  s_op
  s_c stepG_region_end
  s_c stepG_seq
  s_reg
  s_stop
  refine LoneTo.step (step_lone_select_recv_buf (c := c) (z := .int .i64 0) (stepG_comm (cases := #[rcase c (.int .i64 0)]) (blocking := false) (shape := .select) (w' := w) rfl rfl (by decide) (by simp [go_sem, execOp, rcase, Act.eval])) hc (by simp)) ?_
  rw [Frame.finish_at, hx, hl]
  walk_nrm
  refine LoneTo.goes (n := 17) ?_
  s_op
  s_op
  s_c stepG_region_end
  s_c stepG_block
  s_cond true
  s_c stepG_seq
  s_reg
  s_op
  s_op
  s_c stepG_region_end
  s_c stepG_seq
  s_reg
  s_op
  s_op
  s_op
  s_c stepG_region_end
  s_c stepG_ret'
  s_stop
  refine LoneTo.done ⟨.returned (.tuple #[.int .i64 x, .bool true]), _, rfl, ⟨rfl, rfl⟩, rfl, rfl, rfl, rfl, _, Try.func59, by simp [results, Try.f59, Frame.at]⟩
set_option maxRecDepth 100000 in
theorem send_room {p c cap s r : Nat} {n : Int} {l : List Int} (w : World) (hp : w.cell? ⟨p, 0, none⟩ = some (.chan (some c))) (hc : w.heap[c]? = some (.chan cap (l.map (Value.int .i64)).toArray false s r false)) (hl : l.length < cap) :
    Calls Try.prog 29 #[.pointer (some ⟨p, 0, none⟩), .int .i64 n] w fun e w' => e = .returned (.int .i64 0) ∧ w' = w.setChan c cap ((l ++ [n]).map (Value.int .i64)).toArray false (s + 1) r false := by
  refine calls_of_loneTo fun cs => ?_
  have e : Frame.enter Try.prog 29 #[.pointer (some ⟨p, 0, none⟩), .int .i64 n] .normal = (base 29).at ⟨#[.pointer (some ⟨p, 0, none⟩), .int .i64 n, undef, undef, undef, undef, undef, undef, undef, undef, undef, undef, undef, undef, undef, undef, undef, undef, undef, undef, undef, undef], []⟩ [.code (Try.f29.body.getD .skip)] := by
    simp [Frame.enter, Frame.at, Try.func29, base, Try.f29]
  rw [e]
  have hpu : ((l.map (Value.int .i64)).toArray).push (.int .i64 n) = ((l ++ [n]).map (Value.int .i64)).toArray := by simp
  refine LoneTo.goes (n := 32) ?_
  simp only [Try.f29, Option.getD_some]
  s_c stepG_seq
  s_reg
  s_op
  s_c stepG_region_end
  s_c stepG_seq
  s_c stepG_seq
  s_reg
  s_op
  s_op
  s_op
  s_op
  s_op
  s_op
  s_op
  s_op
  s_op
  s_c stepG_region_end
  s_cond false
  s_c stepG_skip
  s_c stepG_seq
  s_c stepG_seq
  s_reg
  s_op
  s_op
  s_op
  s_op
  s_c stepG_region_end
  s_reg
  s_op
  s_c stepG_region_end
  s_c stepG_seq
  s_reg
  s_stop
  refine LoneTo.step (step_lone_select_send_room (c := c) (v := .int .i64 n) (z' := .int .i64 0) (stepG_comm (cases := #[scase c (.int .i64 n) (.int .i64 0)]) (blocking := false) (shape := .select) (w' := w) rfl rfl (by decide) (by simp [go_sem, execOp, scase, Act.eval])) hc (by simpa using hl)) ?_
  rw [Frame.finish_at, hpu]
  walk_nrm
  refine LoneTo.goes (n := 10) ?_
  s_op
  s_op
  s_c stepG_region_end
  s_c stepG_block
  s_cond true
  s_c stepG_seq
  s_reg
  s_op
  s_c stepG_region_end
  s_c stepG_ret'
  s_stop
  refine LoneTo.done ⟨.returned (.int .i64 0), _, rfl, ⟨rfl, by simp⟩, rfl, rfl, rfl, rfl, _, Try.func29, by simp [results, Try.f29, Frame.at]⟩
set_option maxRecDepth 100000 in
theorem send_full {p c cap s r : Nat} {n : Int} {l : List Int} (w : World) (hp : w.cell? ⟨p, 0, none⟩ = some (.chan (some c))) (hc : w.heap[c]? = some (.chan cap (l.map (Value.int .i64)).toArray false s r false)) (hl : cap ≤ l.length) :
    Calls Try.prog 29 #[.pointer (some ⟨p, 0, none⟩), .int .i64 n] w fun e w' => e = .returned (.int .i64 8) ∧ w' = w := by
  refine calls_of_loneTo fun cs => ?_
  have e : Frame.enter Try.prog 29 #[.pointer (some ⟨p, 0, none⟩), .int .i64 n] .normal = (base 29).at ⟨#[.pointer (some ⟨p, 0, none⟩), .int .i64 n, undef, undef, undef, undef, undef, undef, undef, undef, undef, undef, undef, undef, undef, undef, undef, undef, undef, undef, undef, undef], []⟩ [.code (Try.f29.body.getD .skip)] := by
    simp [Frame.enter, Frame.at, Try.func29, base, Try.f29]
  rw [e]
  have hpu : ((l.map (Value.int .i64)).toArray).push (.int .i64 n) = ((l ++ [n]).map (Value.int .i64)).toArray := by simp
  refine LoneTo.goes (n := 32) ?_
  simp only [Try.f29, Option.getD_some]
  s_c stepG_seq
  s_reg
  s_op
  s_c stepG_region_end
  s_c stepG_seq
  s_c stepG_seq
  s_reg
  s_op
  s_op
  s_op
  s_op
  s_op
  s_op
  s_op
  s_op
  s_op
  s_c stepG_region_end
  s_cond false
  s_c stepG_skip
  s_c stepG_seq
  s_c stepG_seq
  s_reg
  s_op
  s_op
  s_op
  s_op
  s_c stepG_region_end
  s_reg
  s_op
  s_c stepG_region_end
  s_c stepG_seq
  s_reg
  s_stop
  refine LoneTo.step (step_lone_select_send_full (c := c) (v := .int .i64 n) (z' := .int .i64 0) (stepG_comm (cases := #[scase c (.int .i64 n) (.int .i64 0)]) (blocking := false) (shape := .select) (w' := w) rfl rfl (by decide) (by simp [go_sem, execOp, scase, Act.eval])) hc (by simpa using hl)) ?_
  rw [Frame.finish_at]
  walk_nrm
  refine LoneTo.goes (n := 10) ?_
  s_op
  s_op
  s_c stepG_region_end
  s_c stepG_block
  s_cond false
  s_c stepG_seq
  s_reg
  s_op
  s_c stepG_region_end
  s_c stepG_ret'
  s_stop
  refine LoneTo.done ⟨.returned (.int .i64 8), _, rfl, ⟨rfl, rfl⟩, rfl, rfl, rfl, rfl, _, Try.func29, by simp [results, Try.f29, Frame.at]⟩
end Go.Proofs.Ytgbafpjeapkklaa.Mb
namespace Go.Proofs.Ytgbafpjeapkklaa.Mb
open Go.RowKit
set_option linter.unusedVariables false
set_option linter.unusedSimpArgs false
theorem toArr (g off n cap : Nat) (w : World) : (Instr.arrayAt 134 (.slice (some ⟨g, off, none⟩) (n + 1) cap)).run Try.prog w = .ok (.pointer (some ⟨g, off, none⟩)) w := by
  have h : Try.prog.underlying 134 = some (.array 1 99) := by kernel_rfl
  simp [Instr.arrayAt, go_sem, h]
structure Bx (w : World) (q : Q) (ns ps : Value) (g : Nat) (W : World) : Prop where
  below : Below w.heap.size w W
  box : W.heap[g]? = some (.cells #[ns, .int .i64 q.m, .int .i64 q.done, ps, .bool q.empty] 28 (0, 0))
theorem Bx.step {w : World} {q : Q} {ns ps : Value} {g : Nat} {W W' : World} (h : Bx w q ns ps g W) (hb : Below W.heap.size W W') : Bx w q ns ps g W' :=
  ⟨h.below.trans (hb.mono h.below.size), (hb.block g (blk_lt h.box)).trans h.box⟩
theorem Bx.facts {w : World} {q : Q} {ns ps : Value} {g : Nat} {W : World} (h : Bx w q ns ps g W) :
    W.cell? ⟨g, 0, none⟩ = some ns ∧ W.cell? ⟨g, 1, none⟩ = some (.int .i64 q.m) ∧ W.cell? ⟨g, 2, none⟩ = some (.int .i64 q.done) ∧ W.cell? ⟨g, 3, none⟩ = some ps ∧ W.cell? ⟨g, 4, none⟩ = some (.bool q.empty) :=
  ⟨cell_blk h.box 0, cell_blk h.box 1, cell_blk h.box 2, cell_blk h.box 3, cell_blk h.box 4⟩
theorem node_ok {q : Q} {j : Nat} : (q.node j).2.2 = -1 ∨ (0 ≤ (q.node j).2.2 ∧ (q.node j).2.2 < q.m + 1) := by
  unfold Q.node
  split
  · simp only [Q.nxt]; split <;> omega
  · simp only [Q.nxt]; split <;> omega
theorem node_prod {q : Q} (hq : WF q) {j : Nat} (h : j ≤ q.m) (h0 : 0 < j) : 0 ≤ (q.node j).2.1 := by
  unfold Q.node
  rw [if_neg (by omega)]
  have hlt : j - 1 < q.vals.length := by have : q.m = q.vals.length := rfl; omega
  have e : q.vals.getD (j - 1) (0, 0) = q.vals[j - 1] := by simp [List.getD, hlt]
  rw [e]
  exact hq.prod _ (List.getElem_mem _)
set_option maxRecDepth 100000 in
set_option maxHeartbeats 4000000 in
theorem formed_at {q : Q} (hq : WF q) (ns ps : Value) (w : World) (hn : Tri w ns q.nodes) (hp : Tri w ps q.pushes) :
    Calls Try.prog 53 #[.agg #[ns, .int .i64 q.m, .int .i64 q.done, ps, .bool q.empty]] w fun e w' => e = .returned (.bool true) ∧ Below w.heap.size w w' := by
  obtain ⟨A, cap, rfl, hcap, hn⟩ := hn
  obtain ⟨B, cap2, rfl, hcap2, hp⟩ := hp
  rw [nodes_len] at hcap ⊢
  rw [pushes_len] at hcap2 ⊢
  obtain ⟨g, off, rfl, hg, hc⟩ : ∃ g off, A = some ⟨g, off, none⟩ ∧ g < w.heap.size ∧
    ∀ (k : Nat) (x : Int × Int × Int), q.nodes[k]? = some x → w.cell? ⟨g, off + k * 3, none⟩ = some (.int .i64 x.1) ∧ w.cell? ⟨g, off + k * 3 + 1, none⟩ = some (.int .i64 x.2.1) ∧ w.cell? ⟨g, off + k * 3 + 2, none⟩ = some (.int .i64 x.2.2) := by
    rcases hn with h | h
    · have := nodes_len q; rw [h] at this; simp at this
    · exact h
  have hf := hq.few
  have hfo := hq.fewo
  have hd := hq.done
  have HC := Lib.hid hc; clear hc hn
  have HP := Lib.hid hp; clear hp
  have HQ := Lib.hid hq; clear hq
  obtain ⟨z0, z1, z2⟩ := HC.out 0 _ (nodes_get (Nat.zero_le _))
  have HF : Hid (∀ W, Bx w q (.slice (some ⟨g, off, none⟩) (q.m + 1) cap) (.slice B q.opn.length cap2) w.heap.size W → W.cell? ⟨w.heap.size, 0, none⟩ = some (.slice (some ⟨g, off, none⟩) (q.m + 1) cap) ∧ W.cell? ⟨w.heap.size, 1, none⟩ = some (.int .i64 q.m) ∧ W.cell? ⟨w.heap.size, 2, none⟩ = some (.int .i64 q.done) ∧ W.cell? ⟨w.heap.size, 3, none⟩ = some (.slice B q.opn.length cap2) ∧ W.cell? ⟨w.heap.size, 4, none⟩ = some (.bool q.empty)) := fun W h => h.facts
  have HIS : Hid (∀ (n : Int) (W : World), 0 ≤ n → n < ((q.m + 1 : Nat) : Int) → Calls Try.prog 66 #[.agg #[.slice (some ⟨g, off, none⟩) (q.m + 1) cap, .int .i64 q.m, .int .i64 q.done, .slice B q.opn.length cap2, .bool q.empty], .int .i64 n] W fun e w' => e = .returned (.bool true) ∧ Below W.heap.size W w') :=
    fun n W h1 h2 => is_at _ _ _ _ _ _ _ _ _ n h1 h2 W
  have HS0 : Hid (Bx w q (.slice (some ⟨g, off, none⟩) (q.m + 1) cap) (.slice B q.opn.length cap2) w.heap.size (w.alloc (Obj.cells #[.slice (some ⟨g, off, none⟩) (q.m + 1) cap, .int .i64 q.m, .int .i64 q.done, .slice B q.opn.length cap2, .bool q.empty] 28))) :=
    ⟨(Below.refl _ _).alloc (Nat.le_refl _) _, (MapKept.heap_alloc _ _).1⟩
  generalize hM : q.m = M at *
  have HM := Lib.hid hM; clear hM
  generalize hP : q.opn.length = PN at *
  have HPN := Lib.hid hP; clear hP
  go_enter Try.func53, Try.ntmps53
  go_upto_region 1 with fail
  generalize (w.alloc (Obj.cells #[.slice (some ⟨g, off, none⟩) (M + 1) cap, .int .i64 M, .int .i64 q.done, .slice B PN cap2, .bool q.empty] 28)) = W0 at *
  obtain ⟨c0, c1, c2, c3, c4⟩ := HF.out _ HS0.out
  have t1 : decide ((M : Int) + 1 < 1) = false := decide_eq_false (by omega)
  have t2 : decide ((2000 : Int) < (M : Int) + 1) = false := decide_eq_false (by omega)
  go_wp2_with fail
  refine (HIS.out _ _ (by omega) (by omega)).mono ?_
  rintro e W1 ⟨rfl, hb1⟩
  have HS1 := Lib.hid (HS0.out.step hb1)
  clear hb1 c0 c1 c2 c3 c4
  obtain ⟨c0, c1, c2, c3, c4⟩ := HF.out _ HS1.out
  go_wp2_with fail
  refine (HIS.out _ _ (by omega) (by omega)).mono ?_
  rintro e W2 ⟨rfl, hb2⟩
  have HS2 := Lib.hid (HS1.out.step hb2)
  clear hb2 c0 c1 c2 c3 c4
  obtain ⟨c0, c1, c2, c3, c4⟩ := HF.out _ HS2.out
  have y0 : W2.cell? ⟨g, off, none⟩ = some (.int .i64 0) := by
    have := (HS2.out.below.cell (p := ⟨g, off + 0 * 3, none⟩) hg).trans z0
    simpa [Q.node] using this
  have y1 : W2.cell? ⟨g, off + 1, none⟩ = some (.int .i64 (-1)) := by
    have := (HS2.out.below.cell (p := ⟨g, off + 0 * 3 + 1, none⟩) hg).trans z1
    simpa [Q.node] using this
  have y2 : W2.cell? ⟨g, off + 2, none⟩ = some (.int .i64 (q.node 0).2.2) := by
    have := (HS2.out.below.cell (p := ⟨g, off + 0 * 3 + 2, none⟩) hg).trans z2
    simpa using this
  clear z0 z1 z2
  generalize (q.node 0).2.2 = nx0 at *
  have harr := toArr g off M cap W2
  go_upto_region 4 with fail
  obtain ⟨X, hX⟩ : ∃ X, X = W2.heap.size := ⟨_, rfl⟩
  obtain ⟨W3, hW3⟩ : ∃ W3, W3 = W2.alloc (Obj.cells #[.int .i64 0, .int .i64 (-1), .int .i64 nx0] 134) := ⟨_, rfl⟩
  rw [← hW3, ← hX]
  have hb3 : Below W2.heap.size W2 W3 := by rw [hW3]; exact (Below.refl _ _).alloc (Nat.le_refl _) _
  have hx3 : W3.heap[X]? = some (.cells #[.int .i64 0, .int .i64 (-1), .int .i64 nx0] 134 (0, 0)) := by rw [hW3, hX]; exact (MapKept.heap_alloc _ _).1
  have x0 : W3.cell? ⟨X, 0, none⟩ = some (.int .i64 0) := cell_blk hx3 0
  have x1 : W3.cell? ⟨X, 1, none⟩ = some (.int .i64 (-1)) := cell_blk hx3 1
  have HS3 := Lib.hid (HS2.out.step hb3)
  clear hb3 hx3 hW3 hX y0 y1 y2 c0 c1 c2 c3 c4
  obtain ⟨c0, c1, c2, c3, c4⟩ := HF.out _ HS3.out
  go_wp2_with fail
  clear x0 x1 c0 c1 c2 c3 c4
  go_loopw [49] (fun s49 wr => ∃ k : Nat, k ≤ M + 1 ∧ s49 = .int .i64 k ∧ Bx w q (.slice (some ⟨g, off, none⟩) (M + 1) cap) (.slice B PN cap2) w.heap.size wr) (fun s49 _ => M + 1 - (intOf s49).toNat)
  case atStart => exact ⟨0, by omega, rfl, HS3.out⟩
  case round =>
    obtain ⟨k, hk, rfl, hS⟩ := hrel
    have HS := Lib.hid hS; clear hS
    obtain ⟨c0, c1, c2, c3, c4⟩ := HF.out _ HS.out
    by_cases hlt : k < M + 1
    · have tl : decide ((k : Int) < (M : Int) + 1) = true := decide_eq_true (by omega)
      have hkq : k ≤ q.m := by rw [HM.out]; omega
      obtain ⟨z0, z1, z2⟩ := HC.out k _ (nodes_get hkq)
      have d0 : wr.cell? ⟨g, off + k * 3, none⟩ = some (.int .i64 (q.node k).1) := (HS.out.below.cell (p := ⟨g, off + k * 3, none⟩) hg).trans z0
      have d1 : wr.cell? ⟨g, off + k * 3 + 1, none⟩ = some (.int .i64 (q.node k).2.1) := (HS.out.below.cell (p := ⟨g, off + k * 3 + 1, none⟩) hg).trans z1
      have d2 : wr.cell? ⟨g, off + k * 3 + 2, none⟩ = some (.int .i64 (q.node k).2.2) := (HS.out.below.cell (p := ⟨g, off + k * 3 + 2, none⟩) hg).trans z2
      have hok := node_ok (q := q) (j := k)
      have hpr := fun h0 => node_prod HQ.out hkq h0
      rw [HM.out] at hok
      generalize (q.node k).1 = n1 at *
      generalize (q.node k).2.1 = n2 at *
      generalize (q.node k).2.2 = n3 at *
      clear z0 z1 z2 hkq
      go_upto_region 9 with fail
      obtain ⟨X, hX⟩ : ∃ X, X = wr.heap.size := ⟨_, rfl⟩
      obtain ⟨W5, hW5⟩ : ∃ W5, W5 = wr.alloc (Obj.cells #[.int .i64 n1, .int .i64 n2, .int .i64 n3] 99) := ⟨_, rfl⟩
      rw [← hW5, ← hX]
      have hb5 : Below wr.heap.size wr W5 := by rw [hW5]; exact (Below.refl _ _).alloc (Nat.le_refl _) _
      have hx5 : W5.heap[X]? = some (.cells #[.int .i64 n1, .int .i64 n2, .int .i64 n3] 99 (0, 0)) := by rw [hW5, hX]; exact (MapKept.heap_alloc _ _).1
      have HX5 := Lib.hid hx5
      have HS5 := Lib.hid (HS.out.step hb5)
      have x1 : W5.cell? ⟨X, 1, none⟩ = some (.int .i64 n2) := cell_blk hx5 1
      have x2 : W5.cell? ⟨X, 2, none⟩ = some (.int .i64 n3) := cell_blk hx5 2
      clear hb5 hx5 hW5 hX d0 d1 d2 c0 c1 c2 c3 c4
      obtain ⟨c0, c1, c2, c3, c4⟩ := HF.out _ HS5.out
      by_cases h3 : n3 = -1
      · subst h3
        by_cases h0 : k = 0
        · subst h0
          go_wp2_with fail
          go_roundw
          case rel => exact ⟨1, by omega, by go_num, HS5.out⟩
          case measure => simp [intOf]
        · have tk : decide ((0 : Int) < (k : Int)) = true := decide_eq_true (by omega)
          have tp : decide (n2 < 0) = false := decide_eq_false (by have := hpr (by omega); omega)
          go_wp2_with fail
          go_roundw
          case rel => exact ⟨k + 1, by omega, by go_num, HS5.out⟩
          case measure => simp [intOf]; omega
      · have te : (n3 == (-1 : Int)) = false := by simpa using h3
        have hn3 : 0 ≤ n3 ∧ n3 < ((M + 1 : Nat) : Int) := by omega
        go_wp2_with fail
        refine (HIS.out _ _ hn3.1 hn3.2).mono ?_
        rintro e W6 ⟨rfl, hb6⟩
        have HS6 := Lib.hid (HS5.out.step hb6)
        have x1' : W6.cell? ⟨X, 1, none⟩ = some (.int .i64 n2) := by rw [World.cell?_of_block (w := W5) (hb6.block X (blk_lt HX5.out))]; exact x1
        clear hb6 c0 c1 c2 c3 c4 x1 x2
        by_cases h0 : k = 0
        · subst h0
          go_wp2_with fail
          go_roundw
          case rel => exact ⟨1, by omega, by go_num, HS6.out⟩
          case measure => simp [intOf]
        · have tk : decide ((0 : Int) < (k : Int)) = true := decide_eq_true (by omega)
          have tp : decide (n2 < 0) = false := decide_eq_false (by have := hpr (by omega); omega)
          go_wp2_with fail
          go_roundw
          case rel => exact ⟨k + 1, by omega, by go_num, HS6.out⟩
          case measure => simp [intOf]; omega
    · have tl : decide ((k : Int) < (M : Int) + 1) = false := decide_eq_false (by omega)
      clear hlt hk
      go_wp2_with fail
      clear c0 c1 c2 c3 c4 tl
      go_loopw [77] (fun s77 wr => ∃ k : Nat, k ≤ PN ∧ s77 = .int .i64 k ∧ Bx w q (.slice (some ⟨g, off, none⟩) (M + 1) cap) (.slice B PN cap2) w.heap.size wr) (fun s77 _ => PN - (intOf s77).toNat)
      case atStart => exact ⟨0, by omega, rfl, HS.out⟩
      case round =>
        obtain ⟨k, hk, rfl, hS⟩ := hrel
        clear HS
        have HS := Lib.hid hS; clear hS
        obtain ⟨c0, c1, c2, c3, c4⟩ := HF.out _ HS.out
        by_cases hlt : k < PN
        · have tl : decide ((k : Int) < (PN : Int)) = true := decide_eq_true (by omega)
          obtain ⟨o, ho⟩ : ∃ o, q.opn[k]? = some o := ⟨q.opn[k]'(by rw [HPN.out]; exact hlt), by simp⟩
          obtain ⟨r1, r2, r3, r4⟩ := HQ.out.opn o (List.mem_of_getElem? ho)
          obtain ⟨gp, offp, rfl, hgp, hcp⟩ : ∃ g off, B = some ⟨g, off, none⟩ ∧ g < w.heap.size ∧
              ∀ (k : Nat) (x : Int × Int × Int), q.pushes[k]? = some x → w.cell? ⟨g, off + k * 3, none⟩ = some (.int .i64 x.1) ∧ w.cell? ⟨g, off + k * 3 + 1, none⟩ = some (.int .i64 x.2.1) ∧ w.cell? ⟨g, off + k * 3 + 2, none⟩ = some (.int .i64 x.2.2) := by
            rcases HP.out with h | h
            · have := pushes_len q; rw [h, HPN.out] at this; simp at this; omega
            · exact h
          have hop := isOpen_of (List.mem_of_getElem? ho)
          obtain ⟨z0, z1, z2⟩ := hcp k _ (pushes_get ho)
          obtain ⟨op, oj⟩ := o
          simp only at r1 r2 r3 r4 z0 z1 z2 hop
          obtain ⟨j, rfl⟩ : ∃ j, oj = j + 1 := ⟨oj - 1, by omega⟩
          have hjm : j + 1 ≤ q.m := r2
          rw [HM.out] at r2
          rw [show ((j + 1 : Nat) : Int) - 1 = (j : Int) by omega] at z1
          have d0 : wr.cell? ⟨gp, offp + k * 3, none⟩ = some (.int .i64 op) := (HS.out.below.cell (p := ⟨gp, offp + k * 3, none⟩) hgp).trans z0
          have d1 : wr.cell? ⟨gp, offp + k * 3 + 1, none⟩ = some (.int .i64 (j : Int)) := (HS.out.below.cell (p := ⟨gp, offp + k * 3 + 1, none⟩) hgp).trans z1
          have d2 : wr.cell? ⟨gp, offp + k * 3 + 2, none⟩ = some (.int .i64 ((j : Int) + 1)) := (HS.out.below.cell (p := ⟨gp, offp + k * 3 + 2, none⟩) hgp).trans z2
          have en : (q.node j).2.2 = -1 := by
            have : q.nxt j = -1 := by unfold Q.nxt; rw [hop]; simp
            unfold Q.node; split
            · rename_i h; subst h; exact this
            · exact this
          have ep : (q.node (j + 1)).2.1 = op := by
            unfold Q.node
            rw [if_neg (by omega)]
            exact r3
          obtain ⟨_, _, u2⟩ := HC.out j _ (nodes_get (by omega))
          obtain ⟨_, v1, _⟩ := HC.out (j + 1) _ (nodes_get hjm)
          rw [en] at u2
          rw [ep] at v1
          have HU : Hid (w.cell? ⟨g, off + j * 3 + 2, none⟩ = some (.int .i64 (-1)) ∧ w.cell? ⟨g, off + (j + 1) * 3 + 1, none⟩ = some (.int .i64 op)) := ⟨u2, v1⟩
          have HPV : Hid (∀ k', k = k' + 1 → ∃ pp, w.cell? ⟨gp, offp + k' * 3, none⟩ = some (.int .i64 pp) ∧ pp < op) := by
            intro k' hk'
            subst hk'
            obtain ⟨pv, hpv⟩ : ∃ pv, q.opn[k']? = some pv := ⟨q.opn[k']'(by rw [HPN.out]; omega), by simp⟩
            refine ⟨pv.1, (hcp k' _ (pushes_get hpv)).1, ?_⟩
            obtain ⟨x1, x2⟩ := List.getElem?_eq_some_iff.1 hpv
            obtain ⟨y1, y2⟩ := List.getElem?_eq_some_iff.1 ho
            have := List.pairwise_iff_getElem.1 HQ.out.sorted k' (k' + 1) x1 y1 (by omega)
            rw [x2, y2] at this
            exact this
          clear ho hop z0 z1 z2 r1 r3 hjm en ep u2 v1 hcp
          go_upto_region 15 with fail
          obtain ⟨X, hX⟩ : ∃ X, X = wr.heap.size := ⟨_, rfl⟩
          obtain ⟨W5, hW5⟩ : ∃ W5, W5 = wr.alloc (Obj.cells #[.int .i64 op, .int .i64 j, .int .i64 ((j : Int) + 1)] 102) := ⟨_, rfl⟩
          rw [← hW5, ← hX]
          have hb5 : Below wr.heap.size wr W5 := by rw [hW5]; exact (Below.refl _ _).alloc (Nat.le_refl _) _
          have hx5 : W5.heap[X]? = some (.cells #[.int .i64 op, .int .i64 j, .int .i64 ((j : Int) + 1)] 102 (0, 0)) := by rw [hW5, hX]; exact (MapKept.heap_alloc _ _).1
          obtain ⟨P, hP⟩ : ∃ P : World → Prop, P = fun W => Bx w q (.slice (some ⟨g, off, none⟩) (M + 1) cap) (.slice (some ⟨gp, offp, none⟩) PN cap2) w.heap.size W ∧ W.heap[X]? = some (.cells #[.int .i64 op, .int .i64 j, .int .i64 ((j : Int) + 1)] 102 (0, 0)) := ⟨_, rfl⟩
          have HST : Hid (∀ W W', P W → Below W.heap.size W W' → P W') := by
            intro W W' h hb
            rw [hP] at h ⊢
            exact ⟨h.1.step hb, (hb.block _ (blk_lt h.2)).trans h.2⟩
          have HP5 : Hid (P W5) := by
            show P W5
            rw [hP]
            exact ⟨HS.out.step hb5, hx5⟩
          have HPD : Hid (P W5.drew) := HST.out _ _ HP5.out (Below.refl _ _).drew
          have HBX : Hid (∀ W, P W → Bx w q (.slice (some ⟨g, off, none⟩) (M + 1) cap) (.slice (some ⟨gp, offp, none⟩) PN cap2) w.heap.size W) := by
            intro W h
            rw [hP] at h
            exact h.1
          have HSF : Hid (∀ W, P W → W.cell? ⟨X, 0, none⟩ = some (.int .i64 op) ∧ W.cell? ⟨X, 1, none⟩ = some (.int .i64 j) ∧ W.cell? ⟨X, 2, none⟩ = some (.int .i64 ((j : Int) + 1)) ∧ W.cell? ⟨w.heap.size, 0, none⟩ = some (.slice (some ⟨g, off, none⟩) (M + 1) cap) ∧ W.cell? ⟨w.heap.size, 1, none⟩ = some (.int .i64 M) ∧ W.cell? ⟨w.heap.size, 2, none⟩ = some (.int .i64 q.done) ∧ W.cell? ⟨w.heap.size, 3, none⟩ = some (.slice (some ⟨gp, offp, none⟩) PN cap2) ∧ W.cell? ⟨w.heap.size, 4, none⟩ = some (.bool q.empty)) := by
            intro W h
            rw [hP] at h
            obtain ⟨a0, a1, a2, a3, a4⟩ := HF.out _ h.1
            exact ⟨cell_blk h.2 0, cell_blk h.2 1, cell_blk h.2 2, a0, a1, a2, a3, a4⟩
          have HI2 : Hid (∀ (n : Int) (W : World), 0 ≤ n → n < ((M + 1 : Nat) : Int) → P W → Calls Try.prog 66 #[.agg #[.slice (some ⟨g, off, none⟩) (M + 1) cap, .int .i64 M, .int .i64 q.done, .slice (some ⟨gp, offp, none⟩) PN cap2, .bool q.empty], .int .i64 n] W fun e w' => e = .returned (.bool true) ∧ P w') :=
            fun n W h1 h2 h => (HIS.out n W h1 h2).mono fun _ _ k => ⟨k.1, HST.out _ _ h k.2⟩
          have tp : decide (op < 0) = false := decide_eq_false (by omega)
          have HK0 := Lib.hid (HSF.out _ HPD.out)
          obtain ⟨x0, x1, x2, c0', c1', c2', c3', c4'⟩ := HSF.out _ HP5.out
          clear hP hb5 hx5 hW5 hX d0 d1 d2 c0 c1 c2 c3 c4
          obtain ⟨kk, hkk⟩ : ∃ kk : Int, kk = (k : Int) := ⟨_, rfl⟩
          rw [← hkk]
          have HKK := Lib.hid hkk
          by_cases h0 : k = 0
          · have tk : decide ((0 : Int) < kk) = false := decide_eq_false (by omega)
            clear h0 hkk tl
            refine wp_region_noPanic ?_
            refine wp_region_held_drew (S := fun W => W.cell? ⟨X, 0, none⟩ = some (.int .i64 op) ∧ W.cell? ⟨X, 1, none⟩ = some (.int .i64 j) ∧ W.cell? ⟨X, 2, none⟩ = some (.int .i64 ((j : Int) + 1)) ∧ W.cell? ⟨w.heap.size, 0, none⟩ = some (.slice (some ⟨g, off, none⟩) (M + 1) cap) ∧ W.cell? ⟨w.heap.size, 1, none⟩ = some (.int .i64 M) ∧ W.cell? ⟨w.heap.size, 2, none⟩ = some (.int .i64 q.done) ∧ W.cell? ⟨w.heap.size, 3, none⟩ = some (.slice (some ⟨gp, offp, none⟩) PN cap2) ∧ W.cell? ⟨w.heap.size, 4, none⟩ = some (.bool q.empty) ∧ P W) (by kernel_rfl) ?_ (fun hHeld => ?_)
            · (refine ⟨?_, ?_, ?_, ?_, ?_, ?_, ?_, ?_, ?_⟩ <;> first | assumption | exact HPD.out | exact HK0.out.1 | exact HK0.out.2.1 | exact HK0.out.2.2.1 | exact HK0.out.2.2.2.1 | exact HK0.out.2.2.2.2.1 | exact HK0.out.2.2.2.2.2.1 | exact HK0.out.2.2.2.2.2.2.1 | exact HK0.out.2.2.2.2.2.2.2)
            refine wpAnyH_take (i := 0) (v := ?_) rfl (by kernel_rfl) (by kernel_rfl) (by kernel_rfl) (fun _ _ _ h => h) (Or.inl ⟨by kernel_rfl, ?_⟩) (by assumption) ?_
            rotate_left
            · (intro w hSw; (try dsimp only at hSw); go_simp; first | done | with_reducible rfl)
            try simp only [Act.put, List.setIfInBounds_toArray, List.set_cons_zero, List.set_cons_succ]
            refine wpAnyH_take (i := 1) (v := ?_) rfl (by kernel_rfl) (by kernel_rfl) (by kernel_rfl) (fun _ _ _ h => h) (Or.inl ⟨by kernel_rfl, ?_⟩) (by assumption) ?_
            rotate_left
            · (intro w hSw; (try dsimp only at hSw); go_simp; first | done | with_reducible rfl)
            try simp only [Act.put, List.setIfInBounds_toArray, List.set_cons_zero, List.set_cons_succ]
            refine wpAnyH_take (i := 2) (v := ?_) rfl (by kernel_rfl) (by kernel_rfl) (by kernel_rfl) (fun _ _ _ h => h) (Or.inl ⟨by kernel_rfl, ?_⟩) (by assumption) ?_
            rotate_left
            · (intro w hSw; (try dsimp only at hSw); go_simp; first | done | with_reducible rfl)
            try simp only [Act.put, List.setIfInBounds_toArray, List.set_cons_zero, List.set_cons_succ]
            refine wpAnyH_ready (rs := [3]) (by kernel_rfl) (by simp) ?_
            refine AllReadyH.cons rfl (fun K hK => ?_) AllReadyH.nil
            go_simp
            go_at_call 66; refine (HI2.out _ _ (by omega) (by omega) HPD.out).mono ?_; rintro e WY ⟨rfl, h5⟩; obtain ⟨_, _, _, _, _, _, _, _⟩ := HSF.out _ h5
            go_wp2_with fail
            refine hK.out _ _ ?_ (fun hHeld => ?_)
            · (refine ⟨?_, ?_, ?_, ?_, ?_, ?_, ?_, ?_, ?_⟩ <;> assumption)
            clear hK K
            try simp only [Act.put, List.setIfInBounds_toArray, List.set_cons_zero, List.set_cons_succ]
            refine wpAnyH_take (i := 4) (v := .bool false) rfl (by kernel_rfl) (by kernel_rfl) (by kernel_rfl) (fun _ _ _ h => h) (Or.inl ⟨by kernel_rfl, ?_⟩) (by assumption) ?_
            · (intro w hSw; (try dsimp only at hSw); go_simp; first | done | with_reducible rfl)
            try simp only [Act.put, List.setIfInBounds_toArray, List.set_cons_zero, List.set_cons_succ]
            refine wpAnyH_take (i := 5) (v := .bool false) rfl (by kernel_rfl) (by kernel_rfl) (by kernel_rfl) (fun _ _ _ h => h) (Or.inl ⟨by kernel_rfl, ?_⟩) (by assumption) ?_
            · (intro w hSw; (try dsimp only at hSw); go_simp; first | done | with_reducible rfl)
            try simp only [Act.put, List.setIfInBounds_toArray, List.set_cons_zero, List.set_cons_succ]
            refine wpAnyH_take (i := 6) (v := ?_) rfl (by kernel_rfl) (by kernel_rfl) (by kernel_rfl) (fun _ _ _ h => h) (Or.inl ⟨by kernel_rfl, ?_⟩) (by assumption) ?_
            rotate_left
            · (intro w hSw; (try dsimp only at hSw); go_simp; first | done | with_reducible rfl)
            try simp only [Act.put, List.setIfInBounds_toArray, List.set_cons_zero, List.set_cons_succ]
            refine wpAnyH_take (i := 7) (v := ?_) rfl (by kernel_rfl) (by kernel_rfl) (by kernel_rfl) (fun _ _ _ h => h) (Or.inl ⟨by kernel_rfl, ?_⟩) (by assumption) ?_
            rotate_left
            · (intro w hSw; (try dsimp only at hSw); go_simp; first | done | with_reducible rfl)
            try simp only [Act.put, List.setIfInBounds_toArray, List.set_cons_zero, List.set_cons_succ]
            refine wpAnyH_take (i := 8) (v := ?_) rfl (by kernel_rfl) (by kernel_rfl) (by kernel_rfl) (fun _ _ _ h => h) (Or.inl ⟨by kernel_rfl, ?_⟩) (by assumption) ?_
            rotate_left
            · (intro w hSw; (try dsimp only at hSw); go_simp; first | done | with_reducible rfl)
            try simp only [Act.put, List.setIfInBounds_toArray, List.set_cons_zero, List.set_cons_succ]
            refine wpAnyH_ready (rs := [9]) (by kernel_rfl) (by simp) ?_
            refine AllReadyH.cons rfl (fun K hK => ?_) AllReadyH.nil
            go_simp
            go_at_call 66; refine (HI2.out _ _ (by omega) (by omega) h5).mono ?_; rintro e WZ ⟨rfl, h6⟩; obtain ⟨_, _, _, _, _, _, _, _⟩ := HSF.out _ h6
            go_wp2_with fail
            refine hK.out _ _ ?_ (fun hHeld => ?_)
            · (refine ⟨?_, ?_, ?_, ?_, ?_, ?_, ?_, ?_, ?_⟩ <;> assumption)
            clear hK K
            try simp only [Act.put, List.setIfInBounds_toArray, List.set_cons_zero, List.set_cons_succ]
            refine wpAnyH_take (i := 10) (v := .bool false) rfl (by kernel_rfl) (by kernel_rfl) (by kernel_rfl) (fun _ _ _ h => h) (Or.inl ⟨by kernel_rfl, ?_⟩) (by assumption) ?_
            · (intro w hSw; (try dsimp only at hSw); go_simp; first | done | with_reducible rfl)
            try simp only [Act.put, List.setIfInBounds_toArray, List.set_cons_zero, List.set_cons_succ]
            refine wpAnyH_take (i := 11) (v := .bool false) rfl (by kernel_rfl) (by kernel_rfl) (by kernel_rfl) (fun _ _ _ h => h) (Or.inl ⟨by kernel_rfl, ?_⟩) (by assumption) ?_
            · (intro w hSw; (try dsimp only at hSw); go_simp; first | done | with_reducible rfl)
            try simp only [Act.put, List.setIfInBounds_toArray, List.set_cons_zero, List.set_cons_succ]
            refine wpAnyH_take (i := 12) (v := .bool false) rfl (by kernel_rfl) (by kernel_rfl) (by kernel_rfl) (fun _ _ _ h => h) (Or.inl ⟨by kernel_rfl, ?_⟩) (by assumption) ?_
            · (intro w hSw; (try dsimp only at hSw); go_simp; first | done | with_reducible rfl)
            try simp only [Act.put, List.setIfInBounds_toArray, List.set_cons_zero, List.set_cons_succ]
            refine wpAnyH_take (i := 13) (v := ?_) rfl (by kernel_rfl) (by kernel_rfl) (by kernel_rfl) (fun _ _ _ h => h) (Or.inl ⟨by kernel_rfl, ?_⟩) (by assumption) ?_
            rotate_left
            · (intro w hSw; (try dsimp only at hSw); go_simp; first | done | with_reducible rfl)
            try simp only [Act.put, List.setIfInBounds_toArray, List.set_cons_zero, List.set_cons_succ]
            refine wpAnyH_take (i := 14) (v := ?_) rfl (by kernel_rfl) (by kernel_rfl) (by kernel_rfl) (fun _ _ _ h => h) (Or.inl ⟨by kernel_rfl, ?_⟩) (by assumption) ?_
            rotate_left
            · (intro w hSw; (try dsimp only at hSw); go_simp; first | done | with_reducible rfl)
            try simp only [Act.put, List.setIfInBounds_toArray, List.set_cons_zero, List.set_cons_succ]
            refine wpAnyH_take (i := 15) (v := .bool false) rfl (by kernel_rfl) (by kernel_rfl) (by kernel_rfl) (fun _ _ _ h => h) (Or.inl ⟨by kernel_rfl, ?_⟩) (by assumption) ?_
            · (intro w hSw; (try dsimp only at hSw); go_simp; first | done | with_reducible rfl)
            try simp only [Act.put, List.setIfInBounds_toArray, List.set_cons_zero, List.set_cons_succ]
            refine wpAnyH_take (i := 16) (v := .bool false) rfl (by kernel_rfl) (by kernel_rfl) (by kernel_rfl) (fun _ _ _ h => h) (Or.inl ⟨by kernel_rfl, ?_⟩) (by assumption) ?_
            · (intro w hSw; (try dsimp only at hSw); go_simp; first | done | with_reducible rfl)
            try simp only [Act.put, List.setIfInBounds_toArray, List.set_cons_zero, List.set_cons_succ]
            refine wpAnyH_take (i := 17) (v := .bool false) rfl (by kernel_rfl) (by kernel_rfl) (by kernel_rfl) (fun _ _ _ h => h) (Or.inl ⟨by kernel_rfl, ?_⟩) (by assumption) ?_
            · (intro w hSw; (try dsimp only at hSw); go_simp; first | done | with_reducible rfl)
            try simp only [Act.put, List.setIfInBounds_toArray, List.set_cons_zero, List.set_cons_succ]
            refine wpAnyH_take (i := 18) (v := ?_) rfl (by kernel_rfl) (by kernel_rfl) (by kernel_rfl) (fun _ _ _ h => h) (Or.inl ⟨by kernel_rfl, ?_⟩) (by assumption) ?_
            rotate_left
            · (intro w hSw; (try dsimp only at hSw); go_simp; first | done | with_reducible rfl)
            try simp only [Act.put, List.setIfInBounds_toArray, List.set_cons_zero, List.set_cons_succ]
            refine wpAnyH_take (i := 19) (v := .bool false) rfl (by kernel_rfl) (by kernel_rfl) (by kernel_rfl) (fun _ _ _ h => h) (Or.inl ⟨by kernel_rfl, ?_⟩) (by assumption) ?_
            · (intro w hSw; (try dsimp only at hSw); go_simp; first | done | with_reducible rfl)
            try simp only [Act.put, List.setIfInBounds_toArray, List.set_cons_zero, List.set_cons_succ]
            refine wpAnyH_take (i := 20) (v := .bool false) rfl (by kernel_rfl) (by kernel_rfl) (by kernel_rfl) (fun _ _ _ h => h) (Or.inl ⟨by kernel_rfl, ?_⟩) (by assumption) ?_
            · (intro w hSw; (try dsimp only at hSw); go_simp; first | done | with_reducible rfl)
            try simp only [Act.put, List.setIfInBounds_toArray, List.set_cons_zero, List.set_cons_succ]
            refine wpAnyH_take (i := 21) (v := undef) rfl (by kernel_rfl) (by kernel_rfl) (by kernel_rfl) (fun _ _ _ h => h) (Or.inr ⟨by kernel_rfl, rfl⟩) (by assumption) ?_
            try simp only [Act.put, List.setIfInBounds_toArray, List.set_cons_zero, List.set_cons_succ]
            refine wpAnyH_take (i := 22) (v := undef) rfl (by kernel_rfl) (by kernel_rfl) (by kernel_rfl) (fun _ _ _ h => h) (Or.inr ⟨by kernel_rfl, rfl⟩) (by assumption) ?_
            try simp only [Act.put, List.setIfInBounds_toArray, List.set_cons_zero, List.set_cons_succ]
            refine wpAnyH_take (i := 23) (v := undef) rfl (by kernel_rfl) (by kernel_rfl) (by kernel_rfl) (fun _ _ _ h => h) (Or.inr ⟨by kernel_rfl, rfl⟩) (by assumption) ?_
            try simp only [Act.put, List.setIfInBounds_toArray, List.set_cons_zero, List.set_cons_succ]
            refine wpAnyH_take (i := 24) (v := undef) rfl (by kernel_rfl) (by kernel_rfl) (by kernel_rfl) (fun _ _ _ h => h) (Or.inr ⟨by kernel_rfl, rfl⟩) (by assumption) ?_
            try simp only [Act.put, List.setIfInBounds_toArray, List.set_cons_zero, List.set_cons_succ]
            refine wpAnyH_take (i := 25) (v := undef) rfl (by kernel_rfl) (by kernel_rfl) (by kernel_rfl) (fun _ _ _ h => h) (Or.inr ⟨by kernel_rfl, rfl⟩) (by assumption) ?_
            try simp only [Act.put, List.setIfInBounds_toArray, List.set_cons_zero, List.set_cons_succ]
            refine wpAnyH_take (i := 26) (v := undef) rfl (by kernel_rfl) (by kernel_rfl) (by kernel_rfl) (fun _ _ _ h => h) (Or.inr ⟨by kernel_rfl, rfl⟩) (by assumption) ?_
            try simp only [Act.put, List.setIfInBounds_toArray, List.set_cons_zero, List.set_cons_succ]
            refine wpAnyH_take (i := 27) (v := undef) rfl (by kernel_rfl) (by kernel_rfl) (by kernel_rfl) (fun _ _ _ h => h) (Or.inr ⟨by kernel_rfl, rfl⟩) (by assumption) ?_
            try simp only [Act.put, List.setIfInBounds_toArray, List.set_cons_zero, List.set_cons_succ]
            refine wpAnyH_take (i := 28) (v := undef) rfl (by kernel_rfl) (by kernel_rfl) (by kernel_rfl) (fun _ _ _ h => h) (Or.inr ⟨by kernel_rfl, rfl⟩) (by assumption) ?_
            try simp only [Act.put, List.setIfInBounds_toArray, List.set_cons_zero, List.set_cons_succ]
            refine wpAnyH_take (i := 29) (v := undef) rfl (by kernel_rfl) (by kernel_rfl) (by kernel_rfl) (fun _ _ _ h => h) (Or.inr ⟨by kernel_rfl, rfl⟩) (by assumption) ?_
            try simp only [Act.put, List.setIfInBounds_toArray, List.set_cons_zero, List.set_cons_succ]
            refine wpAnyH_take (i := 30) (v := undef) rfl (by kernel_rfl) (by kernel_rfl) (by kernel_rfl) (fun _ _ _ h => h) (Or.inr ⟨by kernel_rfl, rfl⟩) (by assumption) ?_
            try simp only [Act.put, List.setIfInBounds_toArray, List.set_cons_zero, List.set_cons_succ]
            refine wpAnyH_take (i := 31) (v := .bool false) rfl (by kernel_rfl) (by kernel_rfl) (by kernel_rfl) (fun _ _ _ h => h) (Or.inl ⟨by kernel_rfl, ?_⟩) (by assumption) ?_
            · (intro w hSw; (try dsimp only at hSw); go_simp; first | done | with_reducible rfl)
            try simp only [Act.put, List.setIfInBounds_toArray, List.set_cons_zero, List.set_cons_succ]
            refine wpAnyH_take (i := 32) (v := .bool false) rfl (by kernel_rfl) (by kernel_rfl) (by kernel_rfl) (fun _ _ _ h => h) (Or.inl ⟨by kernel_rfl, ?_⟩) (by assumption) ?_
            · (intro w hSw; (try dsimp only at hSw); go_simp; first | done | with_reducible rfl)
            try simp only [Act.put, List.setIfInBounds_toArray, List.set_cons_zero, List.set_cons_succ]
            refine wpAnyH_done (by kernel_rfl) ?_ _
            refine NoPanic.normal ?_
            simp only [Act.put, List.setIfInBounds_toArray, List.set_cons_zero, List.set_cons_succ, List.getElem_toArray, List.getElem_cons_succ, List.getElem_cons_zero]
            have HP6 := Lib.hid h6
            clear h5 h6 HK0 tk
            have HB6 := Lib.hid (HBX.out _ HP6.out)
            have y2 : WZ.cell? ⟨g, off + j * 3 + 2, none⟩ = some (.int .i64 (-1)) := (HB6.out.below.cell (p := ⟨g, off + j * 3 + 2, none⟩) hg).trans HU.out.1
            have y1 : WZ.cell? ⟨g, off + (j + 1) * 3 + 1, none⟩ = some (.int .i64 op) := (HB6.out.below.cell (p := ⟨g, off + (j + 1) * 3 + 1, none⟩) hg).trans HU.out.2
            have jl : (j : Int) < (M : Int) + 1 := by omega
            have jl2 : (j : Int) + 1 < (M : Int) + 1 := by omega
            go_wp2
            go_quiet (fail)
            go_wp2
            have ew : wrap64 (kk + 1) = ((k + 1 : Nat) : Int) := by have := HKK.out; unfold wrap64; omega
            first | rw [ew] | rw [show kk + 1 = ((k + 1 : Nat) : Int) from by have := HKK.out; omega]
            go_roundw
            case rel => exact ⟨k + 1, by omega, rfl, by first | exact HB6.out | exact HB6.out.step (below_drewN (Below.refl _ _) _)⟩
            case measure => simp [intOf]; omega
          · have tk : decide ((0 : Int) < kk) = true := decide_eq_true (by omega)
            obtain ⟨k', hk'⟩ : ∃ k', k = k' + 1 := ⟨k - 1, by omega⟩
            obtain ⟨pp, hpc, hpp⟩ := HPV.out k' hk'
            have HPC : Hid (∀ W, P W → W.cell? ⟨gp, offp + k' * 3, none⟩ = some (.int .i64 pp)) := fun W h => ((HBX.out _ h).below.cell (p := ⟨gp, offp + k' * 3, none⟩) hgp).trans hpc
            have hk1 : kk - 1 = (k' : Int) := by omega
            have hk2 : wrap64 (kk - 1) = (k' : Int) := by rw [hk1]; unfold wrap64; omega
            have hk3 : IntKind.i64.wrap (kk - 1) = (k' : Int) := by rw [hk1]; simp [IntKind.wrap, IntKind.bits, IntKind.signed]; omega
            have hk5 : IntKind.i64.wrap (k' : Int) = (k' : Int) := by simp [IntKind.wrap, IntKind.bits, IntKind.signed]; omega
            have hk4 : (k' : Int) < (PN : Int) := by omega
            have tq : decide (op ≤ pp) = false := decide_eq_false (by omega)
            clear h0 hkk tl hk' hpc
            refine wp_region_noPanic ?_
            refine wp_region_held_drew (S := fun W => W.cell? ⟨X, 0, none⟩ = some (.int .i64 op) ∧ W.cell? ⟨X, 1, none⟩ = some (.int .i64 j) ∧ W.cell? ⟨X, 2, none⟩ = some (.int .i64 ((j : Int) + 1)) ∧ W.cell? ⟨w.heap.size, 0, none⟩ = some (.slice (some ⟨g, off, none⟩) (M + 1) cap) ∧ W.cell? ⟨w.heap.size, 1, none⟩ = some (.int .i64 M) ∧ W.cell? ⟨w.heap.size, 2, none⟩ = some (.int .i64 q.done) ∧ W.cell? ⟨w.heap.size, 3, none⟩ = some (.slice (some ⟨gp, offp, none⟩) PN cap2) ∧ W.cell? ⟨w.heap.size, 4, none⟩ = some (.bool q.empty) ∧ W.cell? ⟨gp, offp + k' * 3, none⟩ = some (.int .i64 pp) ∧ P W) (by kernel_rfl) ?_ (fun hHeld => ?_)
            · (refine ⟨?_, ?_, ?_, ?_, ?_, ?_, ?_, ?_, ?_, ?_⟩ <;> first | assumption | exact HPD.out | exact HK0.out.1 | exact HK0.out.2.1 | exact HK0.out.2.2.1 | exact HK0.out.2.2.2.1 | exact HK0.out.2.2.2.2.1 | exact HK0.out.2.2.2.2.2.1 | exact HK0.out.2.2.2.2.2.2.1 | exact HK0.out.2.2.2.2.2.2.2 | exact HPC.out _ HPD.out)
            refine wpAnyH_take (i := 0) (v := ?_) rfl (by kernel_rfl) (by kernel_rfl) (by kernel_rfl) (fun _ _ _ h => h) (Or.inl ⟨by kernel_rfl, ?_⟩) (by assumption) ?_
            rotate_left
            · (intro w hSw; (try dsimp only at hSw); go_simp; first | done | with_reducible rfl)
            try simp only [Act.put, List.setIfInBounds_toArray, List.set_cons_zero, List.set_cons_succ]
            refine wpAnyH_take (i := 1) (v := ?_) rfl (by kernel_rfl) (by kernel_rfl) (by kernel_rfl) (fun _ _ _ h => h) (Or.inl ⟨by kernel_rfl, ?_⟩) (by assumption) ?_
            rotate_left
            · (intro w hSw; (try dsimp only at hSw); go_simp; first | done | with_reducible rfl)
            try simp only [Act.put, List.setIfInBounds_toArray, List.set_cons_zero, List.set_cons_succ]
            refine wpAnyH_take (i := 2) (v := ?_) rfl (by kernel_rfl) (by kernel_rfl) (by kernel_rfl) (fun _ _ _ h => h) (Or.inl ⟨by kernel_rfl, ?_⟩) (by assumption) ?_
            rotate_left
            · (intro w hSw; (try dsimp only at hSw); go_simp; first | done | with_reducible rfl)
            try simp only [Act.put, List.setIfInBounds_toArray, List.set_cons_zero, List.set_cons_succ]
            refine wpAnyH_ready (rs := [3]) (by kernel_rfl) (by simp) ?_
            refine AllReadyH.cons rfl (fun K hK => ?_) AllReadyH.nil
            go_simp
            go_at_call 66; refine (HI2.out _ _ (by omega) (by omega) HPD.out).mono ?_; rintro e WY ⟨rfl, h5⟩; obtain ⟨_, _, _, _, _, _, _, _⟩ := HSF.out _ h5; have := HPC.out _ h5
            go_wp2_with fail
            refine hK.out _ _ ?_ (fun hHeld => ?_)
            · (refine ⟨?_, ?_, ?_, ?_, ?_, ?_, ?_, ?_, ?_, ?_⟩ <;> assumption)
            clear hK K
            try simp only [Act.put, List.setIfInBounds_toArray, List.set_cons_zero, List.set_cons_succ]
            refine wpAnyH_take (i := 4) (v := .bool false) rfl (by kernel_rfl) (by kernel_rfl) (by kernel_rfl) (fun _ _ _ h => h) (Or.inl ⟨by kernel_rfl, ?_⟩) (by assumption) ?_
            · (intro w hSw; (try dsimp only at hSw); go_simp; first | done | with_reducible rfl)
            try simp only [Act.put, List.setIfInBounds_toArray, List.set_cons_zero, List.set_cons_succ]
            refine wpAnyH_take (i := 5) (v := .bool false) rfl (by kernel_rfl) (by kernel_rfl) (by kernel_rfl) (fun _ _ _ h => h) (Or.inl ⟨by kernel_rfl, ?_⟩) (by assumption) ?_
            · (intro w hSw; (try dsimp only at hSw); go_simp; first | done | with_reducible rfl)
            try simp only [Act.put, List.setIfInBounds_toArray, List.set_cons_zero, List.set_cons_succ]
            refine wpAnyH_take (i := 6) (v := ?_) rfl (by kernel_rfl) (by kernel_rfl) (by kernel_rfl) (fun _ _ _ h => h) (Or.inl ⟨by kernel_rfl, ?_⟩) (by assumption) ?_
            rotate_left
            · (intro w hSw; (try dsimp only at hSw); go_simp; first | done | with_reducible rfl)
            try simp only [Act.put, List.setIfInBounds_toArray, List.set_cons_zero, List.set_cons_succ]
            refine wpAnyH_take (i := 7) (v := ?_) rfl (by kernel_rfl) (by kernel_rfl) (by kernel_rfl) (fun _ _ _ h => h) (Or.inl ⟨by kernel_rfl, ?_⟩) (by assumption) ?_
            rotate_left
            · (intro w hSw; (try dsimp only at hSw); go_simp; first | done | with_reducible rfl)
            try simp only [Act.put, List.setIfInBounds_toArray, List.set_cons_zero, List.set_cons_succ]
            refine wpAnyH_take (i := 8) (v := ?_) rfl (by kernel_rfl) (by kernel_rfl) (by kernel_rfl) (fun _ _ _ h => h) (Or.inl ⟨by kernel_rfl, ?_⟩) (by assumption) ?_
            rotate_left
            · (intro w hSw; (try dsimp only at hSw); go_simp; first | done | with_reducible rfl)
            try simp only [Act.put, List.setIfInBounds_toArray, List.set_cons_zero, List.set_cons_succ]
            refine wpAnyH_ready (rs := [9]) (by kernel_rfl) (by simp) ?_
            refine AllReadyH.cons rfl (fun K hK => ?_) AllReadyH.nil
            go_simp
            go_at_call 66; refine (HI2.out _ _ (by omega) (by omega) h5).mono ?_; rintro e WZ ⟨rfl, h6⟩; obtain ⟨_, _, _, _, _, _, _, _⟩ := HSF.out _ h6; have := HPC.out _ h6
            go_wp2_with fail
            refine hK.out _ _ ?_ (fun hHeld => ?_)
            · (refine ⟨?_, ?_, ?_, ?_, ?_, ?_, ?_, ?_, ?_, ?_⟩ <;> assumption)
            clear hK K
            try simp only [Act.put, List.setIfInBounds_toArray, List.set_cons_zero, List.set_cons_succ]
            refine wpAnyH_take (i := 10) (v := .bool false) rfl (by kernel_rfl) (by kernel_rfl) (by kernel_rfl) (fun _ _ _ h => h) (Or.inl ⟨by kernel_rfl, ?_⟩) (by assumption) ?_
            · (intro w hSw; (try dsimp only at hSw); go_simp; first | done | with_reducible rfl)
            try simp only [Act.put, List.setIfInBounds_toArray, List.set_cons_zero, List.set_cons_succ]
            refine wpAnyH_take (i := 11) (v := .bool false) rfl (by kernel_rfl) (by kernel_rfl) (by kernel_rfl) (fun _ _ _ h => h) (Or.inl ⟨by kernel_rfl, ?_⟩) (by assumption) ?_
            · (intro w hSw; (try dsimp only at hSw); go_simp; first | done | with_reducible rfl)
            try simp only [Act.put, List.setIfInBounds_toArray, List.set_cons_zero, List.set_cons_succ]
            refine wpAnyH_take (i := 12) (v := .bool false) rfl (by kernel_rfl) (by kernel_rfl) (by kernel_rfl) (fun _ _ _ h => h) (Or.inl ⟨by kernel_rfl, ?_⟩) (by assumption) ?_
            · (intro w hSw; (try dsimp only at hSw); go_simp; first | done | with_reducible rfl)
            try simp only [Act.put, List.setIfInBounds_toArray, List.set_cons_zero, List.set_cons_succ]
            refine wpAnyH_take (i := 13) (v := ?_) rfl (by kernel_rfl) (by kernel_rfl) (by kernel_rfl) (fun _ _ _ h => h) (Or.inl ⟨by kernel_rfl, ?_⟩) (by assumption) ?_
            rotate_left
            · (intro w hSw; (try dsimp only at hSw); go_simp; first | done | with_reducible rfl)
            try simp only [Act.put, List.setIfInBounds_toArray, List.set_cons_zero, List.set_cons_succ]
            refine wpAnyH_take (i := 14) (v := ?_) rfl (by kernel_rfl) (by kernel_rfl) (by kernel_rfl) (fun _ _ _ h => h) (Or.inl ⟨by kernel_rfl, ?_⟩) (by assumption) ?_
            rotate_left
            · (intro w hSw; (try dsimp only at hSw); go_simp; first | done | with_reducible rfl)
            try simp only [Act.put, List.setIfInBounds_toArray, List.set_cons_zero, List.set_cons_succ]
            refine wpAnyH_take (i := 15) (v := .bool false) rfl (by kernel_rfl) (by kernel_rfl) (by kernel_rfl) (fun _ _ _ h => h) (Or.inl ⟨by kernel_rfl, ?_⟩) (by assumption) ?_
            · (intro w hSw; (try dsimp only at hSw); go_simp; first | done | with_reducible rfl)
            try simp only [Act.put, List.setIfInBounds_toArray, List.set_cons_zero, List.set_cons_succ]
            refine wpAnyH_take (i := 16) (v := .bool false) rfl (by kernel_rfl) (by kernel_rfl) (by kernel_rfl) (fun _ _ _ h => h) (Or.inl ⟨by kernel_rfl, ?_⟩) (by assumption) ?_
            · (intro w hSw; (try dsimp only at hSw); go_simp; first | done | with_reducible rfl)
            try simp only [Act.put, List.setIfInBounds_toArray, List.set_cons_zero, List.set_cons_succ]
            refine wpAnyH_take (i := 17) (v := .bool false) rfl (by kernel_rfl) (by kernel_rfl) (by kernel_rfl) (fun _ _ _ h => h) (Or.inl ⟨by kernel_rfl, ?_⟩) (by assumption) ?_
            · (intro w hSw; (try dsimp only at hSw); go_simp; first | done | with_reducible rfl)
            try simp only [Act.put, List.setIfInBounds_toArray, List.set_cons_zero, List.set_cons_succ]
            refine wpAnyH_take (i := 18) (v := ?_) rfl (by kernel_rfl) (by kernel_rfl) (by kernel_rfl) (fun _ _ _ h => h) (Or.inl ⟨by kernel_rfl, ?_⟩) (by assumption) ?_
            rotate_left
            · (intro w hSw; (try dsimp only at hSw); go_simp; first | done | with_reducible rfl)
            try simp only [Act.put, List.setIfInBounds_toArray, List.set_cons_zero, List.set_cons_succ]
            refine wpAnyH_take (i := 19) (v := .bool true) rfl (by kernel_rfl) (by kernel_rfl) (by kernel_rfl) (fun _ _ _ h => h) (Or.inl ⟨by kernel_rfl, ?_⟩) (by assumption) ?_
            · (intro w hSw; (try dsimp only at hSw); go_simp; first | done | with_reducible rfl)
            try simp only [Act.put, List.setIfInBounds_toArray, List.set_cons_zero, List.set_cons_succ]
            refine wpAnyH_take (i := 20) (v := .bool true) rfl (by kernel_rfl) (by kernel_rfl) (by kernel_rfl) (fun _ _ _ h => h) (Or.inl ⟨by kernel_rfl, ?_⟩) (by assumption) ?_
            · (intro w hSw; (try dsimp only at hSw); go_simp; first | done | with_reducible rfl)
            try simp only [Act.put, List.setIfInBounds_toArray, List.set_cons_zero, List.set_cons_succ]
            refine wpAnyH_take (i := 21) (v := ?_) rfl (by kernel_rfl) (by kernel_rfl) (by kernel_rfl) (fun _ _ _ h => h) (Or.inl ⟨by kernel_rfl, ?_⟩) (by assumption) ?_
            rotate_left
            · (intro w hSw; (try dsimp only at hSw); go_simp; first | done | with_reducible rfl)
            try simp only [Act.put, List.setIfInBounds_toArray, List.set_cons_zero, List.set_cons_succ]
            refine wpAnyH_take (i := 22) (v := ?_) rfl (by kernel_rfl) (by kernel_rfl) (by kernel_rfl) (fun _ _ _ h => h) (Or.inl ⟨by kernel_rfl, ?_⟩) (by assumption) ?_
            rotate_left
            · (intro w hSw; (try dsimp only at hSw); go_simp; first | done | with_reducible rfl)
            try simp only [Act.put, List.setIfInBounds_toArray, List.set_cons_zero, List.set_cons_succ]
            refine wpAnyH_take (i := 23) (v := ?_) rfl (by kernel_rfl) (by kernel_rfl) (by kernel_rfl) (fun _ _ _ h => h) (Or.inl ⟨by kernel_rfl, ?_⟩) (by assumption) ?_
            rotate_left
            · (intro w hSw; (try dsimp only at hSw); go_simp; first | done | with_reducible rfl)
            try simp only [Act.put, List.setIfInBounds_toArray, List.set_cons_zero, List.set_cons_succ]
            refine wpAnyH_take (i := 24) (v := ?_) rfl (by kernel_rfl) (by kernel_rfl) (by kernel_rfl) (fun _ _ _ h => h) (Or.inl ⟨by kernel_rfl, ?_⟩) (by assumption) ?_
            rotate_left
            · (intro w hSw; (try dsimp only at hSw); go_simp; first | done | with_reducible rfl)
            try simp only [Act.put, List.setIfInBounds_toArray, List.set_cons_zero, List.set_cons_succ]
            refine wpAnyH_take (i := 25) (v := ?_) rfl (by kernel_rfl) (by kernel_rfl) (by kernel_rfl) (fun _ _ _ h => h) (Or.inl ⟨by kernel_rfl, ?_⟩) (by assumption) ?_
            rotate_left
            · (intro w hSw; (try dsimp only at hSw); go_simp; first | done | with_reducible rfl)
            try simp only [Act.put, List.setIfInBounds_toArray, List.set_cons_zero, List.set_cons_succ]
            refine wpAnyH_take (i := 26) (v := .int .i64 (k' : Int)) rfl (by kernel_rfl) (by kernel_rfl) (by kernel_rfl) (fun _ _ _ h => h) (Or.inl ⟨by kernel_rfl, ?_⟩) (by assumption) ?_
            · (intro w hSw; (try dsimp only at hSw); go_simp; first | done | with_reducible rfl)
            try simp only [Act.put, List.setIfInBounds_toArray, List.set_cons_zero, List.set_cons_succ]
            refine wpAnyH_take (i := 27) (v := ?_) rfl (by kernel_rfl) (by kernel_rfl) (by kernel_rfl) (fun _ _ _ h => h) (Or.inl ⟨by kernel_rfl, ?_⟩) (by assumption) ?_
            rotate_left
            · (intro w hSw; (try dsimp only at hSw); go_simp; first | done | with_reducible rfl)
            try simp only [Act.put, List.setIfInBounds_toArray, List.set_cons_zero, List.set_cons_succ]
            refine wpAnyH_take (i := 28) (v := ?_) rfl (by kernel_rfl) (by kernel_rfl) (by kernel_rfl) (fun _ _ _ h => h) (Or.inl ⟨by kernel_rfl, ?_⟩) (by assumption) ?_
            rotate_left
            · (intro w hSw; (try dsimp only at hSw); go_simp; first | done | with_reducible rfl)
            try simp only [Act.put, List.setIfInBounds_toArray, List.set_cons_zero, List.set_cons_succ]
            refine wpAnyH_take (i := 29) (v := ?_) rfl (by kernel_rfl) (by kernel_rfl) (by kernel_rfl) (fun _ _ _ h => h) (Or.inl ⟨by kernel_rfl, ?_⟩) (by assumption) ?_
            rotate_left
            · (intro w hSw; (try dsimp only at hSw); go_simp; first | done | with_reducible rfl)
            try simp only [Act.put, List.setIfInBounds_toArray, List.set_cons_zero, List.set_cons_succ]
            refine wpAnyH_take (i := 30) (v := .bool false) rfl (by kernel_rfl) (by kernel_rfl) (by kernel_rfl) (fun _ _ _ h => h) (Or.inl ⟨by kernel_rfl, ?_⟩) (by assumption) ?_
            · (intro w hSw; (try dsimp only at hSw); go_simp; first | done | with_reducible rfl)
            try simp only [Act.put, List.setIfInBounds_toArray, List.set_cons_zero, List.set_cons_succ]
            refine wpAnyH_take (i := 31) (v := .bool false) rfl (by kernel_rfl) (by kernel_rfl) (by kernel_rfl) (fun _ _ _ h => h) (Or.inl ⟨by kernel_rfl, ?_⟩) (by assumption) ?_
            · (intro w hSw; (try dsimp only at hSw); go_simp; first | done | with_reducible rfl)
            try simp only [Act.put, List.setIfInBounds_toArray, List.set_cons_zero, List.set_cons_succ]
            refine wpAnyH_take (i := 32) (v := .bool false) rfl (by kernel_rfl) (by kernel_rfl) (by kernel_rfl) (fun _ _ _ h => h) (Or.inl ⟨by kernel_rfl, ?_⟩) (by assumption) ?_
            · (intro w hSw; (try dsimp only at hSw); go_simp; first | done | with_reducible rfl)
            try simp only [Act.put, List.setIfInBounds_toArray, List.set_cons_zero, List.set_cons_succ]
            refine wpAnyH_done (by kernel_rfl) ?_ _
            refine NoPanic.normal ?_
            simp only [Act.put, List.setIfInBounds_toArray, List.set_cons_zero, List.set_cons_succ, List.getElem_toArray, List.getElem_cons_succ, List.getElem_cons_zero]
            have HP6 := Lib.hid h6
            clear h5 h6 HK0 tk
            have HB6 := Lib.hid (HBX.out _ HP6.out)
            have y2 : WZ.cell? ⟨g, off + j * 3 + 2, none⟩ = some (.int .i64 (-1)) := (HB6.out.below.cell (p := ⟨g, off + j * 3 + 2, none⟩) hg).trans HU.out.1
            have y1 : WZ.cell? ⟨g, off + (j + 1) * 3 + 1, none⟩ = some (.int .i64 op) := (HB6.out.below.cell (p := ⟨g, off + (j + 1) * 3 + 1, none⟩) hg).trans HU.out.2
            have jl : (j : Int) < (M : Int) + 1 := by omega
            have jl2 : (j : Int) + 1 < (M : Int) + 1 := by omega
            go_wp2
            go_quiet (fail)
            go_wp2
            have ew : wrap64 (kk + 1) = ((k + 1 : Nat) : Int) := by have := HKK.out; unfold wrap64; omega
            first | rw [ew] | rw [show kk + 1 = ((k + 1 : Nat) : Int) from by have := HKK.out; omega]
            go_roundw
            case rel => exact ⟨k + 1, by omega, rfl, by first | exact HB6.out | exact HB6.out.step (below_drewN (Below.refl _ _) _)⟩
            case measure => simp [intOf]; omega
        · obtain rfl : k = PN := by omega
          go_wp2_with fail
          go_ret
          exact ⟨rfl, HS.out.below⟩
end Go.Proofs.Ytgbafpjeapkklaa.Mb
namespace Go.Proofs.Ytgbafpjeapkklaa.Mb
open Go.RowKit Go.MapKept
set_option linter.unusedVariables false
set_option linter.unusedSimpArgs false
def MapI (w : World) (r : Nat) (l : List (Int × Value)) : Prop :=
  ∃ es clock, w.heap[r]? = some (.map es clock) ∧ es.toList.map (fun e => (e.key, e.val)) = l.map fun x => (Value.int .i64 x.1, x.2)
theorem find_now (k : Int) : ∀ (es : List MapEntry) (l : List (Int × Value)) (i : Nat), es.map (fun e => (e.key, e.val)) = l.map (fun x => (Value.int .i64 x.1, x.2)) →
    ∃ j, Instr.findNow (.int .i64) (.int .i64 k) es i = some (match l.find? (fun x => x.1 == k) with | some x => some (j, x.2) | none => none) := by
  intro es
  induction es with
  | nil =>
    intro l i h
    cases l with
    | nil => exact ⟨0, rfl⟩
    | cons x l => cases h
  | cons e es ih =>
    intro l i h
    cases l with
    | nil => cases h
    | cons x l =>
      simp only [List.map_cons, List.cons.injEq, Prod.mk.injEq] at h
      obtain ⟨⟨h1, h2⟩, h3⟩ := h
      by_cases hk : x.1 = k
      · refine ⟨i, ?_⟩
        simp [Instr.findNow, Instr.sameNow, h1, hk, h2]
      · obtain ⟨j, hj⟩ := ih l (i + 1) h3
        refine ⟨j, ?_⟩
        have hk' : (k == x.1) = false := by simpa using fun e => hk e.symm
        have hk2 : (x.1 == k) = false := by simpa using hk
        simp only [Instr.findNow, Instr.sameNow, h1, if_true, hk', List.find?_cons, hk2]
        exact hj
theorem look {w : World} {r : Nat} {l : List (Int × Value)} (h : MapI w r l) (t e : TypeId) (z : Value) (ht : Try.prog.underlying t = some (.map 3 e)) (hz : (zeroValue e).run Try.prog w = .ok z w) (k : Int) :
    (Instr.lookup t (.map (some r)) (.int .i64 k) true).run Try.prog w = .ok (.tuple #[(match l.find? (fun x => x.1 == k) with | some x => x.2 | none => z), .bool (l.find? fun x => x.1 == k).isSome]) w := by
  obtain ⟨es, clock, h1, h2⟩ := h
  obtain ⟨j, hj⟩ := find_now k es.toList l 0 h2
  have h3 : Try.prog.underlying 3 = some (.int .i64) := Try.underlying3
  have hck : ∀ b, (Instr.checkKey b 10000 3 (.int .i64 k)).run Try.prog w = .ok () w := fun b => run_checkKey (w := w) (k := .int .i64 k) h3 (by simp [IsKey]) b 9999
  have hgo : (getObj r).run Try.prog w = .ok (.map es clock) w := by simp [getObj, Sem.run, h1]
  have hfk := run_findKey (P := Try.prog) (w := w) h3 hj
  unfold Instr.lookup
  cases hf : l.find? (fun x => x.1 == k) with
  | none =>
    rw [hf] at hfk
    simp [run_underlying ht, Result.andThen, hgo, hck, hfk, hz]
  | some x =>
    rw [hf] at hfk
    simp [run_underlying ht, Result.andThen, hgo, hck, hfk, hz]
theorem look1 {w : World} {r : Nat} {l : List (Int × Value)} (h : MapI w r l) (t e : TypeId) (z : Value) (ht : Try.prog.underlying t = some (.map 3 e)) (hz : (zeroValue e).run Try.prog w = .ok z w) (k : Int) :
    (Instr.lookup t (.map (some r)) (.int .i64 k) false).run Try.prog w = .ok (match l.find? (fun x => x.1 == k) with | some x => x.2 | none => z) w := by
  obtain ⟨es, clock, h1, h2⟩ := h
  obtain ⟨j, hj⟩ := find_now k es.toList l 0 h2
  have h3 : Try.prog.underlying 3 = some (.int .i64) := Try.underlying3
  have hck : ∀ b, (Instr.checkKey b 10000 3 (.int .i64 k)).run Try.prog w = .ok () w := fun b => run_checkKey (w := w) (k := .int .i64 k) h3 (by simp [IsKey]) b 9999
  have hgo : (getObj r).run Try.prog w = .ok (.map es clock) w := by simp [getObj, Sem.run, h1]
  have hfk := run_findKey (P := Try.prog) (w := w) h3 hj
  unfold Instr.lookup
  cases hf : l.find? (fun x => x.1 == k) with
  | none =>
    rw [hf] at hfk
    simp [run_underlying ht, Result.andThen, hgo, hck, hfk, hz]
  | some x =>
    rw [hf] at hfk
    simp [run_underlying ht, Result.andThen, hgo, hck, hfk, hz]
theorem put_new {w : World} {r : Nat} {l : List (Int × Value)} (h : MapI w r l) (t e : TypeId) (ht : Try.prog.underlying t = some (.map 3 e)) (k : Int) (v : Value) (hn : l.find? (fun x => x.1 == k) = none) :
    ∃ w', (Instr.mapUpdate t (.map (some r)) (.int .i64 k) v).run Try.prog w = .ok () w' ∧ MapI w' r (l ++ [(k, v)]) ∧ w'.heap.size = w.heap.size ∧ w'.os = w.os ∧ w'.tape = w.tape ∧ w'.output = w.output ∧ ∀ g, g ≠ r → w'.heap[g]? = w.heap[g]? := by
  obtain ⟨es, clock, h1, h2⟩ := h
  obtain ⟨j, hj⟩ := find_now k es.toList l 0 h2
  rw [hn] at hj
  have h3 : Try.prog.underlying 3 = some (.int .i64) := Try.underlying3
  have hck : ∀ b, (Instr.checkKey b 10000 3 (.int .i64 k)).run Try.prog w = .ok () w := fun b => run_checkKey (w := w) (k := .int .i64 k) h3 (by simp [IsKey]) b 9999
  have hgo : (getObj r).run Try.prog w = .ok (.map es clock) w := by simp [getObj, Sem.run, h1]
  have hfk := run_findKey (P := Try.prog) (w := w) h3 hj
  have hso : ∀ o : Obj, (∃ es c, o = .map es c) → (setObj r o).run Try.prog w = .ok () { w with heap := w.heap.setIfInBounds r o } := by
    rintro o ⟨es', c, rfl⟩
    simp [setObj, Sem.run, h1]
  obtain ⟨g1, g2⟩ := heap_set (o' := .map (es.push { key := .int .i64 k, val := v, born := clock }) (clock + 1)) h1
  refine ⟨{ w with heap := w.heap.setIfInBounds r (.map (es.push { key := .int .i64 k, val := v, born := clock }) (clock + 1)) }, ?_, ⟨_, _, g1, ?_⟩, by simp, rfl, rfl, rfl, g2⟩
  · unfold Instr.mapUpdate
    simp [run_underlying ht, Result.andThen, hgo, hck, hfk]
    exact hso _ ⟨_, _, rfl⟩
  · simp [h2]
end Go.Proofs.Ytgbafpjeapkklaa.Mb
namespace Go.Proofs.Ytgbafpjeapkklaa.Mb
open Go.RowKit
set_option linter.unusedVariables false
set_option linter.unusedSimpArgs false
def seenTo (a : Nat) : List (Int × Value) := (List.range a).map fun (i : Nat) => ((i : Int), Value.bool true)
theorem seen_find (a k : Nat) : (seenTo a).find? (fun x => x.1 == (k : Int)) = if k < a then some ((k : Int), .bool true) else none := by
  induction a with
  | zero => rfl
  | succ a ih =>
    have e : seenTo (a + 1) = seenTo a ++ [((a : Int), .bool true)] := by simp [seenTo, List.range_succ]
    rw [e, List.find?_append, ih]
    by_cases h : k < a
    · rw [if_pos h, if_pos (by omega)]; rfl
    · rw [if_neg h]
      by_cases h2 : k = a
      · subst h2; simp
      · rw [if_neg (by omega)]
        have : ((a : Int) == (k : Int)) = false := by simp; omega
        simp [this]
theorem seen_snoc (a : Nat) : seenTo a ++ [((a : Int), .bool true)] = seenTo (a + 1) := by simp [seenTo, List.range_succ]
theorem zero4 (w : World) : (zeroValue 4).run Try.prog w = .ok (.bool false) w := by kernel_rfl
theorem und120 : Try.prog.underlying 120 = some (.map 3 4) := by kernel_rfl
structure CM (w : World) (q : Q) (ns ps : Value) (g gs r a : Nat) (W : World) : Prop where
  bx : Bx w q ns ps g W
  var : W.heap[gs]? = some (.cells #[.map (some r)] 120 (0, 0))
  map : MapI W r (seenTo a)
  low : w.heap.size ≤ r
theorem CM.put {w : World} {q : Q} {ns ps : Value} {g gs r a : Nat} {W : World} (h : CM w q ns ps g gs r a W) :
    ∃ W', (Instr.mapUpdate 120 (.map (some r)) (.int .i64 a) (.bool true)).run Try.prog W = .ok () W' ∧ CM w q ns ps g gs r (a + 1) W' := by
  obtain ⟨W', h1, h2, h3, h4, h5, h6, h7⟩ := put_new h.map 120 4 und120 (a : Int) (.bool true) (by rw [seen_find, if_neg (by omega)])
  obtain ⟨es, clock, hm, _⟩ := h.map
  have ng : g ≠ r := by rintro rfl; have := h.bx.box; rw [hm] at this; cases this
  have ns' : gs ≠ r := by rintro rfl; have := h.var; rw [hm] at this; cases this
  refine ⟨W', h1, ⟨⟨?_, (h7 g ng).trans h.bx.box⟩, (h7 gs ns').trans h.var, by rw [← seen_snoc]; exact h2, h.low⟩⟩
  exact h.bx.below.trans ⟨h4, h5, h6, Nat.le_of_eq h3.symm, fun k hk => h7 k (by have := h.low; omega)⟩
theorem CM.look {w : World} {q : Q} {ns ps : Value} {g gs r a : Nat} {W : World} (h : CM w q ns ps g gs r a W) (k : Nat) :
    (Instr.lookup 120 (.map (some r)) (.int .i64 k) false).run Try.prog W = .ok (.bool (decide (k < a))) W := by
  rw [look1 h.map 120 4 (.bool false) und120 (zero4 W) (k : Int), seen_find]
  by_cases hk : k < a
  · simp [hk]
  · simp [hk]
set_option maxRecDepth 100000 in
set_option maxHeartbeats 4000000 in
theorem chain_at {q : Q} {w : World} {ps : Value} {gn off cap : Nat} (hn : Tri w (.slice (some ⟨gn, off, none⟩) (q.m + 1) cap) q.nodes) (g gs r a e : Nat) (h1 : a ≤ e) (h2 : e ≤ q.m) (hf : q.m < 2000)
    (hend : e = q.m ∨ q.isOpen (e + 1) = true) (hlink : ∀ i, a ≤ i → i < e → q.isOpen (i + 1) = false) (W : World) (hW : CM w q (.slice (some ⟨gn, off, none⟩) (q.m + 1) cap) ps g gs r a W) :
    Calls Try.prog 54 #[.int .i64 a, .pointer (some ⟨gs, 0, none⟩), .pointer (some ⟨g, 0, none⟩)] W fun en W' => en = .returned (.tuple #[.int .i64 e, .bool true]) ∧ CM w q (.slice (some ⟨gn, off, none⟩) (q.m + 1) cap) ps g gs r (e + 1) W' := by
  obtain ⟨p, cap', hp, hcap, hn⟩ := hn
  injection hp with p1 p2 p3
  subst p3
  have HN : Hid (gn < w.heap.size ∧ ∀ (k : Nat) (x : Int × Int × Int), q.nodes[k]? = some x → w.cell? ⟨gn, off + k * 3 + 2, none⟩ = some (.int .i64 x.2.2)) := by
    rcases hn with h | ⟨g', off', e1, e2, e3⟩
    · have := nodes_len q; rw [h] at this; simp at this
    · rw [← p1] at e1
      injection e1 with e1
      injection e1 with e4 e5
      subst e4
      subst e5
      exact ⟨e2, fun k x hx => (e3 k x hx).2.2⟩
  have HNX : Hid (∀ k, a ≤ k → k ≤ e → (q.node k).2.2 = if k < e then (k : Int) + 1 else -1) := by
    intro k hk1 hk2
    have hx : (q.node k).2.2 = q.nxt k := by unfold Q.node; split <;> simp_all
    rw [hx]
    unfold Q.nxt
    by_cases hke : k < e
    · rw [if_pos ⟨by omega, hlink k hk1 hke⟩, if_pos hke]
    · obtain rfl : k = e := by omega
      rw [if_neg (by omega : ¬ k < k)]
      rcases hend with h | h
      · rw [if_neg (by omega)]
      · rw [h]; simp
  have HW := Lib.hid hW
  clear hn p1 p2 hcap hlink hend hW
  generalize hM : q.m = M at *
  have HM := Lib.hid hM; clear hM
  go_enter Try.func54, Try.ntmps54
  go_wp2_with fail
  go_loopw [0] (fun s0 wr => ∃ k : Nat, a ≤ k ∧ k ≤ e ∧ s0 = .int .i64 k ∧ CM w q (.slice (some ⟨gn, off, none⟩) (M + 1) cap) ps g gs r k wr) (fun s0 _ => e + 1 - (intOf s0).toNat)
  case atStart => exact ⟨a, Nat.le_refl _, h1, rfl, HW.out⟩
  case round =>
    obtain ⟨k, hk1, hk2, rfl, hS⟩ := hrel
    have HS := Lib.hid hS; clear hS
    have hl : (Instr.lookup 120 (.map (some r)) (.int .i64 k) false).run Try.prog wr = .ok (.bool false) wr := by
      have := HS.out.look k
      simpa using this
    obtain ⟨W', hput, hW'⟩ := HS.out.put
    have HS' := Lib.hid hW'; clear hW'
    have v0 : wr.cell? ⟨gs, 0, none⟩ = some (.map (some r)) := cell_blk HS.out.var 0
    have b0 : W'.cell? ⟨g, 0, none⟩ = some (.slice (some ⟨gn, off, none⟩) (M + 1) cap) := cell_blk HS'.out.bx.box 0
    have hx := HN.out.2 k _ (nodes_get (q := q) (j := k) (by rw [HM.out]; omega))
    rw [HNX.out k hk1 hk2] at hx
    have d0 : W'.cell? ⟨gn, off + k * 3 + 2, none⟩ = some (.int .i64 (if k < e then (k : Int) + 1 else -1)) := (HS'.out.bx.below.cell (p := ⟨gn, off + k * 3 + 2, none⟩) HN.out.1).trans hx
    clear hx
    have kl : (k : Int) < (M : Int) + 1 := by omega
    by_cases hke : k < e
    · rw [if_pos hke] at d0
      have t1 : decide ((k : Int) + 1 < 0) = false := decide_eq_false (by omega)
      go_wp2_with fail
      go_roundw
      case rel => exact ⟨k + 1, by omega, by omega, by go_num, HS'.out⟩
      case measure => simp [intOf]; omega
    · rw [if_neg hke] at d0
      obtain rfl : e = k := by omega
      go_wp2_with fail
      go_ret2
      exact ⟨rfl, HS'.out⟩
end Go.Proofs.Ytgbafpjeapkklaa.Mb
namespace Go.Proofs.Ytgbafpjeapkklaa.Mb
open Go.RowKit
set_option linter.unusedVariables false
set_option linter.unusedSimpArgs false
def Fin (q : Q) (a e : Nat) : Prop := a ≤ e ∧ e ≤ q.m ∧ (e = q.m ∨ q.isOpen (e + 1) = true) ∧ ∀ i, a ≤ i → i < e → q.isOpen (i + 1) = false
theorem fin_ex (q : Q) : ∀ d a, a + d = q.m → ∃ e, Fin q a e := by
  intro d
  induction d with
  | zero => intro a h; exact ⟨a, Nat.le_refl _, by omega, .inl (by omega), fun i h1 h2 => by omega⟩
  | succ d ih =>
    intro a h
    cases ho : q.isOpen (a + 1) with
    | true => exact ⟨a, Nat.le_refl _, by omega, .inr ho, fun i h1 h2 => by omega⟩
    | false =>
      obtain ⟨e, h1, h2, h3, h4⟩ := ih (a + 1) (by omega)
      refine ⟨e, by omega, h2, h3, fun i hi1 hi2 => ?_⟩
      by_cases hia : i = a
      · subst hia; exact ho
      · exact h4 i (by omega) hi2
theorem Fin.ex {q : Q} {a : Nat} (h : a ≤ q.m) : ∃ e, Fin q a e := fin_ex q (q.m - a) a (by omega)
def cnt (q : Q) (e : Nat) : Nat := (q.opn.filter fun o => decide (o.2 ≤ e)).length
theorem cnt_le (q : Q) (e : Nat) : cnt q e ≤ q.opn.length := List.length_filter_le _ _
theorem cnt_all {q : Q} (hq : WF q) : cnt q q.m = q.opn.length := by
  unfold cnt
  rw [List.filter_eq_self.2]
  intro o ho
  have := hq.opn o ho
  simp; omega
theorem not_open {q : Q} {j : Nat} (h : q.isOpen j = false) {o : Int × Nat} (ho : o ∈ q.opn) : o.2 ≠ j := by
  intro e
  have := isOpen_of ho
  rw [e, h] at this
  cases this
theorem cnt_first {q : Q} (hq : WF q) {e : Nat} (h : Fin q 0 e) : cnt q e = 0 := by
  unfold cnt
  rw [List.length_eq_zero_iff, List.filter_eq_nil_iff]
  intro o ho
  have h1 := hq.opn o ho
  simp
  apply Nat.lt_of_not_le
  intro hle
  exact not_open (h.2.2.2 (o.2 - 1) (Nat.zero_le _) (by omega)) ho (by omega)
theorem open_mem {q : Q} {j : Nat} (h : q.isOpen j = true) : ∃ (p : Nat) (o : Int × Nat), q.opn[p]? = some o ∧ o.2 = j := by
  simp only [Q.isOpen, List.any_eq_true] at h
  obtain ⟨o, ho, e⟩ := h
  obtain ⟨p, hp⟩ := List.mem_iff_getElem?.1 ho
  exact ⟨p, o, hp, by simpa using e⟩
theorem filter_or (l : List (Int × Nat)) (f g : Int × Nat → Bool) (hd : ∀ o ∈ l, ¬ (f o = true ∧ g o = true)) : (l.filter fun o => f o || g o).length = (l.filter f).length + (l.filter g).length := by
  induction l with
  | nil => rfl
  | cons x l ih =>
    have h1 := ih fun o ho => hd o (List.mem_cons_of_mem _ ho)
    have h2 := hd x List.mem_cons_self
    cases hf : f x <;> cases hg : g x
    · simp [hf, hg, h1]
    · simp [hf, hg, h1]; omega
    · simp [hf, hg, h1]; omega
    · exact absurd ⟨hf, hg⟩ h2
theorem filter_one {q : Q} (hq : WF q) {p : Nat} {o : Int × Nat} (hp : q.opn[p]? = some o) : (q.opn.filter fun x => decide (x.2 = o.2)).length = 1 := by
  obtain ⟨hlt, he⟩ := List.getElem?_eq_some_iff.1 hp
  have hs : q.opn = q.opn.take p ++ o :: q.opn.drop (p + 1) := by
    rw [← he, ← List.drop_eq_getElem_cons hlt, List.take_append_drop]
  have hno : ∀ i x, q.opn[i]? = some x → x.2 = o.2 → i = p := fun i x hi hx => open_uniq hq hi hp hx
  have e1 : (q.opn.take p).filter (fun x => decide (x.2 = o.2)) = [] := by
    rw [List.filter_eq_nil_iff]
    intro x hx
    obtain ⟨i, hi⟩ := List.mem_iff_getElem?.1 hx
    have hip : i < p := by
      have := (List.getElem?_eq_some_iff.1 hi).1
      simp at this; omega
    rw [List.getElem?_take_of_lt hip] at hi
    simp
    intro e
    have := hno i x hi e
    omega
  have e2 : (q.opn.drop (p + 1)).filter (fun x => decide (x.2 = o.2)) = [] := by
    rw [List.filter_eq_nil_iff]
    intro x hx
    obtain ⟨i, hi⟩ := List.mem_iff_getElem?.1 hx
    rw [List.getElem?_drop] at hi
    simp
    intro e
    have := hno _ x hi e
    omega
  rw [hs, List.filter_append, List.filter_cons, e1, e2]
  simp
theorem cnt_next {q : Q} (hq : WF q) {e e' : Nat} (ho : q.isOpen (e + 1) = true) (h : Fin q (e + 1) e') : cnt q e' = cnt q e + 1 := by
  obtain ⟨p, o, hp, he⟩ := open_mem ho
  have hone := filter_one hq hp
  have hor := filter_or q.opn (fun x => decide (x.2 ≤ e)) (fun x => decide (x.2 = o.2)) (fun x _ hx => by
    have h1 := of_decide_eq_true hx.1
    have h2 := of_decide_eq_true hx.2
    omega)
  unfold cnt
  rw [← hone, ← hor]
  congr 1
  apply List.filter_congr
  intro x hx
  have hw := hq.opn x hx
  by_cases h1 : x.2 ≤ e
  · have : x.2 ≤ e' := by have := h.1; omega
    simp [h1, this]
  · by_cases h2 : x.2 = o.2
    · have : x.2 ≤ e' := by have := h.1; omega
      simp [h2, this]; omega
    · have : ¬ x.2 ≤ e' := by
        intro hle
        exact not_open (h.2.2.2 (x.2 - 1) (by omega) (by omega)) hx (by omega)
      simp [h1, h2, this]
theorem cnt_open {q : Q} (_hq : WF q) {e : Nat} (ho : q.isOpen (e + 1) = true) : cnt q e < q.opn.length := by
  obtain ⟨p, o, hp, he⟩ := open_mem ho
  apply Nat.lt_of_le_of_ne (cnt_le q e)
  intro h
  unfold cnt at h
  rw [List.length_filter_eq_length_iff] at h
  have := of_decide_eq_true (h o (List.mem_of_getElem? hp))
  omega
def befs (q : Q) (k : Nat) : List (Int × Value) := (List.range k).map fun (i : Nat) => (((q.opn.getD i (0, 0)).2 : Int) - 1, Value.int .i64 (i : Int))
theorem befs_snoc {q : Q} {k : Nat} {o : Int × Nat} (h : q.opn[k]? = some o) : befs q k ++ [((o.2 : Int) - 1, .int .i64 (k : Int))] = befs q (k + 1) := by
  have e : q.opn.getD k (0, 0) = o := by simp [List.getD, h]
  unfold befs
  rw [List.range_succ, List.map_append, List.map_singleton, e]
theorem befs_find {q : Q} (hq : WF q) {p : Nat} {o : Int × Nat} (hp : q.opn[p]? = some o) : ∀ k, k ≤ q.opn.length → (befs q k).find? (fun x => x.1 == (o.2 : Int) - 1) = if p < k then some ((o.2 : Int) - 1, .int .i64 (p : Int)) else none := by
  intro k
  induction k with
  | zero => intro _; simp [befs]
  | succ k ih =>
    intro hk
    obtain ⟨x, hx⟩ : ∃ x, q.opn[k]? = some x := ⟨q.opn[k], by simp [show k < q.opn.length by omega]⟩
    rw [← befs_snoc hx, List.find?_append, ih (by omega)]
    by_cases h : p < k
    · rw [if_pos h, if_pos (by omega)]; rfl
    · rw [if_neg h]
      by_cases h2 : p = k
      · subst h2
        rw [hp] at hx; cases hx
        simp
      · rw [if_neg (by omega)]
        have hne : x.2 ≠ o.2 := fun e => h2 (open_uniq hq hp hx e.symm)
        have : (((x.2 : Int) - 1) == ((o.2 : Int) - 1)) = false := by simp; omega
        simp [this]
end Go.Proofs.Ytgbafpjeapkklaa.Mb
namespace Go.Proofs.Ytgbafpjeapkklaa.Mb
open Go.RowKit
set_option linter.unusedVariables false
set_option linter.unusedSimpArgs false
theorem zero3 (w : World) : (zeroValue 3).run Try.prog w = .ok (.int .i64 0) w := by kernel_rfl
theorem und119 : Try.prog.underlying 119 = some (.map 3 3) := by kernel_rfl
theorem mk_map (t : TypeId) (w : World) : (Instr.makeMap t none).run Try.prog w = .ok (.map (some w.heap.size)) (w.alloc (.map #[] 0)) := by
  simp [Instr.makeMap, Result.andThen]
structure C1 (w : World) (q : Q) (ns ps : Value) (g r k : Nat) (W : World) : Prop where
  bx : Bx w q ns ps g W
  map : MapI W r (befs q k)
  low : w.heap.size ≤ r
theorem MapI.below {W W' : World} {r : Nat} {l : List (Int × Value)} (h : MapI W r l) (hb : Below W.heap.size W W') : MapI W' r l := by
  obtain ⟨es, c, h1, h2⟩ := h
  exact ⟨es, c, (hb.block r (blk_lt h1)).trans h1, h2⟩
theorem C1.step {w : World} {q : Q} {ns ps : Value} {g r k : Nat} {W W' : World} (h : C1 w q ns ps g r k W) (hb : Below W.heap.size W W') : C1 w q ns ps g r k W' :=
  ⟨h.bx.step hb, h.map.below hb, h.low⟩
theorem C1.look {w : World} {q : Q} {ns ps : Value} {g r k : Nat} {W : World} (h : C1 w q ns ps g r k W) (hq : WF q) {p : Nat} {o : Int × Nat} (hp : q.opn[p]? = some o) (hk : k ≤ q.opn.length) (x : Int) (hx : x = (o.2 : Int) - 1) :
    (Instr.lookup 119 (.map (some r)) (.int .i64 x) true).run Try.prog W = .ok (.tuple #[.int .i64 (if p < k then (p : Int) else 0), .bool (decide (p < k))]) W := by
  subst hx
  rw [Mb.look h.map 119 3 (.int .i64 0) und119 (zero3 W), befs_find hq hp k hk]
  by_cases hpk : p < k
  · simp [hpk]
  · simp [hpk]
theorem C1.put {w : World} {q : Q} {ns ps : Value} {g r k : Nat} {W : World} (h : C1 w q ns ps g r k W) (hq : WF q) {o : Int × Nat} (hp : q.opn[k]? = some o) (x : Int) (hx : x = (o.2 : Int) - 1) :
    ∃ W', (Instr.mapUpdate 119 (.map (some r)) (.int .i64 x) (.int .i64 (k : Int))).run Try.prog W = .ok () W' ∧ C1 w q ns ps g r (k + 1) W' := by
  subst hx
  obtain ⟨W', h1, h2, h3, h4, h5, h6, h7⟩ := put_new h.map 119 3 und119 ((o.2 : Int) - 1) (.int .i64 (k : Int)) (by rw [befs_find hq hp k (by have := (List.getElem?_eq_some_iff.1 hp).1; omega), if_neg (by omega)])
  obtain ⟨es, clock, hm, _⟩ := h.map
  have ng : g ≠ r := by rintro rfl; have := h.bx.box; rw [hm] at this; cases this
  refine ⟨W', h1, ⟨⟨?_, (h7 g ng).trans h.bx.box⟩, by rw [← befs_snoc hp]; exact h2, h.low⟩⟩
  exact h.bx.below.trans ⟨h4, h5, h6, Nat.le_of_eq h3.symm, fun k hk => h7 k (by have := h.low; omega)⟩
theorem run_len_map {w : World} {r : Nat} {l : List (Int × Value)} (h : MapI w r l) (t e ty : TypeId) (ht : Try.prog.underlying t = some (.map 3 e)) :
    (Builtin.len_ #[t] ty #[.map (some r)]).run Try.prog w = .ok (.int .i64 l.length) w := by
  obtain ⟨es, clock, h1, h2⟩ := h
  have hl : es.size = l.length := by
    have := congrArg List.length h2
    simpa using this
  simp [Builtin.len_, run_underlying ht, MapKept.run_getObj_map h1, goInt, hl]
theorem look_bef {W : World} {q : Q} {r k : Nat} (h : MapI W r (befs q k)) (hq : WF q) {p : Nat} {o : Int × Nat} (hp : q.opn[p]? = some o) (hpk : p < k) (hk : k ≤ q.opn.length) (x : Int) (hx : x = (o.2 : Int) - 1) :
    (Instr.lookup 119 (.map (some r)) (.int .i64 x) true).run Try.prog W = .ok (.tuple #[.int .i64 p, .bool true]) W := by
  subst hx
  rw [Mb.look h 119 3 (.int .i64 0) und119 (zero3 W), befs_find hq hp k hk]
  simp [hpk]
set_option maxRecDepth 100000 in
set_option maxHeartbeats 4000000 in
theorem check_at {q : Q} (hq : WF q) (ns ps : Value) (w : World) (hn : Tri w ns q.nodes) (hp : Tri w ps q.pushes) :
    Calls Try.prog 18 #[.agg #[ns, .int .i64 q.m, .int .i64 q.done, ps, .bool q.empty]] w fun e w' => e = .returned (.int .i64 0) ∧ Below w.heap.size w w' := by
  obtain ⟨A, cap, hA⟩ := hn.slice
  obtain ⟨B, cap2, hB⟩ := hp.slice
  subst hA
  subst hB
  rw [nodes_len] at hn ⊢
  rw [pushes_len] at hp ⊢
  have HNT := Lib.hid hn; clear hn
  have HPT := Lib.hid hp; clear hp
  have HQ := Lib.hid hq
  have hfew := hq.few
  have hfo := hq.fewo
  have HFM : Hid (∀ W, Bx w q (.slice A (q.m + 1) cap) (.slice B q.opn.length cap2) w.heap.size W → Calls Try.prog 53 #[.agg #[.slice A (q.m + 1) cap, .int .i64 q.m, .int .i64 q.done, .slice B q.opn.length cap2, .bool q.empty]] W fun e w' => e = .returned (.bool true) ∧ Below W.heap.size W w') :=
    fun W h => formed_at HQ.out _ _ W (HNT.out.below h.below) (HPT.out.below h.below)
  have HF : Hid (∀ W, Bx w q (.slice A (q.m + 1) cap) (.slice B q.opn.length cap2) w.heap.size W → W.cell? ⟨w.heap.size, 0, none⟩ = some (.slice A (q.m + 1) cap) ∧ W.cell? ⟨w.heap.size, 1, none⟩ = some (.int .i64 q.m) ∧ W.cell? ⟨w.heap.size, 2, none⟩ = some (.int .i64 q.done) ∧ W.cell? ⟨w.heap.size, 3, none⟩ = some (.slice B q.opn.length cap2) ∧ W.cell? ⟨w.heap.size, 4, none⟩ = some (.bool q.empty)) := fun W h => h.facts
  have HS0 : Hid (Bx w q (.slice A (q.m + 1) cap) (.slice B q.opn.length cap2) w.heap.size (w.alloc (Obj.cells #[.slice A (q.m + 1) cap, .int .i64 q.m, .int .i64 q.done, .slice B q.opn.length cap2, .bool q.empty] 28))) :=
    ⟨(Below.refl _ _).alloc (Nat.le_refl _) _, (MapKept.heap_alloc _ _).1⟩
  clear hq
  generalize hM : q.m = M at *
  have HM := Lib.hid hM; clear hM
  generalize hP : q.opn.length = PN at *
  have HPN := Lib.hid hP; clear hP
  go_enter Try.func18, Try.ntmps18
  go_upto_region 1 with fail
  generalize (w.alloc (Obj.cells #[.slice A (M + 1) cap, .int .i64 M, .int .i64 q.done, .slice B PN cap2, .bool q.empty] 28)) = W0 at *
  obtain ⟨c0, c1, c2, c3, c4⟩ := HF.out _ HS0.out
  go_wp2_with fail
  refine (HFM.out _ HS0.out).mono ?_
  rintro e W1 ⟨rfl, hb1⟩
  have HS1 := Lib.hid (HS0.out.step hb1)
  clear hb1 c0 c1 c2 c3 c4
  have hmk := mk_map 119 W1
  go_upto_region 4 with fail
  clear hmk
  obtain ⟨r1, hr1⟩ : ∃ r1, r1 = W1.heap.size := ⟨_, rfl⟩
  obtain ⟨W2, hW2⟩ : ∃ W2, W2 = W1.alloc (Obj.map #[] 0) := ⟨_, rfl⟩
  rw [← hW2, ← hr1]
  have hb2 : Below W1.heap.size W1 W2 := by rw [hW2]; exact (Below.refl _ _).alloc (Nat.le_refl _) _
  have HC1 : Hid (C1 w q (.slice A (M + 1) cap) (.slice B PN cap2) w.heap.size r1 0 W2) :=
    ⟨HS1.out.step hb2, ⟨#[], 0, by rw [hW2, hr1]; exact (MapKept.heap_alloc _ _).1, by simp [befs]⟩, by rw [hr1]; exact HS1.out.below.size⟩
  clear hb2 hW2 hr1
  obtain ⟨c0, c1, c2, c3, c4⟩ := HF.out _ HC1.out.bx
  go_wp2_with fail
  clear c0 c1 c2 c3 c4
  go_loopw [21] (fun s21 wr => ∃ k : Nat, k ≤ PN ∧ s21 = .int .i64 k ∧ C1 w q (.slice A (M + 1) cap) (.slice B PN cap2) w.heap.size r1 k wr) (fun s21 _ => PN - (intOf s21).toNat)
  case atStart => exact ⟨0, by omega, rfl, HC1.out⟩
  case round =>
    obtain ⟨k, hk, rfl, hS⟩ := hrel
    have HS := Lib.hid hS; clear hS
    by_cases hlt : k < PN
    · have tl : decide ((k : Int) < (PN : Int)) = true := decide_eq_true (by omega)
      obtain ⟨o, ho⟩ : ∃ o, q.opn[k]? = some o := ⟨q.opn[k]'(by rw [HPN.out]; exact hlt), by simp⟩
      obtain ⟨r1', r2, _, _⟩ := HQ.out.opn o (List.mem_of_getElem? ho)
      obtain ⟨p, cp, hpe, hcp', hp'⟩ := HPT.out
      injection hpe with e1 e2 e3
      subst e1
      obtain ⟨gp, offp, rfl, hgp, hcp⟩ : ∃ g off, B = some ⟨g, off, none⟩ ∧ g < w.heap.size ∧
          ∀ (k : Nat) (x : Int × Int × Int), q.pushes[k]? = some x → w.cell? ⟨g, off + k * 3, none⟩ = some (.int .i64 x.1) ∧ w.cell? ⟨g, off + k * 3 + 1, none⟩ = some (.int .i64 x.2.1) ∧ w.cell? ⟨g, off + k * 3 + 2, none⟩ = some (.int .i64 x.2.2) := by
        rcases hp' with h | h
        · have := pushes_len q; rw [h, HPN.out] at this; simp at this; omega
        · exact h
      obtain ⟨z0, z1, z2⟩ := hcp k _ (pushes_get ho)
      obtain ⟨op, oj⟩ := o
      simp only at r1' z0 z1 z2
      obtain ⟨bj, hbj⟩ : ∃ bj : Int, bj = (oj : Int) - 1 := ⟨_, rfl⟩
      rw [← hbj] at z1
      have d0 : wr.cell? ⟨gp, offp + k * 3, none⟩ = some (.int .i64 op) := (HS.out.bx.below.cell (p := ⟨gp, offp + k * 3, none⟩) hgp).trans z0
      have d1 : wr.cell? ⟨gp, offp + k * 3 + 1, none⟩ = some (.int .i64 bj) := (HS.out.bx.below.cell (p := ⟨gp, offp + k * 3 + 1, none⟩) hgp).trans z1
      have d2 : wr.cell? ⟨gp, offp + k * 3 + 2, none⟩ = some (.int .i64 (oj : Int)) := (HS.out.bx.below.cell (p := ⟨gp, offp + k * 3 + 2, none⟩) hgp).trans z2
      have HO := Lib.hid ho
      have HBJ := Lib.hid hbj
      clear ho hbj z0 z1 z2 hcp e2 e3 hcp' hp' r1' r2
      go_upto_region 7 with fail
      obtain ⟨X, hX⟩ : ∃ X, X = wr.heap.size := ⟨_, rfl⟩
      obtain ⟨W5, hW5⟩ : ∃ W5, W5 = wr.alloc (Obj.cells #[.int .i64 op, .int .i64 bj, .int .i64 (oj : Int)] 102) := ⟨_, rfl⟩
      rw [← hW5, ← hX]
      have hb5 : Below wr.heap.size wr W5 := by rw [hW5]; exact (Below.refl _ _).alloc (Nat.le_refl _) _
      have hx5 : W5.heap[X]? = some (.cells #[.int .i64 op, .int .i64 bj, .int .i64 (oj : Int)] 102 (0, 0)) := by rw [hW5, hX]; exact (MapKept.heap_alloc _ _).1
      have HS5 := Lib.hid (HS.out.step hb5)
      have x1 : W5.cell? ⟨X, 1, none⟩ = some (.int .i64 bj) := cell_blk hx5 1
      have hlk := HS5.out.look HQ.out HO.out (by rw [HPN.out]; omega) bj HBJ.out
      rw [if_neg (by omega : ¬ k < k), decide_eq_false (by omega : ¬ k < k)] at hlk
      obtain ⟨W6, hput, hW6⟩ := HS5.out.put HQ.out HO.out bj HBJ.out
      have HS6 := Lib.hid hW6; clear hW6
      clear hb5 hx5 hW5 hX d0 d1 d2
      go_wp2_with fail
      go_roundw
      case rel => exact ⟨k + 1, by omega, by go_num, HS6.out⟩
      case measure => simp [intOf]; omega
    · have tl : decide ((k : Int) < (PN : Int)) = false := decide_eq_false (by omega)
      obtain rfl : k = PN := by omega
      obtain ⟨wq, hwq⟩ : ∃ x, x = wr := ⟨_, rfl⟩
      subst hwq
      obtain ⟨b0, b1⟩ := HS.out
      clear HFM HF HS0 HS1 HC1 HS hk hlt tl
      have HN : Hid (Tri wq (.slice A (M + 1) cap) q.nodes) := HNT.out.below b0.below
      have HP : Hid (Tri wq (.slice B k cap2) q.pushes) := HPT.out.below b0.below
      obtain ⟨gn, offn, rfl⟩ : ∃ g off, A = some ⟨g, off, none⟩ := by
        obtain ⟨p, c, hpe, _, hp'⟩ := HN.out
        injection hpe with e1 e2 e3
        subst e1
        rcases hp' with h | ⟨g, off, rfl, _⟩
        · have := nodes_len q; rw [h] at this; simp at this
        · exact ⟨g, off, rfl⟩
      have HCH : Hid (∀ (gs r a e : Nat) (W : World), Fin q a e → CM wq q (.slice (some ⟨gn, offn, none⟩) (M + 1) cap) (.slice B k cap2) w.heap.size gs r a W →
          Calls Try.prog 54 #[.int .i64 a, .pointer (some ⟨gs, 0, none⟩), .pointer (some ⟨w.heap.size, 0, none⟩)] W fun en W' => en = .returned (.tuple #[.int .i64 e, .bool true]) ∧ CM wq q (.slice (some ⟨gn, offn, none⟩) (M + 1) cap) (.slice B k cap2) w.heap.size gs r (e + 1) W') := by
        intro gs r a e W hf hc
        have hM := HM.out
        subst hM
        exact chain_at HN.out w.heap.size gs r a e hf.1 hf.2.1 hfew hf.2.2.1 hf.2.2.2 W hc
      have HF : Hid (∀ W gs r a, CM wq q (.slice (some ⟨gn, offn, none⟩) (M + 1) cap) (.slice B k cap2) w.heap.size gs r a W → W.cell? ⟨w.heap.size, 0, none⟩ = some (.slice (some ⟨gn, offn, none⟩) (M + 1) cap) ∧ W.cell? ⟨w.heap.size, 1, none⟩ = some (.int .i64 M) ∧ W.cell? ⟨w.heap.size, 2, none⟩ = some (.int .i64 q.done) ∧ W.cell? ⟨w.heap.size, 3, none⟩ = some (.slice B k cap2) ∧ W.cell? ⟨w.heap.size, 4, none⟩ = some (.bool q.empty) ∧ W.cell? ⟨gs, 0, none⟩ = some (.map (some r))) := by
        intro W gs r a hc
        have hM := HM.out
        subst hM
        obtain ⟨f0, f1, f2, f3, f4⟩ := hc.bx.facts
        exact ⟨f0, f1, f2, f3, f4, cell_blk hc.var 0⟩
      obtain ⟨c0, c1, c2, c3, c4⟩ := b0.facts
      rw [HM.out] at c1
      have hmk := mk_map 120 wq
      go_upto_region 14 with fail
      clear hmk c0 c1 c2 c3 c4
      obtain ⟨r, hr⟩ : ∃ r, r = wq.heap.size := ⟨_, rfl⟩
      obtain ⟨W4, hW4⟩ : ∃ W4, W4 = (wq.alloc (Obj.map #[] 0)).alloc (Obj.cells #[Value.map (some wq.heap.size)] 120) := ⟨_, rfl⟩
      rw [← hW4, ← hr]
      have HC0 : Hid (CM wq q (.slice (some ⟨gn, offn, none⟩) (M + 1) cap) (.slice B k cap2) w.heap.size (r + 1) r 0 W4) := by
        have hb1 : Below wq.heap.size wq (wq.alloc (Obj.map #[] 0)) := (Below.refl _ _).alloc (Nat.le_refl _) _
        have hb2 : Below (wq.alloc (Obj.map #[] 0)).heap.size (wq.alloc (Obj.map #[] 0)) W4 := by rw [hW4]; exact (Below.refl _ _).alloc (Nat.le_refl _) _
        have hm : MapI (wq.alloc (Obj.map #[] 0)) r [] := ⟨#[], 0, by rw [hr]; exact (MapKept.heap_alloc _ _).1, rfl⟩
        have hB0 : Bx wq q (.slice (some ⟨gn, offn, none⟩) (M + 1) cap) (.slice B k cap2) w.heap.size wq := ⟨Below.refl _ _, b0.box⟩
        refine ⟨(hB0.step hb1).step hb2, ?_, hm.below hb2, by omega⟩
        have hs : r + 1 = (wq.alloc (Obj.map #[] 0)).heap.size := by simp [hr]
        rw [hW4, hs, hr]
        exact (MapKept.heap_alloc _ _).1
      have HB1 : Hid (MapI wq r1 (befs q k)) := b1
      have HB0 : Hid (Below w.heap.size w wq) := b0.below
      have HRL : Hid (wq.heap.size ≤ r) := Nat.le_of_eq hr.symm
      clear b0 b1 hW4 hr
      obtain ⟨e0, he⟩ := Fin.ex (q := q) (a := 0) (Nat.zero_le _)
      have HE := Lib.hid he; clear he
      go_wp2_with fail
      refine (HCH.out (r + 1) r 0 e0 _ HE.out HC0.out).mono ?_
      rintro en W5 ⟨rfl, hc5⟩
      have HC5 := Lib.hid hc5; clear hc5
      go_upto_region 15 with fail
      obtain ⟨c0, c1, c2, c3, c4, c5⟩ := HF.out _ _ _ _ HC5.out
      have tdone : q.done ≤ e0 := by
        have h1 := HE.out
        have h2 := HQ.out.linked
        have h3 := HQ.out.done
        rcases h1.2.2.1 with h | h
        · omega
        · apply Nat.le_of_not_lt
          intro hlt
          rw [h2 (e0 + 1) (by omega) (by omega)] at h
          cases h
      have hlk := HC5.out.look q.done
      rw [decide_eq_true (by omega : q.done < e0 + 1)] at hlk
      go_wp2_with fail
      clear hlk c0 c1 c2 c3 c4 c5 tdone
      have hcf := cnt_first HQ.out HE.out
      go_loopw [10, 58] (fun s10 s58 wr => ∃ i e : Nat, i ≤ k ∧ e ≤ M ∧ s58 = .int .i64 i ∧ s10 = .int .i64 e ∧ (e = M ∨ q.isOpen (e + 1) = true) ∧ cnt q e = i ∧ CM wq q (.slice (some ⟨gn, offn, none⟩) (M + 1) cap) (.slice B k cap2) w.heap.size (r + 1) r (e + 1) wr) (fun _ s58 _ => k - (intOf s58).toNat)
      case atStart =>
        have h1 := HE.out.2.1
        have h2 := HE.out.2.2.1
        rw [HM.out] at h1 h2
        exact ⟨0, e0, by omega, h1, rfl, rfl, h2, hcf, HC5.out⟩
      case round =>
        clear HC5 HE hcf HC0
        obtain ⟨i, e, hi, hem, rfl, rfl, hen, hcn, hS⟩ := hrel
        have HS := Lib.hid hS; clear hS
        have HCN := Lib.hid hcn; clear hcn
        obtain ⟨c0, c1, c2, c3, c4, c5⟩ := HF.out _ _ _ _ HS.out
        by_cases hlt : i < k
        · have tl : decide ((i : Int) < (k : Int)) = true := decide_eq_true (by omega)
          have hop : q.isOpen (e + 1) = true := by
            rcases hen with h | h
            · have h1 := cnt_all HQ.out
              have h2 := HCN.out
              rw [h, ← HM.out, h1, HPN.out] at h2
              omega
            · exact h
          obtain ⟨p, o, hpo, hoe⟩ := open_mem hop
          have HP1 := Lib.hid hpo
          obtain ⟨op, oj⟩ := o
          simp only at hoe
          subst hoe
          have hpk : p < k := by rw [← HPN.out]; exact (List.getElem?_eq_some_iff.1 hpo).1
          clear hpo hen
          have hlk := look_bef (HB1.out.below HS.out.bx.below) HQ.out HP1.out hpk (by rw [HPN.out]; omega) (e : Int) (by simp)
          obtain ⟨pp, cp, hpe, hcp', hp'⟩ := HP.out
          injection hpe with e1 e2 e3
          subst e1
          obtain ⟨gp, offp, rfl, hgp, hcp⟩ : ∃ g off, B = some ⟨g, off, none⟩ ∧ g < wq.heap.size ∧
              ∀ (k : Nat) (x : Int × Int × Int), q.pushes[k]? = some x → wq.cell? ⟨g, off + k * 3, none⟩ = some (.int .i64 x.1) ∧ wq.cell? ⟨g, off + k * 3 + 1, none⟩ = some (.int .i64 x.2.1) ∧ wq.cell? ⟨g, off + k * 3 + 2, none⟩ = some (.int .i64 x.2.2) := by
            rcases hp' with h | h
            · have := pushes_len q; rw [h, HPN.out] at this; simp at this; omega
            · exact h
          have hz := (hcp p _ (pushes_get HP1.out)).2.2
          have d2 : wr.cell? ⟨gp, offp + p * 3 + 2, none⟩ = some (.int .i64 ((e + 1 : Nat) : Int)) := (HS.out.bx.below.cell (p := ⟨gp, offp + p * 3 + 2, none⟩) hgp).trans hz
          clear hz hcp e2 e3 hcp' hp'
          have pk : (p : Int) < (k : Int) := by omega
          obtain ⟨e', he'⟩ := Fin.ex (q := q) (a := e + 1) (by
            have h1 := HQ.out.opn _ (List.mem_of_getElem? HP1.out)
            exact h1.2.1)
          have HE' := Lib.hid he'; clear he'
          have hcx := cnt_next HQ.out hop HE'.out
          rw [HCN.out] at hcx
          have HCX := Lib.hid hcx; clear hcx
          obtain ⟨ee, hee⟩ : ∃ ee : Int, ee = ((e + 1 : Nat) : Int) := ⟨_, rfl⟩
          rw [← hee] at d2
          go_upto_region 22 with fail
          have hch := HCH.out (r + 1) r (e + 1) e' _ HE'.out HS.out
          rw [show ((e + 1 : Nat) : Int) = (e : Int) + 1 from rfl] at hch
          have h9 : ee = (e : Int) + 1 := by omega
          clear hee
          subst h9
          go_wp2_with fail
          refine hch.mono ?_
          clear hch
          rintro en W6 ⟨rfl, hc6⟩
          have HS6 := Lib.hid hc6; clear hc6
          clear c0 c1 c2 c3 c4 c5 d2 hlk
          have hem' : e' ≤ M := by rw [← HM.out]; exact HE'.out.2.1
          have hen' := HE'.out.2.2.1
          rw [HM.out] at hen'
          have HEN := Lib.hid hen'; clear hen'
          go_wp2_with fail
          go_roundw
          case rel => exact ⟨i + 1, e', by omega, hem', by go_num, rfl, HEN.out, by rw [HCX.out], HS6.out⟩
          case measure => simp [intOf]; omega
        · have tl : decide ((i : Int) < (k : Int)) = false := decide_eq_false (by omega)
          obtain rfl : i = k := by omega
          obtain rfl : e = M := by
            rcases hen with h | h
            · exact h
            · have h1 := cnt_open HQ.out h
              rw [HCN.out, HPN.out] at h1
              omega
          have hlen := run_len_map HS.out.map 120 4 3 und120
          rw [show (seenTo (e + 1)).length = e + 1 by simp [seenTo]] at hlen
          clear hlt hi
          cases hem9 : q.empty with
          | true =>
            have hdm := HQ.out.mt hem9
            rw [hdm, HM.out] at c2
            rw [hem9] at c4
            go_upto_region 26 with fail
            go_wp2_with fail
            go_ret
            exact ⟨rfl, HB0.out.trans (HS.out.bx.below.mono HB0.out.size)⟩
          | false =>
            rw [hem9] at c4
            go_upto_region 26 with fail
            go_wp2_with fail
            go_ret
            exact ⟨rfl, HB0.out.trans (HS.out.bx.below.mono HB0.out.size)⟩
end Go.Proofs.Ytgbafpjeapkklaa.Mb
namespace Go.Proofs.Ytgbafpjeapkklaa.Mb
open Go.RowKit
set_option linter.unusedVariables false
set_option linter.unusedSimpArgs false
theorem info99 : (Try.prog.info? 99).map (fun i => (i.zero, i.size, i.bytes)) = some (some (.agg #[.int .i64 0, .int .i64 0, .int .i64 0]), 3, 24) := by kernel_rfl
theorem info102 : (Try.prog.info? 102).map (fun i => (i.zero, i.size, i.bytes)) = some (some (.agg #[.int .i64 0, .int .i64 0, .int .i64 0]), 3, 24) := by kernel_rfl
def trip (x : Int × Int × Int) : List Value := [.int .i64 x.1, .int .i64 x.2.1, .int .i64 x.2.2]
def cellsT (l : List (Int × Int × Int)) : List Value := l.flatMap trip
theorem cellsT_cons (x : Int × Int × Int) (l : List (Int × Int × Int)) : cellsT (x :: l) = trip x ++ cellsT l := rfl
theorem cellsT_append (l m : List (Int × Int × Int)) : cellsT (l ++ m) = cellsT l ++ cellsT m := by simp [cellsT]
theorem cellsT_len (l : List (Int × Int × Int)) : (cellsT l).length = l.length * 3 := by
  induction l with
  | nil => rfl
  | cons x l ih => rw [cellsT_cons, List.length_append, ih]; simp [trip]; omega
theorem cellsT_one (l : List (Int × Int × Int)) : ∀ u ∈ cellsT l, u.oneCell' = true := by
  intro u hu
  simp only [cellsT, List.mem_flatMap] at hu
  obtain ⟨x, _, hx⟩ := hu
  simp only [trip, List.mem_cons, List.not_mem_nil, or_false] at hx
  rcases hx with rfl | rfl | rfl <;> rfl
theorem cellsT_get (l : List (Int × Int × Int)) : ∀ (k : Nat) (x : Int × Int × Int), l[k]? = some x → (cellsT l)[k * 3]? = some (.int .i64 x.1) ∧ (cellsT l)[k * 3 + 1]? = some (.int .i64 x.2.1) ∧ (cellsT l)[k * 3 + 2]? = some (.int .i64 x.2.2) := by
  induction l with
  | nil => intro k x h; simp at h
  | cons y l ih =>
    intro k x h
    cases k with
    | zero =>
      simp at h; subst h
      rw [cellsT_cons]; simp [trip]
    | succ k =>
      obtain ⟨a, b, c⟩ := ih k x (by simpa using h)
      rw [cellsT_cons, show (k + 1) * 3 = k * 3 + 3 by omega]
      refine ⟨?_, ?_, ?_⟩
      · rw [List.getElem?_append_right (by simp [trip])]; simpa [trip] using a
      · rw [List.getElem?_append_right (by simp [trip])]; simpa [trip] using b
      · rw [List.getElem?_append_right (by simp [trip])]; simpa [trip] using c
theorem cellsT_inv (l : List (Int × Int × Int)) (j : Nat) (u : Value) (h : (cellsT l)[j]? = some u) : ∃ k x, l[k]? = some x ∧ ((j = k * 3 ∧ u = .int .i64 x.1) ∨ (j = k * 3 + 1 ∧ u = .int .i64 x.2.1) ∨ (j = k * 3 + 2 ∧ u = .int .i64 x.2.2)) := by
  have hlt := (List.getElem?_eq_some_iff.1 h).1
  rw [cellsT_len] at hlt
  have hk : j / 3 < l.length := by omega
  obtain ⟨a, b, c⟩ := cellsT_get l (j / 3) l[j / 3] (by simp [hk])
  refine ⟨j / 3, l[j / 3], by simp [hk], ?_⟩
  have h3 : j % 3 = 0 ∨ j % 3 = 1 ∨ j % 3 = 2 := by omega
  rcases h3 with h3 | h3 | h3
  · left
    have e : j = j / 3 * 3 := by omega
    rw [← e, h] at a
    exact ⟨e, Option.some.inj a⟩
  · right; left
    have e : j = j / 3 * 3 + 1 := by omega
    rw [← e, h] at b
    exact ⟨e, Option.some.inj b⟩
  · right; right
    have e : j = j / 3 * 3 + 2 := by omega
    rw [← e, h] at c
    exact ⟨e, Option.some.inj c⟩
theorem Tri.src {w : World} {a : Addr} {n cap : Nat} {l : List (Int × Int × Int)} (h : Tri w (.slice (some a) n cap) l) : ∀ j u, (cellsT l)[j]? = some u → w.cell? (a.add j) = some u := by
  intro j u hj
  obtain ⟨k, x, hx, hu⟩ := cellsT_inv l j u hj
  obtain ⟨p, cap', hp, _, h⟩ := h
  injection hp with e1 _ _
  subst e1
  rcases h with h | ⟨g, off, e, _, hc⟩
  · subst h; simp at hx
  · injection e with e
    subst e
    obtain ⟨a, b, c⟩ := hc k x hx
    rw [Addr.add_lit]
    rcases hu with ⟨rfl, rfl⟩ | ⟨rfl, rfl⟩ | ⟨rfl, rfl⟩
    · exact a
    · exact b
    · exact c
theorem own_tri {w : World} {base : Nat} {e : TypeId} {v : Value} {n : Nat} {l : List (Int × Int × Int)} (hn : n = l.length) (h : w.ownsRow base e 3 v n (cellsT l)) : Tri w v l := by
  subst hn
  have hc := fun g hg => h.cells (g := g) hg
  have hlt := h.lt
  rcases h.2 with ⟨rfl, h0⟩ | ⟨g, cap, cur, rfl, _, hg, hcap, _⟩
  · exact ⟨none, 0, by rw [h0], by rw [h0]; exact Nat.le_refl _, .inl (List.eq_nil_of_length_eq_zero h0)⟩
  · refine ⟨some ⟨g, 0, none⟩, cap, rfl, hcap, .inr ⟨g, 0, rfl, blk_lt hg, fun k x hx => ?_⟩⟩
    obtain ⟨a, b, c⟩ := cellsT_get l k x hx
    have h1 := hc g rfl _ _ a
    have h2 := hc g rfl _ _ b
    have h3 := hc g rfl _ _ c
    rw [Addr.add_lit] at h1 h2 h3
    exact ⟨h1, h2, h3⟩
set_option maxRecDepth 100000 in
set_option maxHeartbeats 1000000 in
theorem clone62 {w : World} {v : Value} {l : List (Int × Int × Int)} (h : Tri w v l) (hl : l.length ≤ 2000) :
    Calls Try.prog 62 #[v] w fun e w' => ∃ v', e = .returned v' ∧ w'.ownsRow w.heap.size 99 3 v' l.length (cellsT l) ∧ Below w.heap.size w w' := by
  obtain ⟨p, cap, rfl⟩ := h.slice
  obtain ⟨i0, hi, hz0, hz1, hz2⟩ := info_parts info99
  have HI := Lib.hid hi; clear hi
  have HZ0 := Lib.hid hz0; clear hz0
  have HZ1 := Lib.hid hz1; clear hz1
  have HZ2 := Lib.hid hz2; clear hz2
  have HT := Lib.hid h; clear h
  have HL := Lib.hid hl; clear hl
  cases p with
  | none =>
    have h0 : l.length = 0 := by
      obtain ⟨p, c, e, hc, h⟩ := HT.out
      injection e with e1 e2 e3
      subst e1
      rcases h with rfl | ⟨g, off, e, _⟩
      · rfl
      · cases e
    obtain rfl : l = [] := List.eq_nil_of_length_eq_zero h0
    have heq := Lib.run_eql_slice_nil (P := Try.prog) w 25 99 none 0 cap 0 0 Try.underlying25
    go_enter Try.func62, Try.ntmps62
    go_wp2_with fail
    go_ret
    exact ⟨_, rfl, World.ownsRow_nil _ _ _ _, Below.refl _ _⟩
  | some a =>
    have heq := Lib.run_eql_slice_nil (P := Try.prog) w 25 99 (some a) l.length cap 0 0 Try.underlying25
    have HSR := Lib.hid (HT.out.below ((Below.refl w.heap.size w).alloc (Nat.le_refl _) (Obj.cells #[] 99))).src
    have HON : Hid ((w.alloc (Obj.cells #[] 99)).ownsRow w.heap.size 99 3 (.slice (some ⟨w.heap.size, 0, none⟩) 0 0) 0 []) := World.ownsRow_made w #[] 0 (Nat.le_refl _) (by decide) rfl
    go_enter Try.func62, Try.ntmps62
    go_wp2_with (at_builtin; refine wpList_append_own _ rfl _ _ 25 rfl w.heap.size 99 i0 (.agg #[.int .i64 0, .int .i64 0, .int .i64 0]) 3 24 Try.underlying25 HI.out HZ0.out HZ1.out HZ2.out rfl (by decide) _ _ _ rfl HON.out a l.length cap (cellsT l) rfl (cellsT_len l) ?c1 ?c2 ?c3 ?c4 ?c5 ?_)
    case c1 => exact HSR.out
    case c2 => exact cellsT_one l
    case c3 => have := HL.out; unfold maxLen; omega
    case c4 => have := HL.out; omega
    case c5 => simp
    intro v1 w1 hown1 hgr _
    have HO1 := Lib.hid hown1; clear hown1
    have HG1 := Lib.hid hgr; clear hgr
    go_wp2_with fail
    go_ret
    refine ⟨_, rfl, ?_, ?_⟩
    · have := HO1.out
      simpa using this
    · exact ((Below.refl w.heap.size w).alloc (Nat.le_refl _) (Obj.cells #[] 99)).grown HG1.out (by simp) (fun k hk => by simp [Value.ownBlock] at hk; omega)
set_option maxRecDepth 100000 in
set_option maxHeartbeats 1000000 in
theorem clone63 {w : World} {v : Value} {l : List (Int × Int × Int)} (h : Tri w v l) (hl : l.length ≤ 2000) :
    Calls Try.prog 63 #[v] w fun e w' => ∃ v', e = .returned v' ∧ w'.ownsRow w.heap.size 102 3 v' l.length (cellsT l) ∧ Below w.heap.size w w' := by
  obtain ⟨p, cap, rfl⟩ := h.slice
  obtain ⟨i0, hi, hz0, hz1, hz2⟩ := info_parts info102
  have HI := Lib.hid hi; clear hi
  have HZ0 := Lib.hid hz0; clear hz0
  have HZ1 := Lib.hid hz1; clear hz1
  have HZ2 := Lib.hid hz2; clear hz2
  have HT := Lib.hid h; clear h
  have HL := Lib.hid hl; clear hl
  cases p with
  | none =>
    have h0 : l.length = 0 := by
      obtain ⟨p, c, e, hc, h⟩ := HT.out
      injection e with e1 e2 e3
      subst e1
      rcases h with rfl | ⟨g, off, e, _⟩
      · rfl
      · cases e
    obtain rfl : l = [] := List.eq_nil_of_length_eq_zero h0
    have heq := Lib.run_eql_slice_nil (P := Try.prog) w 26 102 none 0 cap 0 0 Try.underlying26
    go_enter Try.func63, Try.ntmps63
    go_wp2_with fail
    go_ret
    exact ⟨_, rfl, World.ownsRow_nil _ _ _ _, Below.refl _ _⟩
  | some a =>
    have heq := Lib.run_eql_slice_nil (P := Try.prog) w 26 102 (some a) l.length cap 0 0 Try.underlying26
    have HSR := Lib.hid (HT.out.below ((Below.refl w.heap.size w).alloc (Nat.le_refl _) (Obj.cells #[] 102))).src
    have HON : Hid ((w.alloc (Obj.cells #[] 102)).ownsRow w.heap.size 102 3 (.slice (some ⟨w.heap.size, 0, none⟩) 0 0) 0 []) := World.ownsRow_made w #[] 0 (Nat.le_refl _) (by decide) rfl
    go_enter Try.func63, Try.ntmps63
    go_wp2_with (at_builtin; refine wpList_append_own _ rfl _ _ 26 rfl w.heap.size 102 i0 (.agg #[.int .i64 0, .int .i64 0, .int .i64 0]) 3 24 Try.underlying26 HI.out HZ0.out HZ1.out HZ2.out rfl (by decide) _ _ _ rfl HON.out a l.length cap (cellsT l) rfl (cellsT_len l) ?c1 ?c2 ?c3 ?c4 ?c5 ?_)
    case c1 => exact HSR.out
    case c2 => exact cellsT_one l
    case c3 => have := HL.out; unfold maxLen; omega
    case c4 => have := HL.out; omega
    case c5 => simp
    intro v1 w1 hown1 hgr _
    have HO1 := Lib.hid hown1; clear hown1
    have HG1 := Lib.hid hgr; clear hgr
    go_wp2_with fail
    go_ret
    refine ⟨_, rfl, ?_, ?_⟩
    · have := HO1.out
      simpa using this
    · exact ((Below.refl w.heap.size w).alloc (Nat.le_refl _) (Obj.cells #[] 102)).grown HG1.out (by simp) (fun k hk => by simp [Value.ownBlock] at hk; omega)
theorem own_slice {w : World} {base : Nat} {e : TypeId} {v : Value} {n : Nat} {xs : List Value} (h : w.ownsRow base e 3 v n xs) : ∃ p cap, v = .slice p n cap := by
  rcases h.2 with ⟨rfl, rfl⟩ | ⟨g, cap, cur, rfl, _⟩
  · exact ⟨none, 0, rfl⟩
  · exact ⟨_, cap, rfl⟩
def CB (w : World) (ns ps : Value) (m d : Int) (b : Bool) (W : World) : Prop := Below w.heap.size w W ∧ W.heap[w.heap.size]? = some (.cells #[ns, .int .i64 m, .int .i64 d, ps, .bool b] 28 (0, 0)) ∧
  W.heap[w.heap.size + 1]? = some (.cells #[.slice none 0 0, .int .i64 0, .int .i64 0, .slice none 0 0, .bool false] 28 (0, 0))
theorem CB.step {w : World} {ns ps : Value} {m d : Int} {b : Bool} {W W' : World} (h : CB w ns ps m d b W) (hb : Below W.heap.size W W') : CB w ns ps m d b W' :=
  ⟨h.1.trans (hb.mono h.1.size), (hb.block _ (blk_lt h.2.1)).trans h.2.1, (hb.block _ (blk_lt h.2.2)).trans h.2.2⟩
theorem CB.mk (w : World) (ns ps : Value) (m d : Int) (b : Bool) : CB w ns ps m d b ((w.alloc (Obj.cells #[ns, .int .i64 m, .int .i64 d, ps, .bool b] 28)).alloc (Obj.cells #[.slice none 0 0, .int .i64 0, .int .i64 0, .slice none 0 0, .bool false] 28)) := by
  have h1 : Below w.heap.size w (w.alloc (Obj.cells #[ns, .int .i64 m, .int .i64 d, ps, .bool b] 28)) := (Below.refl _ _).alloc (Nat.le_refl _) _
  have h2 := (Below.refl (w.alloc (Obj.cells #[ns, .int .i64 m, .int .i64 d, ps, .bool b] 28)).heap.size (w.alloc (Obj.cells #[ns, .int .i64 m, .int .i64 d, ps, .bool b] 28))).alloc (Nat.le_refl _) (Obj.cells #[.slice none 0 0, .int .i64 0, .int .i64 0, .slice none 0 0, .bool false] 28)
  have h3 := (MapKept.heap_alloc w (Obj.cells #[ns, .int .i64 m, .int .i64 d, ps, .bool b] 28)).1
  refine ⟨h1.trans (h2.mono h1.size), (h2.block _ (blk_lt h3)).trans h3, ?_⟩
  have h4 := (MapKept.heap_alloc (w.alloc (Obj.cells #[ns, .int .i64 m, .int .i64 d, ps, .bool b] 28)) (Obj.cells #[.slice none 0 0, .int .i64 0, .int .i64 0, .slice none 0 0, .bool false] 28)).1
  simpa using h4
theorem CB.after {w : World} {ns ps : Value} {m d : Int} {b : Bool} {W : World} (h : CB w ns ps m d b W) (v1 v2 : Value) :
    Below w.heap.size w ((W.setCell ⟨w.heap.size, 0, none⟩ v1).setCell ⟨w.heap.size, 3, none⟩ v2) ∧
    ((W.setCell ⟨w.heap.size, 0, none⟩ v1).setCell ⟨w.heap.size, 3, none⟩ v2).heap[w.heap.size]? = some (.cells #[v1, .int .i64 m, .int .i64 d, v2, .bool b] 28 (0, 0)) ∧
    ((W.setCell ⟨w.heap.size, 0, none⟩ v1).setCell ⟨w.heap.size, 3, none⟩ v2).heap[w.heap.size + 1]? = some (.cells #[.slice none 0 0, .int .i64 0, .int .i64 0, .slice none 0 0, .bool false] 28 (0, 0)) :=
  ⟨(h.1.setCell (p := ⟨w.heap.size, 0, none⟩) (Nat.le_refl _) _).setCell (p := ⟨w.heap.size, 3, none⟩) (Nat.le_refl _) _, blk_set (blk_set h.2.1 0 v1) 3 v2, blk_set_ne (blk_set_ne h.2.2 _ (by simp) _) _ (by simp) _⟩
theorem own_below {w w' : World} {base : Nat} {e : TypeId} {v : Value} {n : Nat} {xs : List Value} (h : w.ownsRow base e 3 v n xs) (hb : Below w.heap.size w w') : w'.ownsRow base e 3 v n xs := by
  refine ⟨h.1, ?_⟩
  rcases h.2 with h0 | ⟨g, cap, cur, h1, h2, h3, h4⟩
  · exact .inl h0
  · exact .inr ⟨g, cap, cur, h1, h2, (hb.block g (blk_lt h3)).trans h3, h4⟩
theorem ownsRow_base {W : World} {base base' : Nat} {e : TypeId} {size : Nat} {v : Value} {n : Nat} {xs : List Value} (h : W.ownsRow base e size v n xs) (hb : base' ≤ base) : W.ownsRow base' e size v n xs := by
  refine ⟨h.1, ?_⟩
  rcases h.2 with h0 | ⟨g, cap, cur, h1, h2, h3⟩
  · exact .inl h0
  · exact .inr ⟨g, cap, cur, h1, by omega, h3⟩
theorem five {W : World} {g : Nat} {a0 a1 a2 a3 a4 : Value} {t : TypeId} (h : W.heap[g]? = some (.cells #[a0, a1, a2, a3, a4] t (0, 0))) (v0 v1 v2 v3 v4 : Value) :
    (((((W.setCell ⟨g, 0, none⟩ v0).setCell ⟨g, 1, none⟩ v1).setCell ⟨g, 2, none⟩ v2).setCell ⟨g, 3, none⟩ v3).setCell ⟨g, 4, none⟩ v4).heap[g]? = some (.cells #[v0, v1, v2, v3, v4] t (0, 0)) ∧
    (∀ (B : Nat) (w0 : World), B ≤ g → Below B w0 W → Below B w0 (((((W.setCell ⟨g, 0, none⟩ v0).setCell ⟨g, 1, none⟩ v1).setCell ⟨g, 2, none⟩ v2).setCell ⟨g, 3, none⟩ v3).setCell ⟨g, 4, none⟩ v4)) ∧
    (∀ (B : Nat) (e : TypeId) (size : Nat) (v : Value) (n : Nat) (xs : List Value), g < B → W.ownsRow B e size v n xs → (((((W.setCell ⟨g, 0, none⟩ v0).setCell ⟨g, 1, none⟩ v1).setCell ⟨g, 2, none⟩ v2).setCell ⟨g, 3, none⟩ v3).setCell ⟨g, 4, none⟩ v4).ownsRow B e size v n xs) := by
  refine ⟨blk_set (blk_set (blk_set (blk_set (blk_set h 0 v0) 1 v1) 2 v2) 3 v3) 4 v4, fun B w0 hB hb => ?_, fun B e size v n xs hB ho => ?_⟩
  · exact ((((hb.setCell (p := ⟨g, 0, none⟩) hB _).setCell (p := ⟨g, 1, none⟩) hB _).setCell (p := ⟨g, 2, none⟩) hB _).setCell (p := ⟨g, 3, none⟩) hB _).setCell (p := ⟨g, 4, none⟩) hB _
  · exact ownsRow_setCell_below (a := ⟨g, 4, none⟩) (ownsRow_setCell_below (a := ⟨g, 3, none⟩) (ownsRow_setCell_below (a := ⟨g, 2, none⟩) (ownsRow_setCell_below (a := ⟨g, 1, none⟩) (ownsRow_setCell_below (a := ⟨g, 0, none⟩) ho hB _) hB _) hB _) hB _) hB _
set_option maxRecDepth 100000 in
set_option maxHeartbeats 4000000 in
theorem clone_at {w : World} {ns ps : Value} {l1 l2 : List (Int × Int × Int)} (hn : Tri w ns l1) (hp : Tri w ps l2) (h1 : l1.length ≤ 2000) (h2 : l2.length ≤ 2000) (m d : Int) (b : Bool) :
    Calls Try.prog 40 #[.agg #[ns, .int .i64 m, .int .i64 d, ps, .bool b]] w fun e w' => ∃ ns' ps', e = .returned (.agg #[ns', .int .i64 m, .int .i64 d, ps', .bool b]) ∧
      w'.ownsRow w.heap.size 99 3 ns' l1.length (cellsT l1) ∧ w'.ownsRow w.heap.size 102 3 ps' l2.length (cellsT l2) ∧ Below w.heap.size w w' := by
  have HC1 : Hid (∀ W, Below w.heap.size w W → Calls Try.prog 62 #[ns] W fun e w' => ∃ v', e = .returned v' ∧ w'.ownsRow W.heap.size 99 3 v' l1.length (cellsT l1) ∧ Below W.heap.size W w') := fun W h => clone62 (hn.below h) h1
  have HC2 : Hid (∀ W, Below w.heap.size w W → Calls Try.prog 63 #[ps] W fun e w' => ∃ v', e = .returned v' ∧ w'.ownsRow W.heap.size 102 3 v' l2.length (cellsT l2) ∧ Below W.heap.size W w') := fun W h => clone63 (hp.below h) h2
  clear hn hp h1 h2
  have HB0 : Hid (CB w ns ps m d b ((w.alloc (Obj.cells #[ns, .int .i64 m, .int .i64 d, ps, .bool b] 28)).alloc (Obj.cells #[.slice none 0 0, .int .i64 0, .int .i64 0, .slice none 0 0, .bool false] 28))) := CB.mk w ns ps m d b
  have HF : Hid (∀ W, CB w ns ps m d b W → W.cell? ⟨w.heap.size, 0, none⟩ = some ns ∧ W.cell? ⟨w.heap.size, 1, none⟩ = some (.int .i64 m) ∧ W.cell? ⟨w.heap.size, 2, none⟩ = some (.int .i64 d) ∧ W.cell? ⟨w.heap.size, 3, none⟩ = some ps ∧ W.cell? ⟨w.heap.size, 4, none⟩ = some (.bool b)) := fun W h => ⟨cell_blk h.2.1 0, cell_blk h.2.1 1, cell_blk h.2.1 2, cell_blk h.2.1 3, cell_blk h.2.1 4⟩
  have HFZ : Hid (∀ W, CB w ns ps m d b W → ∀ o, W.frozen? ⟨w.heap.size, o, none⟩ = false) := fun W h o => frozen_blk h.2.1 o
  go_enter Try.func40, Try.ntmps40
  go_upto_region 1 with fail
  generalize ((w.alloc (Obj.cells #[ns, .int .i64 m, .int .i64 d, ps, .bool b] 28)).alloc (Obj.cells #[.slice none 0 0, .int .i64 0, .int .i64 0, .slice none 0 0, .bool false] 28)) = W0 at *
  obtain ⟨c0, c1, c2, c3, c4⟩ := HF.out _ HB0.out
  have HBS : Hid (w.heap.size ≤ W0.drew.heap.size) := HB0.out.1.size
  have HBD : Hid (CB w ns ps m d b W0.drew) := HB0.out.step (Below.refl _ _).drew
  obtain ⟨x0, x1, x2, x3, x4⟩ := HF.out _ HBD.out
  go_region_with (first
    | (go_at_call 62; refine (HC1.out _ HBD.out.1).mono ?_; rintro e W1 ⟨v1, rfl, ho1, hb1⟩; obtain ⟨p1, k1, rfl⟩ := own_slice ho1; have HO1 := Lib.hid ho1; clear ho1; have HB1 := Lib.hid (HBD.out.step hb1); have HB1s := Lib.hid hb1.size; clear hb1; obtain ⟨y0, y1, y2, y3, y4⟩ := HF.out _ HB1.out)
    | (go_at_call 63; refine (HC2.out _ HB1.out.1).mono ?_; rintro e W2 ⟨v2, rfl, ho2, hb2⟩; obtain ⟨p2, k2, rfl⟩ := own_slice ho2; have HO2 := Lib.hid ho2; clear ho2; have HB2 := Lib.hid (HB1.out.step hb2); have HBB := Lib.hid hb2; clear hb2; obtain ⟨z0, z1, z2, z3, z4⟩ := HF.out _ HB2.out; have f0 := HFZ.out _ HB2.out 0; have f3 := HFZ.out _ HB2.out 3))
  all_goals
    obtain ⟨W3, hW3⟩ : ∃ W3, W3 = (W2.setCell { block := w.heap.size, off := 0 } (Value.slice p1 l1.length k1)).setCell { block := w.heap.size, off := 3 } (Value.slice p2 l2.length k2) := ⟨_, rfl⟩
    rw [← hW3]
    obtain ⟨hk1, hk2, hk3⟩ := CB.after HB2.out (Value.slice p1 l1.length k1) (Value.slice p2 l2.length k2)
    rw [← hW3] at hk1 hk2 hk3
    have hsz := blk_lt HBD.out.2.2
    have HSZ := Lib.hid hsz; clear hsz
    have HR1 : Hid (W3.ownsRow W0.drew.heap.size 99 3 (Value.slice p1 l1.length k1) l1.length (cellsT l1)) := by
      have := own_below HO1.out HBB.out
      rw [hW3]
      exact ownsRow_setCell_below (ownsRow_setCell_below this (a := { block := w.heap.size, off := 0 }) (Nat.lt_of_succ_lt HSZ.out) _) (a := { block := w.heap.size, off := 3 }) (Nat.lt_of_succ_lt HSZ.out) _
    have HR2 : Hid (W3.ownsRow W0.drew.heap.size 102 3 (Value.slice p2 l2.length k2) l2.length (cellsT l2)) := by
      rw [hW3]
      have := ownsRow_base HO2.out (base' := W0.drew.heap.size) HB1s.out
      exact ownsRow_setCell_below (ownsRow_setCell_below this (a := { block := w.heap.size, off := 0 }) (Nat.lt_of_succ_lt HSZ.out) _) (a := { block := w.heap.size, off := 3 }) (Nat.lt_of_succ_lt HSZ.out) _
    have HK1 := Lib.hid hk1
    have HK2 := Lib.hid hk2
    have HK3 := Lib.hid hk3
    clear hW3 hk1 hk2 hk3 z0 z1 z2 z3 z4 f0 f3 y0 y1 y2 y3 y4 x0 x1 x2 x3 x4 c0 c1 c2 c3 c4
    have c0 : W3.cell? ⟨w.heap.size, 0, none⟩ = some (Value.slice p1 l1.length k1) := cell_blk HK2.out 0
    have c1 : W3.cell? ⟨w.heap.size, 1, none⟩ = some (.int .i64 m) := cell_blk HK2.out 1
    have c2 : W3.cell? ⟨w.heap.size, 2, none⟩ = some (.int .i64 d) := cell_blk HK2.out 2
    have c3 : W3.cell? ⟨w.heap.size, 3, none⟩ = some (Value.slice p2 l2.length k2) := cell_blk HK2.out 3
    have c4 : W3.cell? ⟨w.heap.size, 4, none⟩ = some (.bool b) := cell_blk HK2.out 4
    have z0 : W3.cell? ⟨w.heap.size + 1, 0, none⟩ = some (.slice none 0 0) := cell_blk HK3.out 0
    have z1 : W3.cell? ⟨w.heap.size + 1, 1, none⟩ = some (.int .i64 0) := cell_blk HK3.out 1
    have z2 : W3.cell? ⟨w.heap.size + 1, 2, none⟩ = some (.int .i64 0) := cell_blk HK3.out 2
    have z3 : W3.cell? ⟨w.heap.size + 1, 3, none⟩ = some (.slice none 0 0) := cell_blk HK3.out 3
    have z4 : W3.cell? ⟨w.heap.size + 1, 4, none⟩ = some (.bool false) := cell_blk HK3.out 4
    have f0 : W3.frozen? ⟨w.heap.size + 1, 0, none⟩ = false := frozen_blk HK3.out 0
    have f1 : W3.frozen? ⟨w.heap.size + 1, 1, none⟩ = false := frozen_blk HK3.out 1
    have f2 : W3.frozen? ⟨w.heap.size + 1, 2, none⟩ = false := frozen_blk HK3.out 2
    have f3 : W3.frozen? ⟨w.heap.size + 1, 3, none⟩ = false := frozen_blk HK3.out 3
    have f4 : W3.frozen? ⟨w.heap.size + 1, 4, none⟩ = false := frozen_blk HK3.out 4
    go_wp2_with fail
    obtain ⟨W4, hW4⟩ : ∃ W4, W4 = (((((W3.setCell { block := w.heap.size + 1, off := 0 } (Value.slice p1 l1.length k1)).setCell { block := w.heap.size + 1, off := 1 } (Value.int IntKind.i64 m)).setCell { block := w.heap.size + 1, off := 2 } (Value.int IntKind.i64 d)).setCell { block := w.heap.size + 1, off := 3 } (Value.slice p2 l2.length k2)).setCell { block := w.heap.size + 1, off := 4 } (Value.bool b)) := ⟨_, rfl⟩
    rw [← hW4]
    obtain ⟨r1, r2, r3⟩ := five HK3.out (Value.slice p1 l1.length k1) (Value.int IntKind.i64 m) (Value.int IntKind.i64 d) (Value.slice p2 l2.length k2) (Value.bool b)
    rw [← hW4] at r1 r2 r3
    have c0 : W4.cell? ⟨w.heap.size + 1, 0, none⟩ = some (Value.slice p1 l1.length k1) := cell_blk r1 0
    have c1 : W4.cell? ⟨w.heap.size + 1, 1, none⟩ = some (.int .i64 m) := cell_blk r1 1
    have c2 : W4.cell? ⟨w.heap.size + 1, 2, none⟩ = some (.int .i64 d) := cell_blk r1 2
    have c3 : W4.cell? ⟨w.heap.size + 1, 3, none⟩ = some (Value.slice p2 l2.length k2) := cell_blk r1 3
    have c4 : W4.cell? ⟨w.heap.size + 1, 4, none⟩ = some (.bool b) := cell_blk r1 4
    refine bodyPost_ret (v := .agg #[Value.slice p1 l1.length k1, .int .i64 m, .int .i64 d, Value.slice p2 l2.length k2, .bool b]) (by simp [results, Try.results40, go_sem, c0, c1, c2, c3, c4]) rfl ⟨_, _, rfl, ?_, ?_, ?_⟩
    · exact ownsRow_base (r3 _ _ _ _ _ _ HSZ.out HR1.out) HBS.out
    · exact ownsRow_base (r3 _ _ _ _ _ _ HSZ.out HR2.out) HBS.out
    · exact r2 _ _ (Nat.le_succ _) HK1.out
end Go.Proofs.Ytgbafpjeapkklaa.Mb
namespace Go.Proofs.Ytgbafpjeapkklaa.Mb
open Go.RowKit
set_option linter.unusedVariables false
set_option linter.unusedSimpArgs false
def idx {α : Type} (f : α → Bool) (l : List α) : Int := match l.findIdx? f with | some i => (i : Int) | none => -1
theorem idx_found {α : Type} {f : α → Bool} {l : List α} {k : Nat} {x : α} (hx : l[k]? = some x) (hf : f x = true) (hno : ∀ j y, j < k → l[j]? = some y → f y = false) : idx f l = k := by
  have h : l.findIdx? f = some k := by
    obtain ⟨hlt, rfl⟩ := List.getElem?_eq_some_iff.1 hx
    rw [List.findIdx?_eq_some_iff_getElem]
    refine ⟨hlt, hf, fun j hj => ?_⟩
    simp [hno j (l[j]'(by omega)) hj (by simp [show j < l.length by omega])]
  simp [idx, h]
theorem idx_none {α : Type} {f : α → Bool} {l : List α} (hno : ∀ y ∈ l, f y = false) : idx f l = -1 := by
  have h : l.findIdx? f = none := by
    rw [List.findIdx?_eq_none_iff]
    exact hno
  simp [idx, h]
set_option maxRecDepth 100000 in
set_option maxHeartbeats 1000000 in
theorem push1_at (x0 x1 x2 p : Int) (X : Nat) (w : World) (hX : w.cell? ⟨X, 0, none⟩ = some (.int .i64 p)) :
    Calls Try.prog 61 #[.agg #[.int .i64 x0, .int .i64 x1, .int .i64 x2], .pointer (some ⟨X, 0, none⟩)] w fun e w' => e = .returned (.bool (x0 == p)) ∧ Below w.heap.size w w' := by
  have hl := World.block_lt_of_cell? _ _ hX
  have hX' : (w.alloc (Obj.cells #[.int .i64 x0, .int .i64 x1, .int .i64 x2] 102)).cell? ⟨X, 0, none⟩ = some (.int .i64 p) := (((Below.refl w.heap.size w).alloc (Nat.le_refl _) _).cell (p := ⟨X, 0, none⟩) hl).trans hX
  go_enter Try.func61, Try.ntmps61
  go_wp2_with fail
  go_ret
  exact ⟨rfl, (Below.refl _ _).alloc (Nat.le_refl _) _⟩
set_option maxRecDepth 100000 in
set_option maxHeartbeats 1000000 in
theorem index61_at {v : Value} {l : List (Int × Int × Int)} (hl : l.length ≤ 2000) (p : Int) (X : Nat) (w : World) (h1 : Tri w v l) (hX : w.cell? ⟨X, 0, none⟩ = some (.int .i64 p)) :
    Calls Try.prog 57 #[v, .func (.func 61) #[] #[.pointer (some ⟨X, 0, none⟩)]] w fun e w' => e = .returned (.int .i64 (idx (fun x => x.1 == p) l)) ∧ Below w.heap.size w w' := by
  obtain ⟨A, c, rfl, hc, h1⟩ := h1
  have hXl := World.block_lt_of_cell? _ _ hX
  have HX := Lib.hid hX; clear hX
  obtain ⟨R, hR⟩ : ∃ R, R = idx (fun x => x.1 == p) l := ⟨_, rfl⟩
  rw [← hR]
  have HR := Lib.hid hR; clear hR
  generalize hn : l.length = n at *
  have HN := Lib.hid hn; clear hn
  rcases h1 with rfl | ⟨g, off, rfl, hg, h1⟩
  · obtain rfl : n = 0 := by have := HN.out; simpa using this.symm
    obtain rfl : R = -1 := by rw [HR.out]; rfl
    go_enter Try.func57, Try.ntmps57
    go_wp2_with fail
    go_loop [8] (fun s => s = .int .i64 0) (fun _ => 0)
    case atStart => rfl
    case round =>
      obtain rfl := hrel
      go_wp2
      go_ret
      exact ⟨rfl, Below.refl _ _⟩
  have H1 := Lib.hid h1; clear h1
  go_enter Try.func57, Try.ntmps57
  go_wp2_with fail
  go_loopw [8] (fun s wr => ∃ k : Nat, k ≤ n ∧ s = .int .i64 k ∧ (∀ (j : Nat) (x : Int × Int × Int), j < k → l[j]? = some x → (x.1 == p) = false) ∧ Below w.heap.size w wr) (fun s _ => n - (intOf s).toNat)
  case atStart => exact ⟨0, by omega, rfl, fun j o hj => by omega, Below.refl _ _⟩
  case round =>
    obtain ⟨k, hk, rfl, hno, hb⟩ := hrel
    have HNO := Lib.hid hno; clear hno
    have HB := Lib.hid hb; clear hb
    by_cases hlt : k < n
    · have tl : decide ((k : Int) < (n : Int)) = true := decide_eq_true (by omega)
      obtain ⟨x, hx⟩ : ∃ x, l[k]? = some x := ⟨l[k]'(by rw [HN.out]; exact hlt), by simp⟩
      obtain ⟨a0, a1, a2⟩ := H1.out k x hx
      obtain ⟨x0, x1, x2⟩ := x
      have c0 : wr.cell? ⟨g, off + k * 3, none⟩ = some (.int .i64 x0) := (HB.out.cell (p := ⟨g, off + k * 3, none⟩) hg).trans a0
      have c1 : wr.cell? ⟨g, off + k * 3 + 1, none⟩ = some (.int .i64 x1) := (HB.out.cell (p := ⟨g, off + k * 3 + 1, none⟩) hg).trans a1
      have c2 : wr.cell? ⟨g, off + k * 3 + 2, none⟩ = some (.int .i64 x2) := (HB.out.cell (p := ⟨g, off + k * 3 + 2, none⟩) hg).trans a2
      have HX' : Hid (wr.cell? ⟨X, 0, none⟩ = some (.int .i64 p)) := (HB.out.cell (p := ⟨X, 0, none⟩) hXl).trans HX.out
      have HO := Lib.hid hx
      clear a0 a1 a2 hx
      go_wp2_with fail
      refine (push1_at x0 x1 x2 p X _ HX'.out).mono ?_
      rintro e w2 ⟨rfl, hb2⟩
      have HB2 : Hid (Below w.heap.size w w2) := HB.out.trans (hb2.mono HB.out.size)
      clear hb2 c0 c1 c2
      cases hn : (x0 == p) with
      | true =>
        have hany : R = k := by
          rw [HR.out]
          exact idx_found HO.out hn (fun j y hj hy => HNO.out j y hj hy)
        subst hany
        clear hn
        go_wp2
        go_ret
        exact ⟨rfl, HB2.out⟩
      | false =>
        have HF := Lib.hid hn; clear hn
        go_wp2
        go_roundw
        case rel =>
          refine ⟨k + 1, by omega, by go_num, fun j o' hj ho' => ?_, HB2.out⟩
          by_cases e : j = k
          · subst e; rw [HO.out] at ho'; cases ho'; exact HF.out
          · exact HNO.out j o' (by omega) ho'
        case measure => simp [intOf]; omega
    · obtain rfl : k = n := by omega
      have hany : R = -1 := by
        rw [HR.out]
        refine idx_none fun y hy => ?_
        obtain ⟨j, hj, e⟩ := List.getElem_of_mem hy
        rw [HN.out] at hj
        exact HNO.out j y hj (by rw [← e]; simp)
      subst hany
      go_wp2
      go_ret
      exact ⟨rfl, HB.out⟩
set_option maxRecDepth 100000 in
set_option maxHeartbeats 1000000 in
theorem push_at {ns ps : Value} {l : List (Int × Int × Int)} (hl : l.length ≤ 2000) (m d : Int) (b : Bool) (p : Int) (w : World) (hp : Tri w ps l) :
    Calls Try.prog 39 #[.agg #[ns, .int .i64 m, .int .i64 d, ps, .bool b], .int .i64 p] w fun e w' => e = .returned (.int .i64 (idx (fun x => x.1 == p) l)) ∧ Below w.heap.size w w' := by
  have h1 : Below w.heap.size w (w.alloc (Obj.cells #[ns, .int .i64 m, .int .i64 d, ps, .bool b] 28)) := (Below.refl _ _).alloc (Nat.le_refl _) _
  have h2 := (Below.refl (w.alloc (Obj.cells #[ns, .int .i64 m, .int .i64 d, ps, .bool b] 28)).heap.size (w.alloc (Obj.cells #[ns, .int .i64 m, .int .i64 d, ps, .bool b] 28))).alloc (Nat.le_refl _) (Obj.cells #[.int .i64 p] 3)
  have h3 := (MapKept.heap_alloc w (Obj.cells #[ns, .int .i64 m, .int .i64 d, ps, .bool b] 28)).1
  have h4 := (MapKept.heap_alloc (w.alloc (Obj.cells #[ns, .int .i64 m, .int .i64 d, ps, .bool b] 28)) (Obj.cells #[.int .i64 p] 3)).1
  have hsz : (w.alloc (Obj.cells #[ns, .int .i64 m, .int .i64 d, ps, .bool b] 28)).heap.size = w.heap.size + 1 := by simp
  obtain ⟨A, c, hA⟩ := hp.slice
  subst hA
  obtain ⟨W0, hW0⟩ : ∃ W0, W0 = (w.alloc (Obj.cells #[ns, .int .i64 m, .int .i64 d, Value.slice A l.length c, .bool b] 28)).alloc (Obj.cells #[.int .i64 p] 3) := ⟨_, rfl⟩
  rw [← hW0] at h2 h4
  rw [hsz] at h4
  have HB0 : Hid (Below w.heap.size w W0) := h1.trans (h2.mono h1.size)
  have c3 : W0.cell? ⟨w.heap.size, 3, none⟩ = some (Value.slice A l.length c) := cell_blk ((h2.block _ (blk_lt h3)).trans h3) 3
  have HP := Lib.hid (hp.below HB0.out)
  have HX : Hid (W0.cell? ⟨w.heap.size + 1, 0, none⟩ = some (.int .i64 p)) := cell_blk h4 0
  clear h1 h2 h3 h4 hsz hp
  obtain ⟨R, hR⟩ : ∃ R, R = idx (fun x => x.1 == p) l := ⟨_, rfl⟩
  rw [← hR]
  go_enter Try.func39, Try.ntmps39
  go_upto_region 1 with fail
  rw [← hW0]
  clear hW0
  go_wp2_with fail
  refine (index61_at hl p (w.heap.size + 1) _ HP.out HX.out).mono ?_
  rw [← hR]
  rintro e w2 ⟨he, hb2⟩
  subst he
  have HB2 : Hid (Below w.heap.size w w2) := HB0.out.trans (hb2.mono HB0.out.size)
  clear hb2
  go_wp2_with fail
  go_ret
  exact ⟨by rw [hR]; rfl, HB2.out⟩
set_option maxRecDepth 100000 in
set_option maxHeartbeats 1000000 in
theorem pop_no {g gn off n cap : Nat} {m : Int} {d : Nat} {ps : Value} {b : Bool} (W : World) (hg : W.heap[g]? = some (.cells #[.slice (some ⟨gn, off, none⟩) n cap, .int .i64 m, .int .i64 d, ps, .bool b] 28 (0, 0)))
    (hd : d < n) (hx : W.cell? ⟨gn, off + d * 3 + 2, none⟩ = some (.int .i64 (-1))) :
    Calls Try.prog 43 #[.pointer (some ⟨g, 0, none⟩)] W fun e w' => e = .returned (.tuple #[.int .i64 0, .bool false]) ∧ Below W.heap.size W w' := by
  have c0 : W.cell? ⟨g, 0, none⟩ = some (.slice (some ⟨gn, off, none⟩) n cap) := cell_blk hg 0
  have c2 : W.cell? ⟨g, 2, none⟩ = some (.int .i64 d) := cell_blk hg 2
  have hdl : decide ((d : Int) < (n : Int)) = true := decide_eq_true (by omega)
  have hdn : (d : Int) < (n : Int) := by omega
  clear hg
  go_enter Try.func43, Try.ntmps43
  go_wp2_with fail
  go_quiet (fail)
  go_wp2_with fail
  go_ret2
  exact ⟨rfl, below_drewN (Below.refl _ _) _⟩
set_option maxRecDepth 100000 in
set_option maxHeartbeats 1000000 in
theorem pop_yes {g gn off n cap : Nat} {m : Int} {d k : Nat} {v : Int} {ps : Value} {b : Bool} (W : World) (hg : W.heap[g]? = some (.cells #[.slice (some ⟨gn, off, none⟩) n cap, .int .i64 m, .int .i64 d, ps, .bool b] 28 (0, 0)))
    (hne : gn ≠ g) (hd : d < n) (hk : k < n) (hx : W.cell? ⟨gn, off + d * 3 + 2, none⟩ = some (.int .i64 (k : Int))) (hv : W.cell? ⟨gn, off + k * 3, none⟩ = some (.int .i64 v)) :
    Calls Try.prog 43 #[.pointer (some ⟨g, 0, none⟩)] W fun e w' => e = .returned (.tuple #[.int .i64 v, .bool true]) ∧ ∃ W1, Below W.heap.size W W1 ∧ w' = W1.setCell ⟨g, 2, none⟩ (.int .i64 (k : Int)) := by
  have c0 : W.cell? ⟨g, 0, none⟩ = some (.slice (some ⟨gn, off, none⟩) n cap) := cell_blk hg 0
  have c2 : W.cell? ⟨g, 2, none⟩ = some (.int .i64 d) := cell_blk hg 2
  have hdl : decide ((d : Int) < (n : Int)) = true := decide_eq_true (by omega)
  have hdn : (d : Int) < (n : Int) := by omega
  have hkl : decide ((k : Int) < (n : Int)) = true := decide_eq_true (by omega)
  have hkn : (k : Int) < (n : Int) := by omega
  have HG := Lib.hid hg; clear hg
  go_enter Try.func43, Try.ntmps43
  go_wp2_with fail
  go_quiet (fail)
  have f2 : W.frozen? ⟨g, 2, none⟩ = false := frozen_blk HG.out 2
  go_wp2_with fail
  go_ret2
  exact ⟨rfl, W.drewN nq, below_drewN (Below.refl _ _) _, rfl⟩
end Go.Proofs.Ytgbafpjeapkklaa.Mb
namespace Go.Proofs.Ytgbafpjeapkklaa.Mb
open Go.RowKit
set_option linter.unusedVariables false
set_option linter.unusedSimpArgs false
def TriT (w : World) (e : TypeId) (v : Value) (l : List (Int × Int × Int)) : Prop := Tri w v l ∧ ∀ g, v.ownBlock = some g → ∃ cur f, w.heap[g]? = some (.cells cur e f)
theorem TriT.below {w w' : World} {e : TypeId} {v : Value} {l : List (Int × Int × Int)} (h : TriT w e v l) (hb : Below w.heap.size w w') : TriT w' e v l :=
  ⟨h.1.below hb, fun g hg => by obtain ⟨cur, f, hc⟩ := h.2 g hg; exact ⟨cur, f, (hb.block g (blk_lt hc)).trans hc⟩⟩
theorem TriT.slice {w : World} {e : TypeId} {v : Value} {l : List (Int × Int × Int)} (h : TriT w e v l) : ∃ p cap, v = .slice p l.length cap := h.1.slice
theorem own_triT {w : World} {base : Nat} {e : TypeId} {v : Value} {n : Nat} {l : List (Int × Int × Int)} (hn : n = l.length) (h : w.ownsRow base e 3 v n (cellsT l)) : TriT w e v l := by
  refine ⟨own_tri hn h, fun g hg => ?_⟩
  rcases h.2 with ⟨rfl, _⟩ | ⟨g', cap, cur, rfl, _, hgg, _⟩
  · simp [Value.ownBlock] at hg
  · simp [Value.ownBlock] at hg
    subst hg
    exact ⟨cur, _, hgg⟩
def St (w : World) (v : Value) (q : Q) : Prop := ∃ ns ps, v = .agg #[ns, .int .i64 q.m, .int .i64 q.done, ps, .bool q.empty] ∧ TriT w 99 ns q.nodes ∧ TriT w 102 ps q.pushes
structure CO (w : World) (ns ps : Value) (m d : Int) (b : Bool) (g B : Nat) (ns' ps' : Value) (l1 l2 : List (Int × Int × Int)) (m' d' : Int) (b' : Bool) (W : World) : Prop where
  cb : CB w ns ps m d b W
  box : W.heap[g]? = some (.cells #[ns', .int .i64 m', .int .i64 d', ps', .bool b'] 28 (0, 0))
  low : w.heap.size + 2 ≤ B
  lowg : B ≤ g
  r1 : W.ownsRow B 99 3 ns' l1.length (cellsT l1)
  r2 : W.ownsRow B 102 3 ps' l2.length (cellsT l2)
theorem CO.step {w : World} {ns ps : Value} {m d : Int} {b : Bool} {g B : Nat} {ns' ps' : Value} {l1 l2 : List (Int × Int × Int)} {m' d' : Int} {b' : Bool} {W W' : World} (h : CO w ns ps m d b g B ns' ps' l1 l2 m' d' b' W) (hb : Below W.heap.size W W') :
    CO w ns ps m d b g B ns' ps' l1 l2 m' d' b' W' :=
  ⟨h.cb.step hb, (hb.block _ (blk_lt h.box)).trans h.box, h.low, h.lowg, own_below h.r1 hb, own_below h.r2 hb⟩
theorem CB.size {w : World} {ns ps : Value} {m d : Int} {b : Bool} {W : World} (h : CB w ns ps m d b W) : w.heap.size + 2 ≤ W.heap.size := by
  have := blk_lt h.2.2; omega
theorem own_ne {W : World} {B g : Nat} {e t : TypeId} {v : Value} {n : Nat} {xs : List Value} {C : Array Value} {f : Nat × Nat} (h : W.ownsRow B e 3 v n xs) (hg : W.heap[g]? = some (.cells C t f)) (ht : e ≠ t) : v.ownBlock ≠ some g := by
  intro hv
  rcases h.2 with ⟨rfl, _⟩ | ⟨g', cap, cur, rfl, _, hgg, _⟩
  · simp [Value.ownBlock] at hv
  · simp [Value.ownBlock] at hv
    subst hv
    rw [hgg] at hg
    injection hg with hg
    injection hg with _ h2 _
    exact ht h2
theorem own_set {W : World} {B g : Nat} {e t : TypeId} {v : Value} {n : Nat} {xs : List Value} {C : Array Value} {f : Nat × Nat} (h : W.ownsRow B e 3 v n xs) (hg : W.heap[g]? = some (.cells C t f)) (ht : e ≠ t) (o : Nat) (u : Value) : (W.setCell ⟨g, o, none⟩ u).ownsRow B e 3 v n xs := by
  have hne := own_ne h hg ht
  refine ⟨h.1, ?_⟩
  rcases h.2 with h0 | ⟨g', cap, cur, h1, h2, h3, h4⟩
  · exact .inl h0
  · refine .inr ⟨g', cap, cur, h1, h2, ?_, h4⟩
    subst h1
    exact blk_set_ne h3 _ (by intro e; apply hne; simp [Value.ownBlock]; exact e) _
theorem CO.set {w : World} {ns ps : Value} {m d : Int} {b : Bool} {g B : Nat} {ns' ps' : Value} {l1 l2 : List (Int × Int × Int)} {m' d' : Int} {b' : Bool} {W : World} (h : CO w ns ps m d b g B ns' ps' l1 l2 m' d' b' W) (o : Nat) (u : Value) :
    CB w ns ps m d b (W.setCell ⟨g, o, none⟩ u) ∧ (W.setCell ⟨g, o, none⟩ u).ownsRow B 99 3 ns' l1.length (cellsT l1) ∧ (W.setCell ⟨g, o, none⟩ u).ownsRow B 102 3 ps' l2.length (cellsT l2) := by
  have := h.low
  have := h.lowg
  refine ⟨⟨h.cb.1.setCell (p := ⟨g, o, none⟩) (by show w.heap.size ≤ g; omega) _, blk_set_ne h.cb.2.1 ⟨g, o, none⟩ (by show w.heap.size ≠ g; omega) _, blk_set_ne h.cb.2.2 ⟨g, o, none⟩ (by show w.heap.size + 1 ≠ g; omega) _⟩, own_set h.r1 h.box (by decide) _ _, own_set h.r2 h.box (by decide) _ _⟩
theorem CO.set4 {w : World} {ns ps : Value} {m d : Int} {b : Bool} {g B : Nat} {ns' ps' : Value} {l1 l2 : List (Int × Int × Int)} {m' d' : Int} {b' : Bool} {W : World} (h : CO w ns ps m d b g B ns' ps' l1 l2 m' d' b' W) (c : Bool) :
    CO w ns ps m d b g B ns' ps' l1 l2 m' d' c (W.setCell ⟨g, 4, none⟩ (.bool c)) :=
  ⟨(h.set 4 _).1, blk_set h.box 4 _, h.low, h.lowg, (h.set 4 _).2.1, (h.set 4 _).2.2⟩
theorem CO.set2 {w : World} {ns ps : Value} {m d : Int} {b : Bool} {g B : Nat} {ns' ps' : Value} {l1 l2 : List (Int × Int × Int)} {m' d' : Int} {b' : Bool} {W : World} (h : CO w ns ps m d b g B ns' ps' l1 l2 m' d' b' W) (c : Int) :
    CO w ns ps m d b g B ns' ps' l1 l2 m' c b' (W.setCell ⟨g, 2, none⟩ (.int .i64 c)) :=
  ⟨(h.set 2 _).1, blk_set h.box 2 _, h.low, h.lowg, (h.set 2 _).2.1, (h.set 2 _).2.2⟩
theorem CO.set1 {w : World} {ns ps : Value} {m d : Int} {b : Bool} {g B : Nat} {ns' ps' : Value} {l1 l2 : List (Int × Int × Int)} {m' d' : Int} {b' : Bool} {W : World} (h : CO w ns ps m d b g B ns' ps' l1 l2 m' d' b' W) (c : Int) :
    CO w ns ps m d b g B ns' ps' l1 l2 c d' b' (W.setCell ⟨g, 1, none⟩ (.int .i64 c)) :=
  ⟨(h.set 1 _).1, blk_set h.box 1 _, h.low, h.lowg, (h.set 1 _).2.1, (h.set 1 _).2.2⟩
theorem CO.made {w : World} {ns ps : Value} {m d : Int} {b : Bool} {B : Nat} {ns' ps' : Value} {l1 l2 : List (Int × Int × Int)} {W : World} (m' d' : Int) (b' : Bool) (h : CB w ns ps m d b W) (hB : w.heap.size + 2 ≤ B) (hBW : B ≤ W.heap.size)
    (r1 : W.ownsRow B 99 3 ns' l1.length (cellsT l1)) (r2 : W.ownsRow B 102 3 ps' l2.length (cellsT l2)) :
    ∃ g W', g = W.heap.size ∧ W' = W.alloc (Obj.cells #[ns', .int .i64 m', .int .i64 d', ps', .bool b'] 28) ∧ CO w ns ps m d b g B ns' ps' l1 l2 m' d' b' W' := by
  have ha : Below W.heap.size W (W.alloc (Obj.cells #[ns', .int .i64 m', .int .i64 d', ps', .bool b'] 28)) := (Below.refl _ _).alloc (Nat.le_refl _) _
  have hn := (MapKept.heap_alloc W (Obj.cells #[ns', .int .i64 m', .int .i64 d', ps', .bool b'] 28)).1
  exact ⟨_, _, rfl, rfl, h.step ha, hn, hB, hBW, own_below r1 ha, own_below r2 ha⟩
theorem CO.out {w : World} {ns ps : Value} {m d : Int} {b : Bool} {g B : Nat} {ns' ps' : Value} {l1 l2 : List (Int × Int × Int)} {m' d' : Int} {b' : Bool} {W : World} (h : CO w ns ps m d b g B ns' ps' l1 l2 m' d' b' W) {W' : World}
    (hW : W' = (((((W.setCell ⟨w.heap.size + 1, 0, none⟩ ns').setCell ⟨w.heap.size + 1, 1, none⟩ (.int .i64 m')).setCell ⟨w.heap.size + 1, 2, none⟩ (.int .i64 d')).setCell ⟨w.heap.size + 1, 3, none⟩ ps').setCell ⟨w.heap.size + 1, 4, none⟩ (.bool b'))) :
    Below w.heap.size w W' ∧ W'.heap[w.heap.size + 1]? = some (.cells #[ns', .int .i64 m', .int .i64 d', ps', .bool b'] 28 (0, 0)) ∧ TriT W' 99 ns' l1 ∧ TriT W' 102 ps' l2 := by
  subst hW
  have := h.low
  obtain ⟨f1, f2, f3⟩ := five h.cb.2.2 ns' (.int .i64 m') (.int .i64 d') ps' (.bool b')
  exact ⟨f2 _ _ (Nat.le_succ _) h.cb.1, f1, own_triT rfl (f3 _ _ _ _ _ _ (by omega) h.r1), own_triT rfl (f3 _ _ _ _ _ _ (by omega) h.r2)⟩
theorem CO.facts {w : World} {ns ps : Value} {m d : Int} {b : Bool} {g B : Nat} {ns' ps' : Value} {l1 l2 : List (Int × Int × Int)} {m' d' : Int} {b' : Bool} {W : World} (h : CO w ns ps m d b g B ns' ps' l1 l2 m' d' b' W) :
    W.cell? ⟨g, 0, none⟩ = some ns' ∧ W.cell? ⟨g, 1, none⟩ = some (.int .i64 m') ∧ W.cell? ⟨g, 2, none⟩ = some (.int .i64 d') ∧ W.cell? ⟨g, 3, none⟩ = some ps' ∧ W.cell? ⟨g, 4, none⟩ = some (.bool b') ∧
    W.cell? ⟨w.heap.size + 1, 0, none⟩ = some (.slice none 0 0) ∧ W.cell? ⟨w.heap.size + 1, 1, none⟩ = some (.int .i64 0) ∧ W.cell? ⟨w.heap.size + 1, 2, none⟩ = some (.int .i64 0) ∧ W.cell? ⟨w.heap.size + 1, 3, none⟩ = some (.slice none 0 0) ∧ W.cell? ⟨w.heap.size + 1, 4, none⟩ = some (.bool false) :=
  ⟨cell_blk h.box 0, cell_blk h.box 1, cell_blk h.box 2, cell_blk h.box 3, cell_blk h.box 4, cell_blk h.cb.2.2 0, cell_blk h.cb.2.2 1, cell_blk h.cb.2.2 2, cell_blk h.cb.2.2 3, cell_blk h.cb.2.2 4⟩
theorem CO.frozen {w : World} {ns ps : Value} {m d : Int} {b : Bool} {g B : Nat} {ns' ps' : Value} {l1 l2 : List (Int × Int × Int)} {m' d' : Int} {b' : Bool} {W : World} (h : CO w ns ps m d b g B ns' ps' l1 l2 m' d' b' W) (o : Nat) :
    W.frozen? ⟨g, o, none⟩ = false ∧ W.frozen? ⟨w.heap.size + 1, o, none⟩ = false := ⟨frozen_blk h.box o, frozen_blk h.cb.2.2 o⟩
theorem CB.facts {w : World} {ns ps : Value} {m d : Int} {b : Bool} {W : World} (h : CB w ns ps m d b W) :
    W.cell? ⟨w.heap.size, 0, none⟩ = some ns ∧ W.cell? ⟨w.heap.size, 1, none⟩ = some (.int .i64 m) ∧ W.cell? ⟨w.heap.size, 2, none⟩ = some (.int .i64 d) ∧ W.cell? ⟨w.heap.size, 3, none⟩ = some ps ∧ W.cell? ⟨w.heap.size, 4, none⟩ = some (.bool b) :=
  ⟨cell_blk h.2.1 0, cell_blk h.2.1 1, cell_blk h.2.1 2, cell_blk h.2.1 3, cell_blk h.2.1 4⟩
set_option maxRecDepth 100000 in
set_option maxHeartbeats 4000000 in
theorem mark_at {q : Q} (hq : WF q) {v : Value} (w : World) (hv : St w v q) :
    Calls Try.prog 13 #[v] w fun e w' => ∃ v', e = .returned (.tuple #[v', .bool (decide (q.done = q.m)), .int .i64 0]) ∧ St w' v' { q with empty := decide (q.done = q.m) } ∧ Below w.heap.size w w' := by
  obtain ⟨ns, ps, rfl, hn, hp⟩ := hv
  have hfew := hq.few
  have hfo := hq.fewo
  have HCK : Hid (∀ W, Below w.heap.size w W → Calls Try.prog 18 #[.agg #[ns, .int .i64 q.m, .int .i64 q.done, ps, .bool q.empty]] W fun e w' => e = .returned (.int .i64 0) ∧ Below W.heap.size W w') := fun W h => check_at hq ns ps W (hn.below h).1 (hp.below h).1
  have HCL : Hid (∀ W, Below w.heap.size w W → Calls Try.prog 40 #[.agg #[ns, .int .i64 q.m, .int .i64 q.done, ps, .bool q.empty]] W fun e w' => ∃ ns' ps', e = .returned (.agg #[ns', .int .i64 q.m, .int .i64 q.done, ps', .bool q.empty]) ∧
      w'.ownsRow W.heap.size 99 3 ns' q.nodes.length (cellsT q.nodes) ∧ w'.ownsRow W.heap.size 102 3 ps' q.pushes.length (cellsT q.pushes) ∧ Below W.heap.size W w') :=
    fun W h => clone_at (hn.below h).1 (hp.below h).1 (by rw [nodes_len]; omega) (by rw [pushes_len]; omega) _ _ _
  have HB0 : Hid (CB w ns ps q.m q.done q.empty ((w.alloc (Obj.cells #[ns, .int .i64 q.m, .int .i64 q.done, ps, .bool q.empty] 28)).alloc (Obj.cells #[.slice none 0 0, .int .i64 0, .int .i64 0, .slice none 0 0, .bool false] 28))) := CB.mk w ns ps q.m q.done q.empty
  obtain ⟨pn, cn, hA⟩ := hn.slice
  obtain ⟨pp, cp, hB⟩ := hp.slice
  subst hA
  subst hB
  clear hn hp
  obtain ⟨t, ht⟩ : ∃ t : Bool, t = decide (q.done = q.m) := ⟨_, rfl⟩
  have et : ((q.done : Int) == (q.m : Int)) = t := by
    rw [ht]
    by_cases h : q.done = q.m
    · simp [h]
    · simp [h]; omega
  rw [← ht]
  have HTT := Lib.hid ht; clear ht
  have HNQ : Hid ({ q with empty := t }.nodes = q.nodes ∧ { q with empty := t }.pushes = q.pushes) := ⟨rfl, rfl⟩
  generalize hM : q.m = M at *
  generalize hD : q.done = D at *
  go_enter Try.func13, Try.ntmps13
  go_upto_region 1 with fail
  generalize ((w.alloc (Obj.cells #[.slice pn q.nodes.length cn, .int .i64 M, .int .i64 D, .slice pp q.pushes.length cp, .bool q.empty] 28)).alloc (Obj.cells #[.slice none 0 0, .int .i64 0, .int .i64 0, .slice none 0 0, .bool false] 28)) = W0 at *
  obtain ⟨c0, c1, c2, c3, c4⟩ := HB0.out.facts
  go_wp2_with fail
  refine (HCK.out _ HB0.out.1).mono ?_
  rintro e W1 ⟨rfl, hb1⟩
  have HB1 := Lib.hid (HB0.out.step hb1)
  clear hb1 c0 c1 c2 c3 c4
  obtain ⟨c0, c1, c2, c3, c4⟩ := HB1.out.facts
  go_wp2_with fail
  refine (HCL.out _ HB1.out.1).mono ?_
  rintro e W2 ⟨ns', ps', rfl, r1, r2, hb2⟩
  obtain ⟨pn', cn', hA⟩ := own_slice r1
  obtain ⟨pp', cp', hB⟩ := own_slice r2
  subst hA
  subst hB
  have HB2 := Lib.hid (HB1.out.step hb2)
  obtain ⟨g, W3, hg, hW3, hC3⟩ := CO.made M D q.empty HB2.out HB1.out.size hb2.size r1 r2
  have HC3 := Lib.hid hC3
  clear hb2 r1 r2 c0 c1 c2 c3 c4 hC3
  go_upto_region 5 with fail
  rw [← hg, ← hW3]
  clear hg hW3
  obtain ⟨c0, c1, c2, c3, c4⟩ := HC3.out.cb.facts
  have f4 := (HC3.out.frozen 4).1
  obtain ⟨y0, y1, y2, y3, y4, _⟩ := HC3.out.facts
  go_upto_region 6 with fail
  clear c0 c1 c2 c3 c4 f4 y0 y1 y2 y3 y4
  have HC4 := Lib.hid (HC3.out.set4 t)
  generalize W3.setCell ⟨g, 4, none⟩ (.bool t) = W4 at *
  obtain ⟨y0, y1, y2, y3, y4, z0, z1, z2, z3, z4⟩ := HC4.out.facts
  have f0 := (HC4.out.frozen 0).2
  have f1 := (HC4.out.frozen 1).2
  have f2 := (HC4.out.frozen 2).2
  have f3 := (HC4.out.frozen 3).2
  have f4 := (HC4.out.frozen 4).2
  have hne : ¬ g = w.heap.size + 1 := by have := HC4.out.low; have := HC4.out.lowg; omega
  have hne' : ¬ w.heap.size + 1 = g := fun e => hne e.symm
  go_region
  obtain ⟨W5, hW5⟩ : ∃ W5, W5 = (((((W4.setCell ⟨w.heap.size + 1, 0, none⟩ (.slice pn' q.nodes.length cn')).setCell ⟨w.heap.size + 1, 1, none⟩ (.int .i64 M)).setCell ⟨w.heap.size + 1, 2, none⟩ (.int .i64 D)).setCell ⟨w.heap.size + 1, 3, none⟩ (.slice pp' q.pushes.length cp')).setCell ⟨w.heap.size + 1, 4, none⟩ (.bool t)) := ⟨_, rfl⟩
  rw [← hW5]
  obtain ⟨k1, k2, k3, k4⟩ := HC4.out.out hW5
  have K1 := Lib.hid k1
  have K3 := Lib.hid k3
  have K4 := Lib.hid k4
  clear y0 y1 y2 y3 y4 z0 z1 z2 z3 z4 f0 f1 f2 f3 f4 k1 k3 k4 hW5
  have c0 : W5.cell? ⟨w.heap.size + 1, 0, none⟩ = some (.slice pn' q.nodes.length cn') := cell_blk k2 0
  have c1 : W5.cell? ⟨w.heap.size + 1, 1, none⟩ = some (.int .i64 M) := cell_blk k2 1
  have c2 : W5.cell? ⟨w.heap.size + 1, 2, none⟩ = some (.int .i64 D) := cell_blk k2 2
  have c3 : W5.cell? ⟨w.heap.size + 1, 3, none⟩ = some (.slice pp' q.pushes.length cp') := cell_blk k2 3
  have c4 : W5.cell? ⟨w.heap.size + 1, 4, none⟩ = some (.bool t) := cell_blk k2 4
  go_wp2_with fail
  refine bodyPost_ret (v := .tuple #[.agg #[.slice pn' q.nodes.length cn', .int .i64 M, .int .i64 D, .slice pp' q.pushes.length cp', .bool t], .bool t, .int .i64 0]) (by simp [results, Try.results13, go_sem, c0, c1, c2, c3, c4]) rfl ⟨_, rfl, ⟨_, _, by subst hM; subst hD; rfl, ?_, ?_⟩, ?_⟩
  · exact K3.out
  · exact K4.out
  · exact K1.out.drew
end Go.Proofs.Ytgbafpjeapkklaa.Mb
namespace Go.Proofs.Ytgbafpjeapkklaa.Mb
open Go.RowKit
set_option linter.unusedVariables false
set_option linter.unusedSimpArgs false
def Q.can (q : Q) (d : Nat) : Bool := decide (d < q.m) && !q.isOpen (d + 1)
def Q.val (q : Q) (i : Nat) : Int := (q.vals.getD i (0, 0)).1
def ints (l : List Int) : List Value := l.map (Value.int .i64)
theorem node_nxt (q : Q) (d : Nat) : (q.node d).2.2 = if q.can d then (d : Int) + 1 else -1 := by
  have e : (q.node d).2.2 = q.nxt d := by unfold Q.node; split <;> simp_all
  rw [e]
  unfold Q.nxt Q.can
  by_cases h : d < q.m
  · cases ho : q.isOpen (d + 1) <;> simp [h]
  · simp [h]
theorem node_val (q : Q) (d : Nat) : (q.node (d + 1)).1 = q.val d := by simp [Q.node, Q.val]
abbrev COq (w : World) (ns ps : Value) (m d : Int) (b : Bool) (g B : Nat) (ns' ps' : Value) (q : Q) (d' : Nat) (W : World) : Prop := CO w ns ps m d b g B ns' ps' q.nodes q.pushes q.m d' q.empty W
theorem own_some {W : World} {B : Nat} {e : TypeId} {v : Value} {n : Nat} {l : List (Int × Int × Int)} (hn : n = l.length) (h : W.ownsRow B e 3 v n (cellsT l)) (h0 : 0 < n) : ∃ gn cap, v = .slice (some ⟨gn, 0, none⟩) n cap ∧ B ≤ gn ∧ n ≤ cap ∧
    (∃ cur, W.heap[gn]? = some (.cells cur e (0, 0))) ∧ ∀ k x, l[k]? = some x → W.cell? ⟨gn, k * 3, none⟩ = some (.int .i64 x.1) ∧ W.cell? ⟨gn, k * 3 + 1, none⟩ = some (.int .i64 x.2.1) ∧ W.cell? ⟨gn, k * 3 + 2, none⟩ = some (.int .i64 x.2.2) := by
  have hc := fun g hg => h.cells (g := g) hg
  rcases h.2 with ⟨rfl, h1⟩ | ⟨g, cap, cur, rfl, hb, hg, hcap, _⟩
  · omega
  · refine ⟨g, cap, rfl, hb, hcap, ⟨cur, hg⟩, fun k x hx => ?_⟩
    obtain ⟨a, b, c⟩ := cellsT_get l k x hx
    have h1 := hc g rfl _ _ a
    have h2 := hc g rfl _ _ b
    have h3 := hc g rfl _ _ c
    rw [Addr.add_lit] at h1 h2 h3
    simp only [Nat.zero_add] at h1 h2 h3
    exact ⟨h1, h2, h3⟩
theorem pop_no' {w : World} {ns ps : Value} {m d : Int} {b : Bool} {g B : Nat} {ns' ps' : Value} {q : Q} {d' : Nat} {W : World} (h : COq w ns ps m d b g B ns' ps' q d' W) (hd : d' ≤ q.m) (hc : q.can d' = false) :
    Calls Try.prog 43 #[.pointer (some ⟨g, 0, none⟩)] W fun e w' => e = .returned (.tuple #[.int .i64 0, .bool false]) ∧ COq w ns ps m d b g B ns' ps' q d' w' ∧ Below W.heap.size W w' := by
  obtain ⟨gn, cap, rfl, h1, h2, _, h3⟩ := own_some rfl h.r1 (by rw [nodes_len]; omega)
  obtain ⟨_, _, z⟩ := h3 d' _ (nodes_get hd)
  rw [node_nxt, hc, if_neg (by simp)] at z
  refine (pop_no (off := 0) W h.box (by rw [nodes_len]; omega) (by rw [Nat.zero_add]; exact z)).mono ?_
  rintro e w' ⟨h4, h5⟩
  exact ⟨h4, CO.step h h5, h5⟩
theorem pop_yes' {w : World} {ns ps : Value} {m d : Int} {b : Bool} {g B : Nat} {ns' ps' : Value} {q : Q} {d' : Nat} {W : World} (h : COq w ns ps m d b g B ns' ps' q d' W) (hd : d' ≤ q.m) (hc : q.can d' = true) :
    Calls Try.prog 43 #[.pointer (some ⟨g, 0, none⟩)] W fun e w' => e = .returned (.tuple #[.int .i64 (q.val d'), .bool true]) ∧ COq w ns ps m d b g B ns' ps' q (d' + 1) w' ∧ W.heap.size ≤ w'.heap.size ∧ ∀ k, k < W.heap.size → k ≠ g → w'.heap[k]? = W.heap[k]? := by
  have hlt : d' < q.m := by unfold Q.can at hc; simp at hc; exact hc.1
  have hr1 := h.r1
  obtain ⟨gn, cap, rfl, h1, h2, ⟨cur, hcur⟩, h3⟩ := own_some rfl h.r1 (by rw [nodes_len]; omega)
  obtain ⟨_, _, z⟩ := h3 d' _ (nodes_get hd)
  obtain ⟨y, _, _⟩ := h3 (d' + 1) _ (nodes_get hlt)
  rw [node_nxt, hc, if_pos rfl] at z
  rw [node_val] at y
  have hne : gn ≠ g := by
    rintro rfl
    rw [h.box] at hcur; injection hcur with hcur; injection hcur with _ e _; cases e
  refine (pop_yes (off := 0) (k := d' + 1) (v := q.val d') W h.box hne (by rw [nodes_len]; omega) (by rw [nodes_len]; omega) (by rw [Nat.zero_add]; exact z) (by rw [Nat.zero_add]; exact y)).mono ?_
  rintro e w' ⟨h4, W1, h5, rfl⟩
  refine ⟨h4, ?_, ?_, ?_⟩
  · have := (CO.step h h5).set2 ((d' + 1 : Nat) : Int)
    exact this
  · simp [World.setCell]; exact h5.size
  · intro k hk hkg
    rw [Below.heap_setCell _ _ _ _ hkg]
    exact h5.block k hk
theorem ints_one (l : List Int) : ∀ u ∈ ints l, u.oneCell' = true := by
  intro u hu
  simp only [ints, List.mem_map] at hu
  obtain ⟨x, _, rfl⟩ := hu
  rfl
theorem own1_slice {w : World} {base : Nat} {e : TypeId} {s : Nat} {v : Value} {n : Nat} {xs : List Value} (h : w.ownsRow base e s v n xs) : ∃ p cap, v = .slice p n cap := by
  rcases h.2 with ⟨rfl, rfl⟩ | ⟨g, cap, cur, rfl, _⟩
  · exact ⟨none, 0, rfl⟩
  · exact ⟨_, cap, rfl⟩
theorem own1_below {w w' : World} {base : Nat} {e : TypeId} {s : Nat} {v : Value} {n : Nat} {xs : List Value} (h : w.ownsRow base e s v n xs) (hb : Below w.heap.size w w') : w'.ownsRow base e s v n xs := by
  refine ⟨h.1, ?_⟩
  rcases h.2 with h0 | ⟨g, cap, cur, h1, h2, h3, h4⟩
  · exact .inl h0
  · exact .inr ⟨g, cap, cur, h1, h2, (hb.block g (blk_lt h3)).trans h3, h4⟩
end Go.Proofs.Ytgbafpjeapkklaa.Mb
namespace Go.Proofs.Ytgbafpjeapkklaa.Mb
open Go.RowKit
set_option linter.unusedVariables false
set_option linter.unusedSimpArgs false
theorem step_append_run {P : Program} {ops : Array Oper} {o : Oper} {a : Act} {w : World} {K : Act → World → Prop} {Q : Exit → Act → World → Prop} {E : Prop}
    (hg : o.guard = none) (d x : Operand) (t : TypeId) (hop : o.op = Op.call { callee := Callee.builtin Builtin.append, args := #[d, x], argTypes := #[t, t] })
    (v u : Value) (hd : a.eval d = v) (hx : a.eval x = u) {v' : Value} {w' : World} (hr : (Builtin.append_ #[t, t] o.type #[v, u]).run P w = .ok v' w') (hK : K (a.put o.dst v') w') :
    if Region.wanted o (yielded ops a.tmps) = true then Oper.wp P o a w K Q else E := by
  have hw : Region.wanted o (yielded ops a.tmps) = true := by simp [Region.wanted, hg]
  rw [if_pos hw]
  unfold Oper.wp
  simp [execOp, hop, resolve, invoke, builtin, hd, hx, hr, Result.andThen]
  exact hK
theorem cellsT_take (l : List (Int × Int × Int)) : ∀ i, (cellsT l).take (i * 3) = cellsT (l.take i) := by
  induction l with
  | nil => intro i; simp [cellsT]
  | cons x l ih =>
    intro i
    cases i with
    | zero => simp [cellsT]
    | succ i => rw [cellsT_cons, List.take_succ_cons, cellsT_cons, ← ih i, show (i + 1) * 3 = (trip x).length + i * 3 by simp [trip]; omega, List.take_length_add_append]
theorem cellsT_drop (l : List (Int × Int × Int)) : ∀ i, (cellsT l).drop (i * 3) = cellsT (l.drop i) := by
  induction l with
  | nil => intro i; simp [cellsT]
  | cons x l ih =>
    intro i
    cases i with
    | zero => simp [cellsT]
    | succ i => rw [cellsT_cons, List.drop_succ_cons, ← ih i, show (i + 1) * 3 = (trip x).length + i * 3 by simp [trip]; omega, List.drop_length_add_append]
theorem clear_last (W : World) (ty : TypeId) (g c k : Nat) (cur : Array Value) (hg : W.heap[g]? = some (.cells cur 102 (0, 0))) (hk : k * 3 + 3 ≤ cur.size) :
    (Builtin.clear_ #[26] ty #[.slice (some ⟨g, k * 3, none⟩) 1 c]).run Try.prog W = .ok (.tuple #[]) (W.setRow g (cur.toList.take (k * 3) ++ trip (0, 0, 0) ++ cur.toList.drop (k * 3 + 3)).toArray) := by
  have hz : ∀ w, (zeroValue 102).run Try.prog w = .ok (.agg #[.int .i64 0, .int .i64 0, .int .i64 0]) w := fun w => by kernel_rfl
  have hzc : (Builtin.zeroCells (Value.cells (.agg #[.int .i64 0, .int .i64 0, .int .i64 0])) 1).toList = trip (0, 0, 0) := by kernel_rfl
  have hst := run_storeCells_at Try.prog g (k * 3) 102 (trip (0, 0, 0)) 0 cur W hg (by simpa [trip] using hk) (by intro v hv; simp [trip] at hv; subst hv; rfl)
  simp only [Nat.add_zero] at hst
  simp [Builtin.clear_, run_underlying Try.underlying26, hz, Result.andThen, hzc]
  rw [hst]
  simp [trip]
set_option maxRecDepth 100000 in
set_option maxHeartbeats 4000000 in
theorem delete_at {W : World} {B : Nat} {v : Value} {l : List (Int × Int × Int)} (h : W.ownsRow B 102 3 v l.length (cellsT l)) (hl : l.length ≤ 2000) (i : Nat) (hi : i < l.length) :
    Calls Try.prog 42 #[v, .int .i64 i, .int .i64 ((i : Int) + 1)] W fun e w' => ∃ v', e = .returned v' ∧ w'.ownsRow B 102 3 v' (l.length - 1) (cellsT (l.eraseIdx i)) ∧ W.grownBy w' v.ownBlock := by
  obtain ⟨i0, hi0, hz0, hz1, hz2⟩ := info_parts info102
  rcases h.2 with ⟨_, h0⟩ | ⟨g, cap, cur, rfl, hBg, hcur, hcap, hmax, hsize, htake⟩
  · omega
  obtain ⟨news, hnews⟩ : ∃ news, news = cellsT (l.drop (i + 1)) := ⟨_, rfl⟩
  have hlen : news.length = (l.length - (i + 1)) * 3 := by rw [hnews, cellsT_len]; simp
  have hsrc0 : ∀ t u, news[t]? = some u → cur[(i + 1) * 3 + t]? = some u := by
    intro t u hu
    have ht : t < (l.length - (i + 1)) * 3 := by
      have := (List.getElem?_eq_some_iff.1 hu).1
      rwa [hlen] at this
    rw [hnews, ← cellsT_drop, List.getElem?_drop, ← htake, List.getElem?_take, if_pos (by omega)] at hu
    simpa using hu
  obtain ⟨A, hA, hsrc⟩ : ∃ A : Addr, (if cap = i + 1 then some (⟨g, 0, none⟩ : Addr) else some ⟨g, (i + 1) * 3, none⟩) = some A ∧ Hid (∀ t u, news[t]? = some u → W.drew.cell? (A.add t) = some u) := by
    by_cases hc : cap = i + 1
    · refine ⟨⟨g, 0, none⟩, by simp [hc], fun t u hu => ?_⟩
      have h0 : news.length = 0 := by rw [hlen]; omega
      rw [List.length_eq_zero_iff.1 h0] at hu
      simp at hu
    · refine ⟨⟨g, (i + 1) * 3, none⟩, by simp [hc], fun t u hu => ?_⟩
      rw [Addr.add_lit]
      exact (cell_blk (w := W.drew) hcur _).trans (hsrc0 t u hu)
  have H1 : Hid (∀ u ∈ news, u.oneCell' = true) := by rw [hnews]; exact cellsT_one _
  have hap := fun (ty : TypeId) => run_append_room (P := Try.prog) W.drew 26 ty 102 i0 Try.underlying26 hi0 g i cap cur hcur A (l.length - (i + 1)) (cap - (i + 1)) news (by rw [hz1]; exact hlen) hsrc.out H1.out (by omega) (by rw [hz1, hlen, hsize]; omega)
  rw [hz1, show i + (l.length - (i + 1)) = l.length - 1 by omega] at hap
  obtain ⟨cur1, hcur1⟩ : ∃ cur1, cur1 = (cur.toList.take (i * 3) ++ news ++ cur.toList.drop (i * 3 + news.length)).toArray := ⟨_, rfl⟩
  rw [← hcur1] at hap
  obtain ⟨W1, hW1⟩ : ∃ W1, W1 = W.drew.setRow g cur1 := ⟨_, rfl⟩
  rw [← hW1] at hap
  have hg1 : W1.heap[g]? = some (.cells cur1 102 (0, 0)) := by rw [hW1]; exact setRow_heap W.drew g cur cur1 102 _ hcur
  have hs1 : cur1.size = cur.size := by
    rw [hcur1]
    simp only [List.size_toArray, List.length_append, List.length_take, List.length_drop, Array.length_toList]
    rw [hlen, hsize]
    omega
  have hcl := fun ty => clear_last W1 ty g (cap - (l.length - 1)) (l.length - 1) cur1 hg1 (by rw [hs1, hsize]; omega)
  obtain ⟨W2, hW2⟩ : ∃ W2, W2 = W1.setRow g (cur1.toList.take ((l.length - 1) * 3) ++ trip (0, 0, 0) ++ cur1.toList.drop ((l.length - 1) * 3 + 3)).toArray := ⟨_, rfl⟩
  rw [← hW2] at hcl
  have HRES : Hid (W2.ownsRow B 102 3 (.slice (some ⟨g, 0, none⟩) (l.length - 1) cap) (l.length - 1) (cellsT (l.eraseIdx i)) ∧ W.grownBy W2 (some g)) := by
    refine ⟨⟨?_, .inr ⟨g, cap, _, rfl, hBg, by rw [hW2]; exact setRow_heap W1 g cur1 _ 102 _ hg1, by omega, hmax, ?_, ?_⟩⟩, ?_⟩
    · rw [cellsT_len, List.length_eraseIdx, if_pos hi]
    · simp only [List.size_toArray, List.length_append, List.length_take, List.length_drop, Array.length_toList, trip, List.length_cons, List.length_nil]
      rw [hs1, hsize]
      omega
    · have e1 : cur.toList.take (i * 3) = cellsT (l.take i) := by
        rw [← cellsT_take, ← htake, List.take_take, Nat.min_eq_left (by omega)]
      have e2 : (cellsT (l.take i)).length = i * 3 := by rw [cellsT_len]; simp; omega
      have e3 : cur1.toList.take ((l.length - 1) * 3) = cellsT (l.eraseIdx i) := by
        rw [hcur1, e1]
        show (cellsT (l.take i) ++ news ++ _).take _ = _
        rw [List.eraseIdx_eq_take_drop_succ, cellsT_append, hnews]
        rw [← hnews]
        refine List.take_left' ?_
        rw [List.length_append, e2, hlen]
        omega
      rw [e3]
      show (cellsT (l.eraseIdx i) ++ trip (0, 0, 0) ++ _).take _ = _
      rw [List.append_assoc]
      refine List.take_left' ?_
      rw [cellsT_len, List.length_eraseIdx, if_pos hi]
    · refine ⟨by rw [hW2, hW1]; rfl, by rw [hW2, hW1]; rfl, by rw [hW2, hW1]; rfl, ?_, ?_⟩
      · rw [hW2, hW1]; simp [World.setRow]
      · intro k _ hk
        rw [hW2, hW1, setRow_other _ _ _ _ (fun e => hk (by rw [e])), setRow_other _ _ _ _ (fun e => hk (by rw [e]))]
        rfl
  have HAP := Lib.hid hap
  have HL := Lib.hid hlen
  clear hW1 hW2 hcur1 hs1 hg1 hsrc0 hsrc hnews hlen htake hsize hcur hBg H1 hi0 hz0 hz1 hz2 h hap
  generalize hn : l.length = n at *
  obtain ⟨N, rfl⟩ : ∃ N, n = N + 1 := ⟨n - 1, by omega⟩
  simp only [Nat.add_sub_cancel, Nat.add_sub_add_right] at *
  have hiN : i ≤ N := by omega
  have hcn : ¬ cap = N := by omega
  have hcn' : ¬ N = cap := by omega
  have hNN : (N : Int) ≤ (N : Int) + 1 := by omega
  have hNc : N ≤ cap := by omega
  have hiw : wrap64 ((i : Int) + 1) = (i : Int) + 1 := by unfold wrap64; omega
  have hne : ((i : Int) == (i : Int) + 1) = false := by simp; omega
  have d1 : decide ((i : Int) ≤ (i : Int) + 1) = true := decide_eq_true (by omega)
  have hic : i ≤ cap := by omega
  have hjc : i + 1 ≤ cap := by omega
  have hin' : (i : Int) + 1 ≤ ((N + 1 : Nat) : Int) := by omega
  have hi0' : 0 ≤ (i : Int) + 1 := by omega
  have hi00 : 0 ≤ (i : Int) := by omega
  have hcm : cap ≤ 9223372036854775807 := by unfold maxLen at hmax; omega
  clear hmax
  go_enter Try.func42, Try.ntmps42
  go_upto_region 5 with fail
  go_region_law (refine step_append_run rfl (.tmp 22) (.tmp 25) 26 rfl (.slice (some ⟨g, 0, none⟩) i cap) (.slice (some A) (N - i) (cap - (i + 1))) (by simp [Act.eval, Act.put]) (by simp [Act.eval, Act.put]) (HAP.out _) ?_)
  go_wp2_with fail
  go_ret
  exact ⟨_, rfl, HRES.out.1, HRES.out.2⟩
end Go.Proofs.Ytgbafpjeapkklaa.Mb
namespace Go.Proofs.Ytgbafpjeapkklaa.Mb
open Go.RowKit
set_option linter.unusedVariables false
set_option linter.unusedSimpArgs false
def Q.fin (q : Q) (i : Nat) : Q := { q with opn := q.opn.eraseIdx i }
theorem fin_isOpen {q : Q} (hq : WF q) {i : Nat} {o : Int × Nat} (ho : q.opn[i]? = some o) (k : Nat) : (q.fin i).isOpen k = (q.isOpen k && !(k == o.2)) := by
  have hm : ∀ x, x ∈ q.opn.eraseIdx i ↔ ∃ i', i' ≠ i ∧ q.opn[i']? = some x := fun x => List.mem_eraseIdx_iff_getElem?
  rw [Bool.eq_iff_iff]
  simp only [Q.isOpen, Q.fin, List.any_eq_true, Bool.and_eq_true, Bool.not_eq_true', beq_eq_false_iff_ne, beq_iff_eq, hm]
  constructor
  · rintro ⟨x, ⟨i', hne, hx⟩, rfl⟩
    refine ⟨⟨x, List.mem_of_getElem? hx, rfl⟩, fun e => hne (open_uniq hq hx ho e)⟩
  · rintro ⟨⟨x, hx, rfl⟩, hne⟩
    obtain ⟨i', hi', e⟩ := List.getElem_of_mem hx
    refine ⟨x, ⟨i', ?_, by rw [← e]; simp⟩, rfl⟩
    rintro rfl
    rw [List.getElem?_eq_getElem hi', e] at ho
    injection ho with ho
    exact hne (by rw [ho])
theorem fin_m (q : Q) (i : Nat) : (q.fin i).m = q.m := rfl
theorem fin_wf {q : Q} (hq : WF q) {i : Nat} {o : Int × Nat} (ho : q.opn[i]? = some o) : WF (q.fin i) where
  few := hq.few
  fewo := by
    have : (q.opn.eraseIdx i).length ≤ q.opn.length := List.length_eraseIdx_le ..
    exact Nat.le_trans this hq.fewo
  prod := hq.prod
  sorted := hq.sorted.sublist (List.eraseIdx_sublist ..)
  opn := fun o' ho' => hq.opn o' ((List.eraseIdx_sublist ..).subset ho')
  done := hq.done
  linked := fun j h1 h2 => by rw [fin_isOpen hq ho, hq.linked j h1 h2]; rfl
  mt := hq.mt
theorem map_erase {α β : Type} (f : α → β) (l : List α) : ∀ i, (l.eraseIdx i).map f = (l.map f).eraseIdx i := by
  induction l with
  | nil => intro i; simp
  | cons x l ih =>
    intro i
    cases i with
    | zero => simp
    | succ i => simp [ih i]
theorem fin_pushes (q : Q) (i : Nat) : (q.fin i).pushes = q.pushes.eraseIdx i := by
  simp only [Q.pushes, Q.fin]
  exact map_erase _ _ _
theorem fin_nodes {q : Q} (hq : WF q) {i b : Nat} {p : Int} (ho : q.opn[i]? = some (p, b + 1)) : (q.fin i).nodes = q.nodes.set b ((q.node b).1, (q.node b).2.1, ((b + 1 : Nat) : Int)) := by
  have hb := hq.opn _ (List.mem_of_getElem? ho)
  simp only at hb
  apply List.ext_getElem?
  intro k
  by_cases hk : k ≤ q.m
  · rw [nodes_get (q := q.fin i) (j := k) hk, List.getElem?_set]
    by_cases hkb : b = k
    · subst hkb
      rw [if_pos rfl, if_pos (by rw [nodes_len]; omega)]
      have hn : (q.fin i).nxt b = ((b + 1 : Nat) : Int) := by
        unfold Q.nxt
        rw [fin_isOpen hq ho, fin_m]
        simp
        omega
      unfold Q.node
      by_cases h0 : b = 0
      · subst h0; simp [hn]
      · simp only [Q.fin] at hn ⊢; simp [h0, hn]
    · rw [if_neg hkb, nodes_get hk]
      have hn : (q.fin i).nxt k = q.nxt k := by
        unfold Q.nxt
        rw [fin_isOpen hq ho, fin_m]
        have : (k + 1 == b + 1) = false := by simp; omega
        simp [this]
      unfold Q.node
      by_cases h0 : k = 0
      · subst h0; simp [hn]
      · simp only [Q.fin] at hn ⊢; simp [h0, hn]
  · rw [List.getElem?_eq_none (by rw [nodes_len, fin_m]; omega), List.getElem?_eq_none (by rw [List.length_set, nodes_len]; omega)]
theorem push_idx {q : Q} (hq : WF q) {i : Nat} {p : Int} {j : Nat} (ho : q.opn[i]? = some (p, j)) : idx (fun x => x.1 == p) q.pushes = i := by
  refine idx_found (pushes_get ho) (by simp) fun k y hk hy => ?_
  obtain ⟨h1, h2⟩ := List.getElem?_eq_some_iff.1 hy
  rw [pushes_len] at h1
  have h3 : q.opn[k]? = some q.opn[k] := by simp [h1]
  rw [pushes_get h3] at hy
  injection hy with hy
  subst hy
  obtain ⟨y1, y2⟩ := List.getElem?_eq_some_iff.1 ho
  have hs := List.pairwise_iff_getElem.1 hq.sorted k i h1 y1 hk
  rw [y2] at hs
  simp only at hs ⊢
  simp
  omega
theorem push_none {q : Q} {p : Int} (h : ∀ o ∈ q.opn, o.1 ≠ p) : idx (fun x => x.1 == p) q.pushes = -1 := by
  refine idx_none fun y hy => ?_
  simp only [Q.pushes, List.mem_map] at hy
  obtain ⟨o, ho, rfl⟩ := hy
  simp [h o ho]
theorem cellsT_set (l : List (Int × Int × Int)) : ∀ (k : Nat) (x : Int × Int × Int) (c : Int), l[k]? = some x → (cellsT l).set (k * 3 + 2) (.int .i64 c) = cellsT (l.set k (x.1, x.2.1, c)) := by
  induction l with
  | nil => intro k x c h; simp at h
  | cons y l ih =>
    intro k x c h
    cases k with
    | zero =>
      simp at h; subst h
      simp [cellsT, trip]
    | succ k =>
      rw [List.set_cons_succ, cellsT_cons, cellsT_cons, ← ih k x c (by simpa using h), List.set_append, if_neg (by simp [trip]; omega)]
      rw [show (k + 1) * 3 + 2 - (trip y).length = k * 3 + 2 by simp [trip]; omega]
theorem CO.setNode {w : World} {ns ps : Value} {m d : Int} {b : Bool} {g B gn cap : Nat} {ps' : Value} {l1 l2 : List (Int × Int × Int)} {m' d' : Int} {b' : Bool} {W : World} (h : CO w ns ps m d b g B (.slice (some ⟨gn, 0, none⟩) l1.length cap) ps' l1 l2 m' d' b' W)
    {k : Nat} {x : Int × Int × Int} (hx : l1[k]? = some x) (c : Int) : CO w ns ps m d b g B (.slice (some ⟨gn, 0, none⟩) l1.length cap) ps' (l1.set k (x.1, x.2.1, c)) l2 m' d' b' (W.setCell ⟨gn, k * 3 + 2, none⟩ (.int .i64 c)) := by
  have hk := (List.getElem?_eq_some_iff.1 hx).1
  rcases h.r1.2 with ⟨e, h0⟩ | ⟨gn', cap', cur, e, hB, hg, hc, hm, hs, ht⟩
  · cases e
  injection e with e1 _ e3
  injection e1 with e1
  injection e1 with e1
  subst e1
  subst e3
  have hlow := h.low
  have ng : g ≠ gn := by rintro rfl; rw [h.box] at hg; injection hg with hg; injection hg with _ e _; cases e
  refine ⟨⟨h.cb.1.setCell (p := ⟨gn, k * 3 + 2, none⟩) (by show w.heap.size ≤ gn; omega) _, blk_set_ne h.cb.2.1 ⟨gn, k * 3 + 2, none⟩ (by show w.heap.size ≠ gn; omega) _, blk_set_ne h.cb.2.2 ⟨gn, k * 3 + 2, none⟩ (by show w.heap.size + 1 ≠ gn; omega) _⟩,
    blk_set_ne h.box ⟨gn, k * 3 + 2, none⟩ ng _, h.low, h.lowg, ?_, own_set h.r2 hg (by decide) _ _⟩
  rw [List.length_set]
  refine ⟨?_, .inr ⟨gn, cap, _, rfl, hB, blk_set hg _ _, hc, hm, by simp [hs], ?_⟩⟩
  · rw [cellsT_len, List.length_set]
  · rw [Array.toList_setIfInBounds, List.take_set, ht, cellsT_set l1 k x c hx]
theorem CO.re2 {w : World} {ns ps : Value} {m d : Int} {b : Bool} {g B : Nat} {ns' ps' : Value} {l1 l2 : List (Int × Int × Int)} {m' d' : Int} {b' : Bool} {W W' : World} (h : CO w ns ps m d b g B ns' ps' l1 l2 m' d' b' W)
    (hg : W.grownBy W' ps'.ownBlock) {ps'' : Value} {l2' : List (Int × Int × Int)} (ho : W'.ownsRow B 102 3 ps'' l2'.length (cellsT l2')) :
    W'.heap[g]? = some (.cells #[ns', .int .i64 m', .int .i64 d', ps', .bool b'] 28 (0, 0)) ∧ CB w ns ps m d b W' ∧ CO w ns ps m d b g B ns' ps'' l1 l2' m' d' b' (W'.setCell ⟨g, 3, none⟩ ps'') := by
  have hne : ∀ (k : Nat) (C : Array Value) (t : TypeId) (f : Nat × Nat), W.heap[k]? = some (.cells C t f) → t ≠ 102 → some k ≠ ps'.ownBlock := fun k C t f hk ht e => own_ne h.r2 hk (Ne.symm ht) e.symm
  have hk : ∀ (k : Nat) (C : Array Value) (t : TypeId) (f : Nat × Nat), W.heap[k]? = some (.cells C t f) → t ≠ 102 → W'.heap[k]? = some (.cells C t f) := fun k C t f h1 h2 => (hg.block k (blk_lt h1) (hne k C t f h1 h2)).trans h1
  have hlow := h.low
  have hlowg := h.lowg
  have hbox := hk _ _ _ _ h.box (by decide)
  have hcb : CB w ns ps m d b W' := ⟨h.cb.1.grown hg h.cb.1.size (fun k hk => by have := h.r2.lt k hk; omega), hk _ _ _ _ h.cb.2.1 (by decide), hk _ _ _ _ h.cb.2.2 (by decide)⟩
  have hr1 : W'.ownsRow B 99 3 ns' l1.length (cellsT l1) := by
    refine ⟨h.r1.1, ?_⟩
    rcases h.r1.2 with h0 | ⟨g', cap, cur, h1, h2, h3, h4⟩
    · exact .inl h0
    · exact .inr ⟨g', cap, cur, h1, h2, hk _ _ _ _ h3 (by decide), h4⟩
  refine ⟨hbox, hcb, ⟨hcb.1.setCell (p := ⟨g, 3, none⟩) (by show w.heap.size ≤ g; omega) _, blk_set_ne hcb.2.1 ⟨g, 3, none⟩ (by show w.heap.size ≠ g; omega) _, blk_set_ne hcb.2.2 ⟨g, 3, none⟩ (by show w.heap.size + 1 ≠ g; omega) _⟩, blk_set hbox 3 _, h.low, h.lowg, own_set hr1 hbox (by decide) _ _, own_set ho hbox (by decide) _ _⟩
set_option maxRecDepth 100000 in
set_option maxHeartbeats 4000000 in
theorem finish_at {q : Q} (hq : WF q) {v : Value} {i j : Nat} {p : Int} (ho : q.opn[i]? = some (p, j)) (w : World) (hv : St w v q) :
    Calls Try.prog 11 #[v, .int .i64 p] w fun e w' => ∃ v', e = .returned (.tuple #[v', .int .i64 0]) ∧ St w' v' (q.fin i) ∧ Below w.heap.size w w' := by
  obtain ⟨ns, ps, rfl, hn, hp⟩ := hv
  have hfew := hq.few
  have hfo := hq.fewo
  obtain ⟨hj1, hjm, _, _⟩ := hq.opn _ (List.mem_of_getElem? ho)
  simp only at hj1 hjm
  obtain ⟨bj, rfl⟩ : ∃ bj, j = bj + 1 := ⟨j - 1, by omega⟩
  have hil : i < q.opn.length := (List.getElem?_eq_some_iff.1 ho).1
  have HCK : Hid (∀ W, Below w.heap.size w W → Calls Try.prog 18 #[.agg #[ns, .int .i64 q.m, .int .i64 q.done, ps, .bool q.empty]] W fun e w' => e = .returned (.int .i64 0) ∧ Below W.heap.size W w') := fun W h => check_at hq ns ps W (hn.below h).1 (hp.below h).1
  have HPU : Hid (∀ W, Below w.heap.size w W → Calls Try.prog 39 #[.agg #[ns, .int .i64 q.m, .int .i64 q.done, ps, .bool q.empty], .int .i64 p] W fun e w' => e = .returned (.int .i64 i) ∧ Below W.heap.size W w') := fun W h => by
    rw [← push_idx hq ho]
    exact push_at (by rw [pushes_len]; omega) _ _ _ p W (hp.below h).1
  have HCL : Hid (∀ W, Below w.heap.size w W → Calls Try.prog 40 #[.agg #[ns, .int .i64 q.m, .int .i64 q.done, ps, .bool q.empty]] W fun e w' => ∃ ns' ps', e = .returned (.agg #[ns', .int .i64 q.m, .int .i64 q.done, ps', .bool q.empty]) ∧
      w'.ownsRow W.heap.size 99 3 ns' q.nodes.length (cellsT q.nodes) ∧ w'.ownsRow W.heap.size 102 3 ps' q.pushes.length (cellsT q.pushes) ∧ Below W.heap.size W w') :=
    fun W h => clone_at (hn.below h).1 (hp.below h).1 (by rw [nodes_len]; omega) (by rw [pushes_len]; omega) _ _ _
  have HB0 : Hid (CB w ns ps q.m q.done q.empty ((w.alloc (Obj.cells #[ns, .int .i64 q.m, .int .i64 q.done, ps, .bool q.empty] 28)).alloc (Obj.cells #[.slice none 0 0, .int .i64 0, .int .i64 0, .slice none 0 0, .bool false] 28))) := CB.mk w ns ps q.m q.done q.empty
  obtain ⟨pn, cn, hA⟩ := hn.slice
  obtain ⟨pp, cp, hB⟩ := hp.slice
  subst hA
  subst hB
  clear hn hp
  have HQ := Lib.hid hq
  have HO := Lib.hid ho
  have HNL := Lib.hid (nodes_len q)
  have HPL := Lib.hid (pushes_len q)
  have HSTF : Hid (∀ (W : World) (a b : Value) , TriT W 99 a (q.fin i).nodes → TriT W 102 b (q.fin i).pushes → St W (.agg #[a, .int .i64 q.m, .int .i64 q.done, b, .bool q.empty]) (q.fin i)) := fun W a b h1 h2 => ⟨a, b, rfl, h1, h2⟩
  clear hq ho
  generalize hM : q.m = M at *
  generalize hD : q.done = D at *
  have HM := Lib.hid hM
  clear hM hD
  have ti : decide ((i : Int) < 0) = false := decide_eq_false (by omega)
  go_enter Try.func11, Try.ntmps11
  go_upto_region 1 with fail
  generalize ((w.alloc (Obj.cells #[.slice pn q.nodes.length cn, .int .i64 M, .int .i64 D, .slice pp q.pushes.length cp, .bool q.empty] 28)).alloc (Obj.cells #[.slice none 0 0, .int .i64 0, .int .i64 0, .slice none 0 0, .bool false] 28)) = W0 at *
  obtain ⟨c0, c1, c2, c3, c4⟩ := HB0.out.facts
  go_wp2_with fail
  refine (HCK.out _ HB0.out.1).mono ?_
  rintro e W1 ⟨rfl, hb1⟩
  have HB1 := Lib.hid (HB0.out.step hb1)
  clear hb1 c0 c1 c2 c3 c4
  obtain ⟨c0, c1, c2, c3, c4⟩ := HB1.out.facts
  go_wp2_with fail
  refine (HPU.out _ HB1.out.1).mono ?_
  rintro e W1' ⟨rfl, hb1⟩
  have HB1' := Lib.hid (HB1.out.step hb1)
  clear hb1 c0 c1 c2 c3 c4
  obtain ⟨c0, c1, c2, c3, c4⟩ := HB1'.out.facts
  go_wp2_with fail
  refine (HCL.out _ HB1'.out.1).mono ?_
  rintro e W2 ⟨ns', ps', rfl, r1, r2, hb2⟩
  obtain ⟨gn, cn', hA, _⟩ := own_some rfl r1 (by rw [HNL.out]; omega)
  obtain ⟨gp, cp', hB, _⟩ := own_some rfl r2 (by rw [HPL.out]; omega)
  subst hA
  subst hB
  have HB2 := Lib.hid (HB1'.out.step hb2)
  obtain ⟨g, W3, hg, hW3, hC3⟩ := CO.made M D q.empty HB2.out HB1'.out.size hb2.size r1 r2
  have HC3 := Lib.hid hC3
  clear hb2 r1 r2 c0 c1 c2 c3 c4 hC3
  go_upto_region 8 with fail
  rw [← hg, ← hW3]
  clear hg hW3
  obtain ⟨gp', cp'', e, _, _, ⟨curp, hcurp⟩, hcp⟩ := own_some rfl HC3.out.r2 (by rw [HPL.out]; omega)
  injection e with e _ e3
  injection e with e
  injection e with e
  subst e
  subst e3
  obtain ⟨x0, x1, x2⟩ := hcp i _ (pushes_get HO.out)
  rw [show (((p, bj + 1) : Int × Nat).1, ((((p, bj + 1) : Int × Nat).2 : Nat) : Int) - 1, ((((p, bj + 1) : Int × Nat).2 : Nat) : Int)).2.1 = (bj : Int) by simp] at x1
  simp only at x0 x2
  obtain ⟨y0, y1, y2, y3, y4, _⟩ := HC3.out.facts
  have hip : i < q.pushes.length := by rw [HPL.out]; exact hil
  have hip' : (i : Int) < (q.pushes.length : Int) := by omega
  have hid' : decide ((i : Int) < (q.pushes.length : Int)) = true := decide_eq_true hip'
  clear hcp hcurp
  go_upto_region 9 with fail
  obtain ⟨X, hX⟩ : ∃ X, X = W3.heap.size := ⟨_, rfl⟩
  obtain ⟨W4, hW4⟩ : ∃ W4, W4 = W3.alloc (Obj.cells #[.int .i64 p, .int .i64 (bj : Int), .int .i64 ((bj : Int) + 1)] 102) := ⟨_, rfl⟩
  rw [← hW4, ← hX]
  have hb4 : Below W3.heap.size W3 W4 := by rw [hW4]; exact (Below.refl _ _).alloc (Nat.le_refl _) _
  have hx4 : W4.heap[X]? = some (.cells #[.int .i64 p, .int .i64 (bj : Int), .int .i64 ((bj : Int) + 1)] 102 (0, 0)) := by rw [hW4, hX]; exact (MapKept.heap_alloc _ _).1
  have HC4 := Lib.hid (HC3.out.step hb4)
  clear x0 x1 x2 y0 y1 y2 y3 y4 hb4 hW4 hX
  have x1 : W4.cell? ⟨X, 1, none⟩ = some (.int .i64 (bj : Int)) := cell_blk hx4 1
  have x2 : W4.cell? ⟨X, 2, none⟩ = some (.int .i64 ((bj : Int) + 1)) := cell_blk hx4 2
  clear hx4
  obtain ⟨y0, y1, y2, y3, y4, _⟩ := HC4.out.facts
  obtain ⟨gn', cn'', e, _, _, ⟨curn, hcurn⟩, hcn⟩ := own_some rfl HC4.out.r1 (by rw [HNL.out]; omega)
  injection e with e _ e3
  injection e with e
  injection e with e
  subst e
  subst e3
  have hnb : q.nodes[bj]? = some (q.node bj) := nodes_get (by rw [HM.out]; omega)
  obtain ⟨_, _, z2⟩ := hcn bj _ hnb
  have zf : W4.frozen? ⟨gn, bj * 3 + 2, none⟩ = false := frozen_blk hcurn _
  have hbn : bj < q.nodes.length := by rw [HNL.out]; omega
  have hbn' : (bj : Int) < (q.nodes.length : Int) := by omega
  have hbd : decide ((bj : Int) < (q.nodes.length : Int)) = true := decide_eq_true hbn'
  have HC5 := Lib.hid (HC4.out.setNode hnb ((bj : Int) + 1))
  clear hcn hcurn hnb
  generalize hzz : (q.node bj).2.2 = zz at z2
  go_upto_region 10 with fail
  obtain ⟨W5, hW5⟩ : ∃ W5, W5 = W4.setCell ⟨gn, bj * 3 + 2, none⟩ (.int .i64 ((bj : Int) + 1)) := ⟨_, rfl⟩
  rw [← hW5] at HC5 ⊢
  clear hW5 x1 x2 y0 y1 y2 y3 y4 z2 zf hzz hbn hbn' hbd
  obtain ⟨y0, y1, y2, y3, y4, _⟩ := HC5.out.facts
  have hiw : wrap64 ((i : Int) + 1) = (i : Int) + 1 := by unfold wrap64; omega
  have HIP := Lib.hid hip
  have HIL := Lib.hid hil
  have HSM : Hid (q.opn.length ≤ 2000) := by show _ ≤ _; omega
  clear hil hfo hfew hip hip' hid' hjm hj1 ti
  go_wp2_with fail
  refine (delete_at HC5.out.r2 (by rw [HPL.out]; exact HSM.out) i HIP.out).mono ?_
  rintro e W6 ⟨ps6, rfl, ho6, hg6⟩
  obtain ⟨pp6, cp6, e6⟩ := own_slice ho6
  subst e6
  have hl6 : q.pushes.length - 1 = (q.fin i).pushes.length := by rw [pushes_len, pushes_len, Q.fin, List.length_eraseIdx, if_pos HIL.out]
  rw [← fin_pushes] at ho6
  obtain ⟨L6, hL6⟩ : ∃ L6, L6 = (q.fin i).pushes.length := ⟨_, rfl⟩
  rw [hl6] at ho6 ⊢
  obtain ⟨k1, k2, k3⟩ := HC5.out.re2 hg6 ho6
  rw [← hL6] at k3 ⊢
  have HL6 := Lib.hid hL6
  have HC7 := Lib.hid k3
  clear hL6 hl6
  have g3 : W6.cell? ⟨g, 3, none⟩ = some (.slice (some ⟨gp, 0, none⟩) q.pushes.length cp') := cell_blk k1 3
  have f3 : W6.frozen? ⟨g, 3, none⟩ = false := frozen_blk k1 3
  clear y0 y1 y2 y3 y4 k1 k2 k3 hg6 ho6
  go_upto_region 11 with fail
  clear g3 f3
  obtain ⟨W7, hW7⟩ : ∃ W7, W7 = W6.setCell ⟨g, 3, none⟩ (.slice pp6 L6 cp6) := ⟨_, rfl⟩
  rw [← hW7] at HC7 ⊢
  clear hW7
  obtain ⟨y0, y1, y2, y3, y4, z0, z1, z2, z3, z4⟩ := HC7.out.facts
  have f0 := (HC7.out.frozen 0).2
  have f1 := (HC7.out.frozen 1).2
  have f2 := (HC7.out.frozen 2).2
  have f3 := (HC7.out.frozen 3).2
  have f4 := (HC7.out.frozen 4).2
  go_wp2_with fail
  obtain ⟨W8, hW8⟩ : ∃ W8, W8 = (((((W7.setCell ⟨w.heap.size + 1, 0, none⟩ (.slice (some ⟨gn, 0, none⟩) q.nodes.length cn')).setCell ⟨w.heap.size + 1, 1, none⟩ (.int .i64 M)).setCell ⟨w.heap.size + 1, 2, none⟩ (.int .i64 D)).setCell ⟨w.heap.size + 1, 3, none⟩ (.slice pp6 L6 cp6)).setCell ⟨w.heap.size + 1, 4, none⟩ (.bool q.empty)) := ⟨_, rfl⟩
  rw [← hW8]
  obtain ⟨k1, k2, k3, k4⟩ := HC7.out.out hW8
  have K1 := Lib.hid k1
  have K3 := Lib.hid k3
  have K4 := Lib.hid k4
  clear y0 y1 y2 y3 y4 z0 z1 z2 z3 z4 f0 f1 f2 f3 f4 k1 k3 k4 hW8
  have c0 : W8.cell? ⟨w.heap.size + 1, 0, none⟩ = some (.slice (some ⟨gn, 0, none⟩) q.nodes.length cn') := cell_blk k2 0
  have c1 : W8.cell? ⟨w.heap.size + 1, 1, none⟩ = some (.int .i64 M) := cell_blk k2 1
  have c2 : W8.cell? ⟨w.heap.size + 1, 2, none⟩ = some (.int .i64 D) := cell_blk k2 2
  have c3 : W8.cell? ⟨w.heap.size + 1, 3, none⟩ = some (.slice pp6 L6 cp6) := cell_blk k2 3
  have c4 : W8.cell? ⟨w.heap.size + 1, 4, none⟩ = some (.bool q.empty) := cell_blk k2 4
  refine bodyPost_ret (v := .tuple #[.agg #[.slice (some ⟨gn, 0, none⟩) q.nodes.length cn', .int .i64 M, .int .i64 D, .slice pp6 L6 cp6, .bool q.empty], .int .i64 0]) (by simp [results, Try.results11, go_sem, c0, c1, c2, c3, c4]) rfl ⟨_, rfl, HSTF.out _ _ _ ?_ ?_, ?_⟩
  · rw [fin_nodes HQ.out HO.out]
    exact K3.out
  · exact K4.out
  · exact K1.out
end Go.Proofs.Ytgbafpjeapkklaa.Mb
namespace Go.Proofs.Ytgbafpjeapkklaa.Mb
open Go.RowKit
set_option linter.unusedVariables false
set_option linter.unusedSimpArgs false
def InsC (k : Nat) (l : List (Int × Int × Int)) (x : Int × Int × Int) : Prop :=
  ∀ (W : World) (B X : Nat) (v : Value), W.ownsRow B 102 3 v l.length (cellsT l) → B ≤ W.heap.size → W.heap[X]? = some (.cells (trip x).toArray 102 (0, 0)) → v.ownBlock ≠ some X →
    Calls Try.prog 41 #[v, .int .i64 k, .slice (some ⟨X, 0, none⟩) 1 1] W fun e w' => ∃ v', e = .returned v' ∧ w'.ownsRow B 102 3 v' (l.length + 1) (cellsT (l.take k ++ x :: l.drop k)) ∧ W.grownBy w' v.ownBlock
theorem trip_src {W : World} {X : Nat} {x : Int × Int × Int} (hX : W.heap[X]? = some (.cells (trip x).toArray 102 (0, 0))) : ∀ j u, (cellsT [x])[j]? = some u → W.cell? ((⟨X, 0, none⟩ : Addr).add j) = some u := by
  intro j u hj
  have e : cellsT [x] = trip x := by simp [cellsT]
  rw [e] at hj
  rw [Addr.add_lit, Nat.zero_add]
  refine (cell_blk hX j).trans ?_
  rw [List.getElem?_toArray]
  exact hj
set_option maxRecDepth 100000 in
set_option maxHeartbeats 4000000 in
theorem insert_end {l : List (Int × Int × Int)} (hl : l.length ≤ 2000) (x : Int × Int × Int) : InsC l.length l x := by
  intro W B X v h hB hX hne
  obtain ⟨i0, hi0, hz0, hz1, hz2⟩ := info_parts info102
  have HI := Lib.hid hi0; clear hi0
  have HZ0 := Lib.hid hz0; clear hz0
  have HZ1 := Lib.hid hz1; clear hz1
  have HZ2 := Lib.hid hz2; clear hz2
  have HSRC := Lib.hid (trip_src hX)
  have HLL : Hid (l.take l.length ++ x :: l.drop l.length = l ++ [x]) := by show _ = _; simp
  have HOWN := Lib.hid h
  have HBB := Lib.hid hB
  rw [HLL.out]
  have HXS : Hid (cellsT (l ++ [x]) = cellsT l ++ cellsT [x]) := cellsT_append _ _
  have HL := Lib.hid hl
  clear hX hB hl
  rcases h.2 with ⟨rfl, h0⟩ | ⟨g, cap, cur, rfl, hBg, hcur, hcap, hmax, hsize, htake⟩
  · clear h hne
    generalize l.length = n at *
    subst h0
    go_enter Try.func41, Try.ntmps41
    go_upto_region 7 with fail
    go_wp2_with (at_builtin; refine wpList_append_own _ rfl _ _ 26 rfl B 102 i0 (.agg #[.int .i64 0, .int .i64 0, .int .i64 0]) 3 24 Try.underlying26 HI.out HZ0.out HZ1.out HZ2.out rfl (by decide) _ _ _ rfl HOWN.out ⟨X, 0, none⟩ 1 1 (cellsT [x]) rfl rfl ?c1 ?c2 ?c3 ?c4 ?c5 ?_)
    case c1 => exact HSRC.out
    case c2 => exact cellsT_one _
    case c3 => unfold maxLen; omega
    case c4 => omega
    case c5 => exact HBB.out
    intro v1 w1 hown1 hgr _
    have HO1 := Lib.hid hown1; clear hown1
    have HG1 := Lib.hid hgr; clear hgr
    go_wp2_with fail
    go_ret
    refine ⟨_, rfl, ?_, HG1.out⟩
    rw [HXS.out]
    exact HO1.out
  · clear h hne hcur htake hsize
    generalize l.length = n at *
    have hc2 : cap ≤ 9223372036854775807 := by unfold maxLen at hmax; omega
    obtain ⟨A, hA⟩ : ∃ A : Addr, (if cap = n then (some ⟨g, 0, none⟩ : Option Addr) else some ⟨g, n * 3, none⟩) = some A := by
      by_cases hcn : cap = n
      · exact ⟨⟨g, 0, none⟩, by simp [hcn]⟩
      · exact ⟨⟨g, n * 3, none⟩, by simp [hcn]⟩
    go_enter Try.func41, Try.ntmps41
    go_upto_region 7 with fail
    go_wp2_with (at_builtin; refine wpList_append_own _ rfl _ _ 26 rfl B 102 i0 (.agg #[.int .i64 0, .int .i64 0, .int .i64 0]) 3 24 Try.underlying26 HI.out HZ0.out HZ1.out HZ2.out rfl (by decide) _ _ _ rfl HOWN.out ⟨X, 0, none⟩ 1 1 (cellsT [x]) rfl rfl ?c1 ?c2 ?c3 ?c4 ?c5 ?_)
    case c1 => exact HSRC.out
    case c2 => exact cellsT_one _
    case c3 => have := HL.out; unfold maxLen; omega
    case c4 => have := HL.out; omega
    case c5 => exact HBB.out
    intro v1 w1 hown1 hgr _
    have HO1 := Lib.hid hown1; clear hown1
    have HG1 := Lib.hid hgr; clear hgr
    go_wp2_with fail
    go_ret
    refine ⟨_, rfl, ?_, HG1.out⟩
    rw [HXS.out]
    exact HO1.out
end Go.Proofs.Ytgbafpjeapkklaa.Mb
namespace Go.Proofs.Ytgbafpjeapkklaa.Mb
open Go.RowKit
set_option linter.unusedVariables false
set_option linter.unusedSimpArgs false
def Q.pos (q : Q) (p : Int) : Nat := q.opn.findIdx fun o => decide (p ≤ o.1)
def Q.beg (q : Q) (p x : Int) : Q := { vals := q.vals ++ [(x, p)], opn := q.opn.take (q.pos p) ++ (p, q.m + 1) :: q.opn.drop (q.pos p), done := q.done, empty := false }
theorem pos_of {q : Q} {p : Int} {k : Nat} (hk : k ≤ q.opn.length) (h1 : ∀ j o, j < k → q.opn[j]? = some o → o.1 < p) (h2 : ∀ o, q.opn[k]? = some o → p ≤ o.1) : q.pos p = k := by
  unfold Q.pos
  by_cases hlt : k < q.opn.length
  · rw [List.findIdx_eq hlt]
    refine ⟨by simpa using h2 _ (List.getElem?_eq_getElem hlt), fun j hj => ?_⟩
    have := h1 j _ hj (List.getElem?_eq_getElem (by omega))
    simpa using this
  · obtain rfl : k = q.opn.length := by omega
    rw [List.findIdx_eq_length]
    intro o ho
    obtain ⟨j, hj, e⟩ := List.getElem_of_mem ho
    have := h1 j o hj (by rw [← e]; simp)
    simpa using this
theorem pos_le (q : Q) (p : Int) : q.pos p ≤ q.opn.length := List.findIdx_le_length
theorem beg_m (q : Q) (p x : Int) : (q.beg p x).m = q.m + 1 := by simp [Q.m, Q.beg]
theorem beg_isOpen (q : Q) (p x : Int) (k : Nat) : (q.beg p x).isOpen k = (q.isOpen k || k == q.m + 1) := by
  have e : q.opn.any (fun o => o.2 == k) = (q.opn.take (q.pos p) ++ q.opn.drop (q.pos p)).any fun o => o.2 == k := by rw [List.take_append_drop]
  unfold Q.isOpen Q.beg
  rw [e]
  simp only [List.any_append, List.any_cons]
  have : (q.m + 1 == k) = (k == q.m + 1) := by rw [Bool.eq_iff_iff]; simp; omega
  rw [this]
  cases (List.take (q.pos p) q.opn).any fun o => o.2 == k <;> cases (k == q.m + 1) <;> simp
theorem beg_pushes (q : Q) (p x : Int) : (q.beg p x).pushes = q.pushes.take (q.pos p) ++ (p, (q.m : Int), ((q.m : Int) + 1)) :: q.pushes.drop (q.pos p) := by
  simp [Q.pushes, Q.beg, List.map_take, List.map_drop]
theorem beg_nodes (q : Q) (p x : Int) (hop : ∀ o ∈ q.opn, o.2 ≤ q.m) : (q.beg p x).nodes = q.nodes ++ [(x, p, -1)] := by
  apply List.ext_getElem?
  intro k
  by_cases hk : k ≤ q.m
  · rw [nodes_get (q := q.beg p x) (j := k) (by rw [beg_m]; omega), List.getElem?_append_left (by rw [nodes_len]; omega), nodes_get hk]
    have hn : (q.beg p x).nxt k = q.nxt k := by
      unfold Q.nxt
      rw [beg_isOpen, beg_m]
      by_cases hkm : k = q.m
      · subst hkm; simp
      · have : (k + 1 == q.m + 1) = false := by simp; omega
        rw [this, Bool.or_false]
        have h1 : k < q.m + 1 := by omega
        have h2 : k < q.m := by omega
        simp [h1, h2]
    by_cases h0 : k = 0
    · subst h0; simp only [Q.node, if_pos, hn]
    · have hv : (q.beg p x).vals.getD (k - 1) (0, 0) = q.vals.getD (k - 1) (0, 0) := by
        have : k - 1 < q.vals.length := by have : q.m = q.vals.length := rfl; omega
        simp [Q.beg, List.getElem?_append_left this]
      simp only [Q.node, if_neg h0, hn, hv]
  · by_cases hk2 : k = q.m + 1
    · subst hk2
      rw [nodes_get (q := q.beg p x) (j := q.m + 1) (by rw [beg_m]; omega), List.getElem?_append_right (by rw [nodes_len]; omega), nodes_len]
      have hn : (q.beg p x).nxt (q.m + 1) = -1 := by unfold Q.nxt; rw [beg_m]; simp
      have hv : (q.beg p x).vals.getD q.m (0, 0) = (x, p) := by
        have : q.m = q.vals.length := rfl
        simp [Q.beg, this]
      unfold Q.node
      rw [hn]
      simp only [Nat.add_sub_cancel, hv]
      simp
    · rw [List.getElem?_eq_none (by rw [nodes_len, beg_m]; omega), List.getElem?_eq_none (by rw [List.length_append, nodes_len]; simp; omega)]
theorem beg_wf {q : Q} (hq : WF q) {p x : Int} (hm : q.m + 1 < 2000) (hp : 0 ≤ p) (hno : ∀ o ∈ q.opn, o.1 ≠ p) : WF (q.beg p x) where
  few := by rw [beg_m]; exact hm
  fewo := by
    rw [beg_m]
    have := hq.fewo
    have h2 := pos_le q p
    simp only [Q.beg, List.length_append, List.length_take, List.length_cons, List.length_drop]
    omega
  prod := by
    intro y hy
    simp only [Q.beg, List.mem_append, List.mem_singleton] at hy
    rcases hy with hy | rfl
    · exact hq.prod y hy
    · exact hp
  sorted := by
    have hs := hq.sorted
    have h1 : ∀ o ∈ q.opn.take (q.pos p), o.1 < p := by
      intro o ho
      obtain ⟨j, hj, e⟩ := List.getElem_of_mem ho
      have hjp : j < q.pos p := by rw [List.length_take] at hj; omega
      have := List.not_of_lt_findIdx (p := fun o : Int × Nat => decide (p ≤ o.1)) (xs := q.opn) (i := j) hjp
      rw [List.getElem_take] at e
      rw [e] at this
      simpa using this
    have h2 : ∀ o ∈ q.opn.drop (q.pos p), p < o.1 := by
      intro o ho
      obtain ⟨j, hj, e⟩ := List.getElem_of_mem ho
      rw [List.length_drop] at hj
      rw [List.getElem_drop] at e
      have hlt : q.pos p < q.opn.length := by omega
      have h3 : p ≤ (q.opn[q.pos p]).1 := by
        have := List.findIdx_getElem (p := fun o : Int × Nat => decide (p ≤ o.1)) (xs := q.opn) (w := hlt)
        exact of_decide_eq_true this
      have h4 : p < (q.opn[q.pos p]).1 := by
        have := hno _ (List.getElem_mem hlt)
        omega
      by_cases h0 : j = 0
      · subst h0; simp at e; rw [← e]; exact h4
      · have := List.pairwise_iff_getElem.1 hs (q.pos p) (q.pos p + j) hlt (by omega) (by omega)
        rw [e] at this
        omega
    have h3 : (q.opn.take (q.pos p) ++ q.opn.drop (q.pos p)).Pairwise fun a b => a.1 < b.1 := by rw [List.take_append_drop]; exact hs
    rw [List.pairwise_append] at h3
    show (q.opn.take (q.pos p) ++ (p, q.m + 1) :: q.opn.drop (q.pos p)).Pairwise _
    rw [List.pairwise_append]
    refine ⟨h3.1, List.pairwise_cons.2 ⟨fun o ho => h2 o ho, h3.2.1⟩, fun a ha b hb => ?_⟩
    rcases List.mem_cons.1 hb with rfl | hb
    · exact h1 a ha
    · exact h3.2.2 a ha b hb
  opn := by
    intro o ho
    have h1 : o = (p, q.m + 1) ∨ o ∈ q.opn := by
      simp only [Q.beg, List.mem_append, List.mem_cons] at ho
      rcases ho with ho | rfl | ho
      · exact .inr (List.mem_of_mem_take ho)
      · exact .inl rfl
      · exact .inr (List.mem_of_mem_drop ho)
    rw [beg_m]
    rcases h1 with rfl | h1
    · refine ⟨by simp, by simp, ?_, hp⟩
      have : q.m = q.vals.length := rfl
      simp [Q.beg, this]
    · obtain ⟨a, b, c, d⟩ := hq.opn o h1
      refine ⟨a, by omega, ?_, d⟩
      have : o.2 - 1 < q.vals.length := by have : q.m = q.vals.length := rfl; omega
      rw [← c]
      simp [Q.beg, List.getElem?_append_left this]
  done := by rw [beg_m]; have := hq.done; show q.done ≤ _; omega
  linked := by
    intro j h1 h2
    have h3 : j ≤ q.done := h2
    rw [beg_isOpen, hq.linked j h1 h3]
    have := hq.done
    simp; omega
  mt := by intro h; cases h
theorem CO.re1 {w : World} {ns ps : Value} {m d : Int} {b : Bool} {g B : Nat} {ns' ps' : Value} {l1 l2 : List (Int × Int × Int)} {m' d' : Int} {b' : Bool} {W W' : World} (h : CO w ns ps m d b g B ns' ps' l1 l2 m' d' b' W)
    (hg : W.grownBy W' ns'.ownBlock) {ns'' : Value} {l1' : List (Int × Int × Int)} (ho : W'.ownsRow B 99 3 ns'' l1'.length (cellsT l1')) :
    W'.heap[g]? = some (.cells #[ns', .int .i64 m', .int .i64 d', ps', .bool b'] 28 (0, 0)) ∧ CB w ns ps m d b W' ∧ CO w ns ps m d b g B ns'' ps' l1' l2 m' d' b' (W'.setCell ⟨g, 0, none⟩ ns'') := by
  have hne : ∀ (k : Nat) (C : Array Value) (t : TypeId) (f : Nat × Nat), W.heap[k]? = some (.cells C t f) → t ≠ 99 → some k ≠ ns'.ownBlock := fun k C t f hk ht e => own_ne h.r1 hk (Ne.symm ht) e.symm
  have hk : ∀ (k : Nat) (C : Array Value) (t : TypeId) (f : Nat × Nat), W.heap[k]? = some (.cells C t f) → t ≠ 99 → W'.heap[k]? = some (.cells C t f) := fun k C t f h1 h2 => (hg.block k (blk_lt h1) (hne k C t f h1 h2)).trans h1
  have hlow := h.low
  have hlowg := h.lowg
  have hbox := hk _ _ _ _ h.box (by decide)
  have hcb : CB w ns ps m d b W' := ⟨h.cb.1.grown hg h.cb.1.size (fun k hk => by have := h.r1.lt k hk; omega), hk _ _ _ _ h.cb.2.1 (by decide), hk _ _ _ _ h.cb.2.2 (by decide)⟩
  have hr2 : W'.ownsRow B 102 3 ps' l2.length (cellsT l2) := by
    refine ⟨h.r2.1, ?_⟩
    rcases h.r2.2 with h0 | ⟨g', cap, cur, h1, h2, h3, h4⟩
    · exact .inl h0
    · exact .inr ⟨g', cap, cur, h1, h2, hk _ _ _ _ h3 (by decide), h4⟩
  refine ⟨hbox, hcb, ⟨hcb.1.setCell (p := ⟨g, 0, none⟩) (by show w.heap.size ≤ g; omega) _, blk_set_ne hcb.2.1 ⟨g, 0, none⟩ (by show w.heap.size ≠ g; omega) _, blk_set_ne hcb.2.2 ⟨g, 0, none⟩ (by show w.heap.size + 1 ≠ g; omega) _⟩, blk_set hbox 0 _, h.low, h.lowg, own_set ho hbox (by decide) _ _, own_set hr2 hbox (by decide) _ _⟩
theorem own_fresh {W : World} {B : Nat} {e : TypeId} {v : Value} {n : Nat} {xs : List Value} (h : W.ownsRow B e 3 v n xs) : v.ownBlock ≠ some W.heap.size := by
  intro hv
  have := h.lt _ hv
  omega
set_option maxRecDepth 100000 in
set_option maxHeartbeats 8000000 in
theorem begin_at {q : Q} (hq : WF q) {v : Value} {p x : Int} (hp : 0 ≤ p) (hno : ∀ o ∈ q.opn, o.1 ≠ p) (hm : q.m + 1 < 2000) (hins : InsC (q.pos p) q.pushes (p, (q.m : Int), (q.m : Int) + 1)) (w : World) (hv : St w v q) :
    Calls Try.prog 10 #[v, .int .i64 p, .int .i64 x] w fun e w' => ∃ v', e = .returned (.tuple #[v', .bool q.empty, .int .i64 0]) ∧ St w' v' (q.beg p x) ∧ Below w.heap.size w w' := by
  obtain ⟨ns, ps, rfl, hn, hp'⟩ := hv
  have hfo := hq.fewo
  have HCK : Hid (∀ W, Below w.heap.size w W → Calls Try.prog 18 #[.agg #[ns, .int .i64 q.m, .int .i64 q.done, ps, .bool q.empty]] W fun e w' => e = .returned (.int .i64 0) ∧ Below W.heap.size W w') := fun W h => check_at hq ns ps W (hn.below h).1 (hp'.below h).1
  have HPU : Hid (∀ W, Below w.heap.size w W → Calls Try.prog 39 #[.agg #[ns, .int .i64 q.m, .int .i64 q.done, ps, .bool q.empty], .int .i64 p] W fun e w' => e = .returned (.int .i64 (-1)) ∧ Below W.heap.size W w') := fun W h => by
    rw [← push_none hno]
    exact push_at (by rw [pushes_len]; omega) _ _ _ p W (hp'.below h).1
  have HCL : Hid (∀ W, Below w.heap.size w W → Calls Try.prog 40 #[.agg #[ns, .int .i64 q.m, .int .i64 q.done, ps, .bool q.empty]] W fun e w' => ∃ ns' ps', e = .returned (.agg #[ns', .int .i64 q.m, .int .i64 q.done, ps', .bool q.empty]) ∧
      w'.ownsRow W.heap.size 99 3 ns' q.nodes.length (cellsT q.nodes) ∧ w'.ownsRow W.heap.size 102 3 ps' q.pushes.length (cellsT q.pushes) ∧ Below W.heap.size W w') :=
    fun W h => clone_at (hn.below h).1 (hp'.below h).1 (by rw [nodes_len]; omega) (by rw [pushes_len]; omega) _ _ _
  have HB0 : Hid (CB w ns ps q.m q.done q.empty ((w.alloc (Obj.cells #[ns, .int .i64 q.m, .int .i64 q.done, ps, .bool q.empty] 28)).alloc (Obj.cells #[.slice none 0 0, .int .i64 0, .int .i64 0, .slice none 0 0, .bool false] 28))) := CB.mk w ns ps q.m q.done q.empty
  obtain ⟨pn, cn, hA⟩ := hn.slice
  obtain ⟨pp, cp, hB⟩ := hp'.slice
  subst hA
  subst hB
  clear hn hp'
  obtain ⟨i0, hi0, hz0, hz1, hz2⟩ := info_parts info99
  have HI := Lib.hid hi0; clear hi0
  have HZ0 := Lib.hid hz0; clear hz0
  have HZ1 := Lib.hid hz1; clear hz1
  have HZ2 := Lib.hid hz2; clear hz2
  have HQ := Lib.hid hq
  have HNL := Lib.hid (nodes_len q)
  have HPL := Lib.hid (pushes_len q)
  have HINS := Lib.hid hins
  have HBN := Lib.hid (beg_nodes q p x (fun o ho => (hq.opn o ho).2.1))
  have HBP := Lib.hid (beg_pushes q p x)
  have HSTF : Hid (∀ (W : World) (a b : Value) , TriT W 99 a (q.beg p x).nodes → TriT W 102 b (q.beg p x).pushes → St W (.agg #[a, .int .i64 ((q.m : Int) + 1), .int .i64 q.done, b, .bool false]) (q.beg p x)) := fun W a b h1 h2 => ⟨a, b, by rw [beg_m]; rfl, h1, h2⟩
  have HPSM : Hid (q.pushes.length ≤ 2000) := by show _ ≤ _; rw [pushes_len]; omega
  have tp : decide (p < 0) = false := decide_eq_false (by omega)
  have tl : ((q.nodes.length : Int) == 2000) = false := by rw [nodes_len]; simp; omega
  clear hq hno hins hfo hp
  have HMM := Lib.hid hm
  clear hm
  generalize hM : q.m = M at *
  generalize hD : q.done = D at *
  have HM := Lib.hid hM
  clear hM hD
  go_enter Try.func10, Try.ntmps10
  go_upto_region 1 with fail
  generalize ((w.alloc (Obj.cells #[.slice pn q.nodes.length cn, .int .i64 M, .int .i64 D, .slice pp q.pushes.length cp, .bool q.empty] 28)).alloc (Obj.cells #[.slice none 0 0, .int .i64 0, .int .i64 0, .slice none 0 0, .bool false] 28)) = W0 at *
  obtain ⟨c0, c1, c2, c3, c4⟩ := HB0.out.facts
  go_wp2_with fail
  refine (HCK.out _ HB0.out.1).mono ?_
  rintro e W1 ⟨rfl, hb1⟩
  have HB1 := Lib.hid (HB0.out.step hb1)
  clear hb1 c0 c1 c2 c3 c4
  obtain ⟨c0, c1, c2, c3, c4⟩ := HB1.out.facts
  go_wp2_with fail
  refine (HPU.out _ HB1.out.1).mono ?_
  rintro e W1' ⟨rfl, hb1⟩
  have HB1' := Lib.hid (HB1.out.step hb1)
  clear hb1 c0 c1 c2 c3 c4
  obtain ⟨c0, c1, c2, c3, c4⟩ := HB1'.out.facts
  go_wp2_with fail
  refine (HCL.out _ HB1'.out.1).mono ?_
  rintro e W2 ⟨ns', ps', rfl, r1, r2, hb2⟩
  obtain ⟨pn', cn', hA⟩ := own_slice r1
  obtain ⟨pp', cp', hB⟩ := own_slice r2
  subst hA
  subst hB
  have HB2 := Lib.hid (HB1'.out.step hb2)
  obtain ⟨g, W3, hg, hW3, hC3⟩ := CO.made M D q.empty HB2.out HB1'.out.size hb2.size r1 r2
  have HC3 := Lib.hid hC3
  clear hb2 r1 r2 c0 c1 c2 c3 c4 hC3
  go_upto_region 12 with fail
  rw [← hg, ← hW3]
  clear hg hW3
  go_loopw [11] (fun s11 wr => ∃ k : Nat, k ≤ q.pushes.length ∧ s11 = .int .i64 k ∧ (∀ (j : Nat) (o : Int × Nat), j < k → q.opn[j]? = some o → o.1 < p) ∧
    CO w (.slice pn q.nodes.length cn) (.slice pp q.pushes.length cp) M D q.empty g W1'.heap.size (.slice pn' q.nodes.length cn') (.slice pp' q.pushes.length cp') q.nodes q.pushes M D q.empty wr) (fun s11 _ => q.pushes.length - (intOf s11).toNat)
  case atStart => exact ⟨0, by omega, rfl, fun j o hj => by omega, HC3.out⟩
  case round =>
    obtain ⟨k, hk, rfl, hlow, hco⟩ := hrel
    have HLOW := Lib.hid hlow; clear hlow
    have HC := Lib.hid hco; clear hco
    obtain ⟨y0, y1, y2, y3, y4, _⟩ := HC.out.facts
    by_cases hlt : k < q.pushes.length
    · have tk : decide ((k : Int) < (q.pushes.length : Int)) = true := decide_eq_true (by omega)
      have tk' : (k : Int) < (q.pushes.length : Int) := by omega
      obtain ⟨gp, cpp, e, _, _, _, hcp⟩ := own_some rfl HC.out.r2 (by omega)
      injection e with e _ e3
      subst e
      subst e3
      obtain ⟨o, ho⟩ : ∃ o, q.opn[k]? = some o := ⟨q.opn[k]'(by have := HPL.out; omega), by simp⟩
      obtain ⟨x0, _, _⟩ := hcp k _ (pushes_get ho)
      simp only at x0
      obtain ⟨op, oj⟩ := o
      simp only at x0
      clear hcp
      have HOK := Lib.hid ho; clear ho
      by_cases hop : op < p
      · have tO : decide (op < p) = true := decide_eq_true hop
        go_wp2_with fail
        have ew : wrap64 ((k : Int) + 1) = ((k + 1 : Nat) : Int) := by have := HPSM.out; unfold wrap64; omega
        rw [ew]
        go_roundw
        case rel =>
          refine ⟨k + 1, by omega, rfl, fun j o hj ho => ?_, HC.out⟩
          by_cases hjk : j = k
          · subst hjk
            have := HOK.out
            rw [ho] at this
            injection this with this
            rw [this]
            exact hop
          · exact HLOW.out j o (by omega) ho
        case measure => simp [intOf]; omega
      · have tO : decide (op < p) = false := decide_eq_false hop
        have HPOS : Hid (q.pos p = k) := pos_of (by have := HPL.out; omega) HLOW.out (fun o ho => by
          have := HOK.out
          rw [ho] at this
          injection this with this
          rw [this]
          show p ≤ op
          omega)
        go_upto_region 14 with fail
        clear y0 y1 y2 y3 y4
        have HINK : Hid (InsC k q.pushes (p, (M : Int), (q.nodes.length : Int))) := by
          show InsC _ _ _
          have := HINS.out
          rw [HPOS.out] at this
          rw [HNL.out]
          have e : (((M + 1 : Nat)) : Int) = (M : Int) + 1 := by simp
          rw [e]
          exact this
        obtain ⟨y0, y1, y2, y3, y4, _⟩ := HC.out.facts
        obtain ⟨c0, c1, c2, c3, c4⟩ := HC.out.cb.facts
        obtain ⟨X, hX⟩ : ∃ X, X = wr.heap.size := ⟨_, rfl⟩
        obtain ⟨W5, hW5⟩ : ∃ W5, W5 = wr.alloc (Obj.cells #[.int .i64 p, .int .i64 (M : Int), .int .i64 (q.nodes.length : Int)] 102) := ⟨_, rfl⟩
        have hb5 : Below wr.heap.size wr W5 := by rw [hW5]; exact (Below.refl _ _).alloc (Nat.le_refl _) _
        have hx5 : W5.heap[X]? = some (.cells (trip (p, (M : Int), (q.nodes.length : Int))).toArray 102 (0, 0)) := by rw [hW5, hX]; exact (MapKept.heap_alloc _ _).1
        have HX5 := Lib.hid hx5
        have HC5 := Lib.hid (HC.out.step hb5)
        have HFX : Hid ((Value.slice (some ⟨gp, 0, none⟩) q.pushes.length cp').ownBlock ≠ some X) := by rw [hX]; exact own_fresh HC.out.r2
        have HB5S : Hid (W1'.heap.size ≤ W5.heap.size) := Nat.le_trans HC.out.lowg (Nat.le_of_lt (Nat.lt_of_lt_of_le (blk_lt HC.out.box) hb5.size))
        clear hb5 hx5
        go_wp2_with fail
        rw [← hW5, ← hX]
        refine (HINK.out W5 _ X _ HC5.out.r2 HB5S.out HX5.out HFX.out).mono ?_
        rintro e W6 ⟨ps6, rfl, ho6, hg6⟩
        clear hW5 hX
        obtain ⟨pp6, cp6, e6⟩ := own_slice ho6
        subst e6
        obtain ⟨l6, hl6⟩ : ∃ l6, l6 = q.pushes.take k ++ (p, (M : Int), (q.nodes.length : Int)) :: q.pushes.drop k := ⟨_, rfl⟩
        rw [← hl6] at ho6
        have hlen6 : q.pushes.length + 1 = l6.length := by rw [hl6, List.length_append, List.length_take, List.length_cons, List.length_drop]; omega
        rw [hlen6] at ho6 ⊢
        obtain ⟨k1, k2, k3⟩ := HC5.out.re2 hg6 ho6
        have HC7 := Lib.hid k3
        have HL6 := Lib.hid hl6
        obtain ⟨L6, hL6⟩ : ∃ L6, L6 = l6.length := ⟨_, rfl⟩
        rw [← hL6] at HC7 ⊢
        clear y0 y1 y2 y3 y4 c0 c1 c2 c3 c4 k3 hlen6 hl6 hg6 ho6 hL6
        have g3 : W6.cell? ⟨g, 3, none⟩ = some (.slice (some ⟨gp, 0, none⟩) q.pushes.length cp') := cell_blk k1 3
        have f3 : W6.frozen? ⟨g, 3, none⟩ = false := frozen_blk k1 3
        clear k1 k2
        go_upto_region 15 with fail
        clear g3 f3
        obtain ⟨W7, hW7⟩ : ∃ W7, W7 = W6.setCell ⟨g, 3, none⟩ (.slice pp6 L6 cp6) := ⟨_, rfl⟩
        rw [← hW7] at HC7 ⊢
        clear hW7
        obtain ⟨y0, y1, y2, y3, y4, _⟩ := HC7.out.facts
        obtain ⟨Y, hY⟩ : ∃ Y, Y = W7.heap.size := ⟨_, rfl⟩
        obtain ⟨W8, hW8⟩ : ∃ W8, W8 = W7.alloc (Obj.cells #[.int .i64 x, .int .i64 p, .int .i64 (-1)] 99) := ⟨_, rfl⟩
        have hb8 : Below W7.heap.size W7 W8 := by rw [hW8]; exact (Below.refl _ _).alloc (Nat.le_refl _) _
        have hx8 : W8.heap[Y]? = some (.cells (trip (x, p, -1)).toArray 99 (0, 0)) := by rw [hW8, hY]; exact (MapKept.heap_alloc _ _).1
        have HSRC : Hid (∀ j u, (cellsT [(x, p, (-1 : Int))])[j]? = some u → W8.cell? ((⟨Y, 0, none⟩ : Addr).add j) = some u) := by
          intro j u hj
          have e : cellsT [(x, p, (-1 : Int))] = trip (x, p, -1) := by simp [cellsT]
          rw [e] at hj
          rw [Addr.add_lit, Nat.zero_add]
          refine (cell_blk hx8 j).trans ?_
          rw [List.getElem?_toArray]
          exact hj
        have HC8 := Lib.hid (HC7.out.step hb8)
        have HB8S : Hid (W1'.heap.size ≤ W8.heap.size) := Nat.le_trans HC8.out.lowg (Nat.le_of_lt (blk_lt HC8.out.box))
        have HNLS : Hid (q.nodes.length ≤ 2000) := by show _ ≤ _; rw [HNL.out]; have := HMM.out; have := HM.out; omega
        clear hb8 hx8
        go_wp2_with (at_builtin; rw [← hW8, ← hY]; refine wpList_append_own _ rfl _ _ 25 rfl W1'.heap.size 99 i0 (.agg #[.int .i64 0, .int .i64 0, .int .i64 0]) 3 24 Try.underlying25 HI.out HZ0.out HZ1.out HZ2.out rfl (by decide) _ _ _ rfl HC8.out.r1 ⟨Y, 0, none⟩ 1 1 (cellsT [(x, p, (-1 : Int))]) rfl rfl ?c1 ?c2 ?c3 ?c4 ?c5 ?_)
        case c1 => exact HSRC.out
        case c2 => exact cellsT_one _
        case c3 => have := HNLS.out; unfold maxLen; omega
        case c4 => have := HNLS.out; omega
        case c5 => exact HB8S.out
        intro v9 W9 hown9 hgr9 _
        rw [← hW8] at hgr9
        obtain ⟨pn9, cn9, e9⟩ := own_slice hown9
        subst e9
        obtain ⟨l9, hl9⟩ : ∃ l9, l9 = q.nodes ++ [(x, p, (-1 : Int))] := ⟨_, rfl⟩
        have hlen9 : q.nodes.length + 1 = l9.length := by rw [hl9, List.length_append]; rfl
        rw [← cellsT_append, ← hl9, hlen9] at hown9
        rw [hlen9]
        obtain ⟨k1, k2, k3⟩ := HC8.out.re1 hgr9 hown9
        have HC9 := Lib.hid k3
        have HL9 := Lib.hid hl9
        obtain ⟨L9, hL9⟩ : ∃ L9, L9 = l9.length := ⟨_, rfl⟩
        rw [← hL9] at HC9 ⊢
        clear y0 y1 y2 y3 y4 k3 hlen9 hl9 hgr9 hown9 hL9 hW8 hY
        have g0 : W9.cell? ⟨g, 0, none⟩ = some (.slice pn' q.nodes.length cn') := cell_blk k1 0
        have f0 : W9.frozen? ⟨g, 0, none⟩ = false := frozen_blk k1 0
        clear k1 k2
        go_upto_region 16 with fail
        clear g0 f0
        obtain ⟨W10, hW10⟩ : ∃ W10, W10 = W9.setCell ⟨g, 0, none⟩ (.slice pn9 L9 cn9) := ⟨_, rfl⟩
        rw [← hW10] at HC9 ⊢
        clear hW10
        obtain ⟨y0, y1, y2, y3, y4, _⟩ := HC9.out.facts
        obtain ⟨c0, c1, c2, c3, c4⟩ := HC9.out.cb.facts
        have f1 := (HC9.out.frozen 1).1
        have f4 := (HC9.out.frozen 4).1
        go_upto_region 17 with fail
        have HC11 := Lib.hid ((HC9.out.set1 (q.nodes.length : Int)).set4 false)
        obtain ⟨W11, hW11⟩ : ∃ W11, W11 = (W10.setCell ⟨g, 1, none⟩ (.int .i64 (q.nodes.length : Int))).setCell ⟨g, 4, none⟩ (.bool false) := ⟨_, rfl⟩
        rw [← hW11] at HC11 ⊢
        clear hW11 y0 y1 y2 y3 y4 c0 c1 c2 c3 c4 f1 f4
        obtain ⟨y0, y1, y2, y3, y4, z0, z1, z2, z3, z4⟩ := HC11.out.facts
        have c4 : W11.cell? ⟨w.heap.size, 4, none⟩ = some (.bool q.empty) := HC11.out.cb.facts.2.2.2.2
        have f0 := (HC11.out.frozen 0).2
        have f1 := (HC11.out.frozen 1).2
        have f2 := (HC11.out.frozen 2).2
        have f3 := (HC11.out.frozen 3).2
        have f4 := (HC11.out.frozen 4).2
        have hne : ¬ g = w.heap.size + 1 := by have := HC11.out.low; have := HC11.out.lowg; omega
        have hne' : ¬ w.heap.size + 1 = g := fun e => hne e.symm
        go_region
        obtain ⟨W12, hW12⟩ : ∃ W12, W12 = (((((W11.setCell ⟨w.heap.size + 1, 0, none⟩ (.slice pn9 L9 cn9)).setCell ⟨w.heap.size + 1, 1, none⟩ (.int .i64 (q.nodes.length : Int))).setCell ⟨w.heap.size + 1, 2, none⟩ (.int .i64 D)).setCell ⟨w.heap.size + 1, 3, none⟩ (.slice pp6 L6 cp6)).setCell ⟨w.heap.size + 1, 4, none⟩ (.bool false)) := ⟨_, rfl⟩
        rw [← hW12]
        obtain ⟨k1, k2, k3, k4⟩ := HC11.out.out hW12
        have K1 := Lib.hid k1
        have K3 := Lib.hid k3
        have K4 := Lib.hid k4
        clear y0 y1 y2 y3 y4 z0 z1 z2 z3 z4 f0 f1 f2 f3 f4 k1 k3 k4 hW12 c4 hne hne'
        have c0 : W12.cell? ⟨w.heap.size + 1, 0, none⟩ = some (.slice pn9 L9 cn9) := cell_blk k2 0
        have c1 : W12.cell? ⟨w.heap.size + 1, 1, none⟩ = some (.int .i64 (q.nodes.length : Int)) := cell_blk k2 1
        have c2 : W12.cell? ⟨w.heap.size + 1, 2, none⟩ = some (.int .i64 D) := cell_blk k2 2
        have c3 : W12.cell? ⟨w.heap.size + 1, 3, none⟩ = some (.slice pp6 L6 cp6) := cell_blk k2 3
        have c4 : W12.cell? ⟨w.heap.size + 1, 4, none⟩ = some (.bool false) := cell_blk k2 4
        go_wp2_with fail
        have eM : (q.nodes.length : Int) = (M : Int) + 1 := by rw [HNL.out]; simp
        refine bodyPost_ret (v := .tuple #[.agg #[.slice pn9 L9 cn9, .int .i64 ((M : Int) + 1), .int .i64 D, .slice pp6 L6 cp6, .bool false], .bool q.empty, .int .i64 0]) (by rw [← eM]; simp [results, Try.results10, go_sem, c0, c1, c2, c3, c4]) rfl ⟨_, rfl, HSTF.out _ _ _ ?_ ?_, ?_⟩
        · rw [HBN.out, ← HL9.out]
          exact K3.out
        · rw [HBP.out, HPOS.out, ← eM, ← HL6.out]
          exact K4.out
        · exact K1.out.drew
    · have tk : decide ((k : Int) < (q.pushes.length : Int)) = false := decide_eq_false (by omega)
      have HPOS : Hid (q.pos p = k) := pos_of (by have := HPL.out; omega) HLOW.out (fun o ho => by
        have := (List.getElem?_eq_some_iff.1 ho).1
        have := HPL.out
        omega)
      go_upto_region 14 with fail
      clear y0 y1 y2 y3 y4
      have HINK : Hid (InsC k q.pushes (p, (M : Int), (q.nodes.length : Int))) := by
        show InsC _ _ _
        have := HINS.out
        rw [HPOS.out] at this
        rw [HNL.out]
        have e : (((M + 1 : Nat)) : Int) = (M : Int) + 1 := by simp
        rw [e]
        exact this
      obtain ⟨y0, y1, y2, y3, y4, _⟩ := HC.out.facts
      obtain ⟨c0, c1, c2, c3, c4⟩ := HC.out.cb.facts
      obtain ⟨X, hX⟩ : ∃ X, X = wr.heap.size := ⟨_, rfl⟩
      obtain ⟨W5, hW5⟩ : ∃ W5, W5 = wr.alloc (Obj.cells #[.int .i64 p, .int .i64 (M : Int), .int .i64 (q.nodes.length : Int)] 102) := ⟨_, rfl⟩
      have hb5 : Below wr.heap.size wr W5 := by rw [hW5]; exact (Below.refl _ _).alloc (Nat.le_refl _) _
      have hx5 : W5.heap[X]? = some (.cells (trip (p, (M : Int), (q.nodes.length : Int))).toArray 102 (0, 0)) := by rw [hW5, hX]; exact (MapKept.heap_alloc _ _).1
      have HX5 := Lib.hid hx5
      have HC5 := Lib.hid (HC.out.step hb5)
      have HFX : Hid ((Value.slice pp' q.pushes.length cp').ownBlock ≠ some X) := by rw [hX]; exact own_fresh HC.out.r2
      have HB5S : Hid (W1'.heap.size ≤ W5.heap.size) := Nat.le_trans HC.out.lowg (Nat.le_of_lt (Nat.lt_of_lt_of_le (blk_lt HC.out.box) hb5.size))
      clear hb5 hx5
      go_wp2_with fail
      rw [← hW5, ← hX]
      refine (HINK.out W5 _ X _ HC5.out.r2 HB5S.out HX5.out HFX.out).mono ?_
      rintro e W6 ⟨ps6, rfl, ho6, hg6⟩
      clear hW5 hX
      obtain ⟨pp6, cp6, e6⟩ := own_slice ho6
      subst e6
      obtain ⟨l6, hl6⟩ : ∃ l6, l6 = q.pushes.take k ++ (p, (M : Int), (q.nodes.length : Int)) :: q.pushes.drop k := ⟨_, rfl⟩
      rw [← hl6] at ho6
      have hlen6 : q.pushes.length + 1 = l6.length := by rw [hl6, List.length_append, List.length_take, List.length_cons, List.length_drop]; omega
      rw [hlen6] at ho6 ⊢
      obtain ⟨k1, k2, k3⟩ := HC5.out.re2 hg6 ho6
      have HC7 := Lib.hid k3
      have HL6 := Lib.hid hl6
      obtain ⟨L6, hL6⟩ : ∃ L6, L6 = l6.length := ⟨_, rfl⟩
      rw [← hL6] at HC7 ⊢
      clear y0 y1 y2 y3 y4 c0 c1 c2 c3 c4 k3 hlen6 hl6 hg6 ho6 hL6
      have g3 : W6.cell? ⟨g, 3, none⟩ = some (.slice pp' q.pushes.length cp') := cell_blk k1 3
      have f3 : W6.frozen? ⟨g, 3, none⟩ = false := frozen_blk k1 3
      clear k1 k2
      go_upto_region 15 with fail
      clear g3 f3
      obtain ⟨W7, hW7⟩ : ∃ W7, W7 = W6.setCell ⟨g, 3, none⟩ (.slice pp6 L6 cp6) := ⟨_, rfl⟩
      rw [← hW7] at HC7 ⊢
      clear hW7
      obtain ⟨y0, y1, y2, y3, y4, _⟩ := HC7.out.facts
      obtain ⟨Y, hY⟩ : ∃ Y, Y = W7.heap.size := ⟨_, rfl⟩
      obtain ⟨W8, hW8⟩ : ∃ W8, W8 = W7.alloc (Obj.cells #[.int .i64 x, .int .i64 p, .int .i64 (-1)] 99) := ⟨_, rfl⟩
      have hb8 : Below W7.heap.size W7 W8 := by rw [hW8]; exact (Below.refl _ _).alloc (Nat.le_refl _) _
      have hx8 : W8.heap[Y]? = some (.cells (trip (x, p, -1)).toArray 99 (0, 0)) := by rw [hW8, hY]; exact (MapKept.heap_alloc _ _).1
      have HSRC : Hid (∀ j u, (cellsT [(x, p, (-1 : Int))])[j]? = some u → W8.cell? ((⟨Y, 0, none⟩ : Addr).add j) = some u) := by
        intro j u hj
        have e : cellsT [(x, p, (-1 : Int))] = trip (x, p, -1) := by simp [cellsT]
        rw [e] at hj
        rw [Addr.add_lit, Nat.zero_add]
        refine (cell_blk hx8 j).trans ?_
        rw [List.getElem?_toArray]
        exact hj
      have HC8 := Lib.hid (HC7.out.step hb8)
      have HB8S : Hid (W1'.heap.size ≤ W8.heap.size) := Nat.le_trans HC8.out.lowg (Nat.le_of_lt (blk_lt HC8.out.box))
      have HNLS : Hid (q.nodes.length ≤ 2000) := by show _ ≤ _; rw [HNL.out]; have := HMM.out; have := HM.out; omega
      clear hb8 hx8
      go_wp2_with (at_builtin; rw [← hW8, ← hY]; refine wpList_append_own _ rfl _ _ 25 rfl W1'.heap.size 99 i0 (.agg #[.int .i64 0, .int .i64 0, .int .i64 0]) 3 24 Try.underlying25 HI.out HZ0.out HZ1.out HZ2.out rfl (by decide) _ _ _ rfl HC8.out.r1 ⟨Y, 0, none⟩ 1 1 (cellsT [(x, p, (-1 : Int))]) rfl rfl ?c1 ?c2 ?c3 ?c4 ?c5 ?_)
      case c1 => exact HSRC.out
      case c2 => exact cellsT_one _
      case c3 => have := HNLS.out; unfold maxLen; omega
      case c4 => have := HNLS.out; omega
      case c5 => exact HB8S.out
      intro v9 W9 hown9 hgr9 _
      rw [← hW8] at hgr9
      obtain ⟨pn9, cn9, e9⟩ := own_slice hown9
      subst e9
      obtain ⟨l9, hl9⟩ : ∃ l9, l9 = q.nodes ++ [(x, p, (-1 : Int))] := ⟨_, rfl⟩
      have hlen9 : q.nodes.length + 1 = l9.length := by rw [hl9, List.length_append]; rfl
      rw [← cellsT_append, ← hl9, hlen9] at hown9
      rw [hlen9]
      obtain ⟨k1, k2, k3⟩ := HC8.out.re1 hgr9 hown9
      have HC9 := Lib.hid k3
      have HL9 := Lib.hid hl9
      obtain ⟨L9, hL9⟩ : ∃ L9, L9 = l9.length := ⟨_, rfl⟩
      rw [← hL9] at HC9 ⊢
      clear y0 y1 y2 y3 y4 k3 hlen9 hl9 hgr9 hown9 hL9 hW8 hY
      have g0 : W9.cell? ⟨g, 0, none⟩ = some (.slice pn' q.nodes.length cn') := cell_blk k1 0
      have f0 : W9.frozen? ⟨g, 0, none⟩ = false := frozen_blk k1 0
      clear k1 k2
      go_upto_region 16 with fail
      clear g0 f0
      obtain ⟨W10, hW10⟩ : ∃ W10, W10 = W9.setCell ⟨g, 0, none⟩ (.slice pn9 L9 cn9) := ⟨_, rfl⟩
      rw [← hW10] at HC9 ⊢
      clear hW10
      obtain ⟨y0, y1, y2, y3, y4, _⟩ := HC9.out.facts
      obtain ⟨c0, c1, c2, c3, c4⟩ := HC9.out.cb.facts
      have f1 := (HC9.out.frozen 1).1
      have f4 := (HC9.out.frozen 4).1
      go_upto_region 17 with fail
      have HC11 := Lib.hid ((HC9.out.set1 (q.nodes.length : Int)).set4 false)
      obtain ⟨W11, hW11⟩ : ∃ W11, W11 = (W10.setCell ⟨g, 1, none⟩ (.int .i64 (q.nodes.length : Int))).setCell ⟨g, 4, none⟩ (.bool false) := ⟨_, rfl⟩
      rw [← hW11] at HC11 ⊢
      clear hW11 y0 y1 y2 y3 y4 c0 c1 c2 c3 c4 f1 f4
      obtain ⟨y0, y1, y2, y3, y4, z0, z1, z2, z3, z4⟩ := HC11.out.facts
      have c4 : W11.cell? ⟨w.heap.size, 4, none⟩ = some (.bool q.empty) := HC11.out.cb.facts.2.2.2.2
      have f0 := (HC11.out.frozen 0).2
      have f1 := (HC11.out.frozen 1).2
      have f2 := (HC11.out.frozen 2).2
      have f3 := (HC11.out.frozen 3).2
      have f4 := (HC11.out.frozen 4).2
      have hne : ¬ g = w.heap.size + 1 := by have := HC11.out.low; have := HC11.out.lowg; omega
      have hne' : ¬ w.heap.size + 1 = g := fun e => hne e.symm
      go_region
      obtain ⟨W12, hW12⟩ : ∃ W12, W12 = (((((W11.setCell ⟨w.heap.size + 1, 0, none⟩ (.slice pn9 L9 cn9)).setCell ⟨w.heap.size + 1, 1, none⟩ (.int .i64 (q.nodes.length : Int))).setCell ⟨w.heap.size + 1, 2, none⟩ (.int .i64 D)).setCell ⟨w.heap.size + 1, 3, none⟩ (.slice pp6 L6 cp6)).setCell ⟨w.heap.size + 1, 4, none⟩ (.bool false)) := ⟨_, rfl⟩
      rw [← hW12]
      obtain ⟨k1, k2, k3, k4⟩ := HC11.out.out hW12
      have K1 := Lib.hid k1
      have K3 := Lib.hid k3
      have K4 := Lib.hid k4
      clear y0 y1 y2 y3 y4 z0 z1 z2 z3 z4 f0 f1 f2 f3 f4 k1 k3 k4 hW12 c4 hne hne'
      have c0 : W12.cell? ⟨w.heap.size + 1, 0, none⟩ = some (.slice pn9 L9 cn9) := cell_blk k2 0
      have c1 : W12.cell? ⟨w.heap.size + 1, 1, none⟩ = some (.int .i64 (q.nodes.length : Int)) := cell_blk k2 1
      have c2 : W12.cell? ⟨w.heap.size + 1, 2, none⟩ = some (.int .i64 D) := cell_blk k2 2
      have c3 : W12.cell? ⟨w.heap.size + 1, 3, none⟩ = some (.slice pp6 L6 cp6) := cell_blk k2 3
      have c4 : W12.cell? ⟨w.heap.size + 1, 4, none⟩ = some (.bool false) := cell_blk k2 4
      go_wp2_with fail
      have eM : (q.nodes.length : Int) = (M : Int) + 1 := by rw [HNL.out]; simp
      refine bodyPost_ret (v := .tuple #[.agg #[.slice pn9 L9 cn9, .int .i64 ((M : Int) + 1), .int .i64 D, .slice pp6 L6 cp6, .bool false], .bool q.empty, .int .i64 0]) (by rw [← eM]; simp [results, Try.results10, go_sem, c0, c1, c2, c3, c4]) rfl ⟨_, rfl, HSTF.out _ _ _ ?_ ?_, ?_⟩
      · rw [HBN.out, ← HL9.out]
        exact K3.out
      · rw [HBP.out, HPOS.out, ← eM, ← HL6.out]
        exact K4.out
      · exact K1.out.drew
end Go.Proofs.Ytgbafpjeapkklaa.Mb
namespace Go.Proofs.Ytgbafpjeapkklaa.Mb
open Go.RowKit
set_option linter.unusedVariables false
set_option linter.unusedSimpArgs false
set_option maxRecDepth 100000 in
set_option maxHeartbeats 4000000 in
theorem PopYes_at {q : Q} (hq : WF q) {v : Value} (hc : q.can q.done = true) (w : World) (hv : St w v q) :
    Calls Try.prog 21 #[v] w fun e w' => ∃ v', e = .returned (.tuple #[v', .int .i64 (q.val q.done), .bool true, .int .i64 0]) ∧ St w' v' { q with done := (q.done + 1) } ∧ Below w.heap.size w w' := by
  obtain ⟨ns, ps, rfl, hn, hp⟩ := hv
  have hfew := hq.few
  have hfo := hq.fewo
  have hdm := hq.done
  have HCK : Hid (∀ W, Below w.heap.size w W → Calls Try.prog 18 #[.agg #[ns, .int .i64 q.m, .int .i64 q.done, ps, .bool q.empty]] W fun e w' => e = .returned (.int .i64 0) ∧ Below W.heap.size W w') := fun W h => check_at hq ns ps W (hn.below h).1 (hp.below h).1
  have HCL : Hid (∀ W, Below w.heap.size w W → Calls Try.prog 40 #[.agg #[ns, .int .i64 q.m, .int .i64 q.done, ps, .bool q.empty]] W fun e w' => ∃ ns' ps', e = .returned (.agg #[ns', .int .i64 q.m, .int .i64 q.done, ps', .bool q.empty]) ∧
      w'.ownsRow W.heap.size 99 3 ns' q.nodes.length (cellsT q.nodes) ∧ w'.ownsRow W.heap.size 102 3 ps' q.pushes.length (cellsT q.pushes) ∧ Below W.heap.size W w') :=
    fun W h => clone_at (hn.below h).1 (hp.below h).1 (by rw [nodes_len]; omega) (by rw [pushes_len]; omega) _ _ _
  have HB0 : Hid (CB w ns ps q.m q.done q.empty ((w.alloc (Obj.cells #[ns, .int .i64 q.m, .int .i64 q.done, ps, .bool q.empty] 28)).alloc (Obj.cells #[.slice none 0 0, .int .i64 0, .int .i64 0, .slice none 0 0, .bool false] 28))) := CB.mk w ns ps q.m q.done q.empty
  obtain ⟨pn, cn, hA⟩ := hn.slice
  obtain ⟨pp, cp, hB⟩ := hp.slice
  subst hA
  subst hB
  clear hn hp
  have HDM := Lib.hid hdm
  obtain ⟨D', hD'⟩ : ∃ D' : Nat, D' = q.done + 1 := ⟨_, rfl⟩
  have HSTF : Hid (∀ (W : World) (a b : Value) , TriT W 99 a q.nodes → TriT W 102 b q.pushes → St W (.agg #[a, .int .i64 q.m, .int .i64 D', b, .bool q.empty]) { q with done := D' }) := fun W a b h1 h2 => ⟨a, b, rfl, h1, h2⟩
  rw [← hD']
  have HD' := Lib.hid hD'
  have HCAN := Lib.hid hc
  obtain ⟨vv, hvv⟩ : ∃ vv, vv = q.val q.done := ⟨_, rfl⟩
  have HVV := Lib.hid hvv
  rw [← hvv]
  clear hc hdm hfew hfo hD' hvv
  generalize hM : q.m = M at *
  generalize hD : q.done = D at *
  have HM := Lib.hid hM
  clear hM hD
  go_enter Try.func21, Try.ntmps21
  go_upto_region 1 with fail
  generalize ((w.alloc (Obj.cells #[.slice pn q.nodes.length cn, .int .i64 M, .int .i64 D, .slice pp q.pushes.length cp, .bool q.empty] 28)).alloc (Obj.cells #[.slice none 0 0, .int .i64 0, .int .i64 0, .slice none 0 0, .bool false] 28)) = W0 at *
  obtain ⟨c0, c1, c2, c3, c4⟩ := HB0.out.facts
  go_wp2_with fail
  refine (HCK.out _ HB0.out.1).mono ?_
  rintro e W1 ⟨rfl, hb1⟩
  have HB1 := Lib.hid (HB0.out.step hb1)
  clear hb1 c0 c1 c2 c3 c4
  obtain ⟨c0, c1, c2, c3, c4⟩ := HB1.out.facts
  go_wp2_with fail
  refine (HCL.out _ HB1.out.1).mono ?_
  rintro e W2 ⟨ns', ps', rfl, r1, r2, hb2⟩
  obtain ⟨pn', cn', hA⟩ := own_slice r1
  obtain ⟨pp', cp', hB⟩ := own_slice r2
  subst hA
  subst hB
  have HB2 := Lib.hid (HB1.out.step hb2)
  obtain ⟨g, W3, hg, hW3, hC3⟩ := CO.made M D q.empty HB2.out HB1.out.size hb2.size r1 r2
  have HC3 : Hid (COq w (.slice pn q.nodes.length cn) (.slice pp q.pushes.length cp) M D q.empty g W1.heap.size (.slice pn' q.nodes.length cn') (.slice pp' q.pushes.length cp') q D W3) := by unfold COq; rw [HM.out]; exact hC3
  clear hb2 r1 r2 c0 c1 c2 c3 c4 hC3
  go_upto_region 5 with fail
  rw [← hg, ← hW3]
  clear hg hW3
  go_wp2_with fail
  refine (pop_yes' HC3.out (by rw [HM.out]; exact HDM.out) HCAN.out).mono ?_
  rintro e W4 ⟨rfl, hc4, _, _⟩
  have HC4 : Hid (COq w (.slice pn q.nodes.length cn) (.slice pp q.pushes.length cp) M D q.empty g W1.heap.size (.slice pn' q.nodes.length cn') (.slice pp' q.pushes.length cp') q D' W4) := by have := HD'.out; subst this; exact hc4
  clear hc4
  obtain ⟨y0, y1, y2, y3, y4, z0, z1, z2, z3, z4⟩ := HC4.out.facts
  rw [HM.out] at y1
  have f0 := (HC4.out.frozen 0).2
  have f1 := (HC4.out.frozen 1).2
  have f2 := (HC4.out.frozen 2).2
  have f3 := (HC4.out.frozen 3).2
  have f4 := (HC4.out.frozen 4).2
  rw [← HVV.out]
  go_wp2_with fail
  obtain ⟨W5, hW5⟩ : ∃ W5, W5 = (((((W4.setCell ⟨w.heap.size + 1, 0, none⟩ (.slice pn' q.nodes.length cn')).setCell ⟨w.heap.size + 1, 1, none⟩ (.int .i64 M)).setCell ⟨w.heap.size + 1, 2, none⟩ (.int .i64 D')).setCell ⟨w.heap.size + 1, 3, none⟩ (.slice pp' q.pushes.length cp')).setCell ⟨w.heap.size + 1, 4, none⟩ (.bool q.empty)) := ⟨_, rfl⟩
  rw [← hW5]
  have hW5' := hW5
  rw [← HM.out] at hW5'
  obtain ⟨k1, k2, k3, k4⟩ := HC4.out.out hW5'
  rw [HM.out] at k2
  have K1 := Lib.hid k1
  have K3 := Lib.hid k3
  have K4 := Lib.hid k4
  clear y0 y1 y2 y3 y4 z0 z1 z2 z3 z4 f0 f1 f2 f3 f4 k1 k3 k4 hW5 hW5'
  have c0 : W5.cell? ⟨w.heap.size + 1, 0, none⟩ = some (.slice pn' q.nodes.length cn') := cell_blk k2 0
  have c1 : W5.cell? ⟨w.heap.size + 1, 1, none⟩ = some (.int .i64 M) := cell_blk k2 1
  have c2 : W5.cell? ⟨w.heap.size + 1, 2, none⟩ = some (.int .i64 D') := cell_blk k2 2
  have c3 : W5.cell? ⟨w.heap.size + 1, 3, none⟩ = some (.slice pp' q.pushes.length cp') := cell_blk k2 3
  have c4 : W5.cell? ⟨w.heap.size + 1, 4, none⟩ = some (.bool q.empty) := cell_blk k2 4
  refine bodyPost_ret (v := .tuple #[.agg #[.slice pn' q.nodes.length cn', .int .i64 M, .int .i64 D', .slice pp' q.pushes.length cp', .bool q.empty], .int .i64 vv, .bool true, .int .i64 0]) (by simp [results, Try.results21, go_sem, c0, c1, c2, c3, c4]) rfl ⟨_, rfl, HSTF.out _ _ _ ?_ ?_, ?_⟩
  · exact K3.out
  · exact K4.out
  · exact K1.out
set_option maxRecDepth 100000 in
set_option maxHeartbeats 4000000 in
theorem PopNo_at {q : Q} (hq : WF q) {v : Value} (hc : q.can q.done = false) (w : World) (hv : St w v q) :
    Calls Try.prog 21 #[v] w fun e w' => ∃ v', e = .returned (.tuple #[v', .int .i64 0, .bool false, .int .i64 0]) ∧ St w' v' { q with done := q.done } ∧ Below w.heap.size w w' := by
  obtain ⟨ns, ps, rfl, hn, hp⟩ := hv
  have hfew := hq.few
  have hfo := hq.fewo
  have hdm := hq.done
  have HCK : Hid (∀ W, Below w.heap.size w W → Calls Try.prog 18 #[.agg #[ns, .int .i64 q.m, .int .i64 q.done, ps, .bool q.empty]] W fun e w' => e = .returned (.int .i64 0) ∧ Below W.heap.size W w') := fun W h => check_at hq ns ps W (hn.below h).1 (hp.below h).1
  have HCL : Hid (∀ W, Below w.heap.size w W → Calls Try.prog 40 #[.agg #[ns, .int .i64 q.m, .int .i64 q.done, ps, .bool q.empty]] W fun e w' => ∃ ns' ps', e = .returned (.agg #[ns', .int .i64 q.m, .int .i64 q.done, ps', .bool q.empty]) ∧
      w'.ownsRow W.heap.size 99 3 ns' q.nodes.length (cellsT q.nodes) ∧ w'.ownsRow W.heap.size 102 3 ps' q.pushes.length (cellsT q.pushes) ∧ Below W.heap.size W w') :=
    fun W h => clone_at (hn.below h).1 (hp.below h).1 (by rw [nodes_len]; omega) (by rw [pushes_len]; omega) _ _ _
  have HB0 : Hid (CB w ns ps q.m q.done q.empty ((w.alloc (Obj.cells #[ns, .int .i64 q.m, .int .i64 q.done, ps, .bool q.empty] 28)).alloc (Obj.cells #[.slice none 0 0, .int .i64 0, .int .i64 0, .slice none 0 0, .bool false] 28))) := CB.mk w ns ps q.m q.done q.empty
  obtain ⟨pn, cn, hA⟩ := hn.slice
  obtain ⟨pp, cp, hB⟩ := hp.slice
  subst hA
  subst hB
  clear hn hp
  have HDM := Lib.hid hdm
  have HSTF : Hid (∀ (W : World) (a b : Value) , TriT W 99 a q.nodes → TriT W 102 b q.pushes → St W (.agg #[a, .int .i64 q.m, .int .i64 q.done, b, .bool q.empty]) { q with done := q.done }) := fun W a b h1 h2 => ⟨a, b, rfl, h1, h2⟩
  have HCAN := Lib.hid hc
  obtain ⟨vv, hvv⟩ : ∃ vv, vv = q.val q.done := ⟨_, rfl⟩
  have HVV := Lib.hid hvv
  clear hc hdm hfew hfo  hvv
  generalize hM : q.m = M at *
  generalize hD : q.done = D at *
  have HM := Lib.hid hM
  clear hM hD
  go_enter Try.func21, Try.ntmps21
  go_upto_region 1 with fail
  generalize ((w.alloc (Obj.cells #[.slice pn q.nodes.length cn, .int .i64 M, .int .i64 D, .slice pp q.pushes.length cp, .bool q.empty] 28)).alloc (Obj.cells #[.slice none 0 0, .int .i64 0, .int .i64 0, .slice none 0 0, .bool false] 28)) = W0 at *
  obtain ⟨c0, c1, c2, c3, c4⟩ := HB0.out.facts
  go_wp2_with fail
  refine (HCK.out _ HB0.out.1).mono ?_
  rintro e W1 ⟨rfl, hb1⟩
  have HB1 := Lib.hid (HB0.out.step hb1)
  clear hb1 c0 c1 c2 c3 c4
  obtain ⟨c0, c1, c2, c3, c4⟩ := HB1.out.facts
  go_wp2_with fail
  refine (HCL.out _ HB1.out.1).mono ?_
  rintro e W2 ⟨ns', ps', rfl, r1, r2, hb2⟩
  obtain ⟨pn', cn', hA⟩ := own_slice r1
  obtain ⟨pp', cp', hB⟩ := own_slice r2
  subst hA
  subst hB
  have HB2 := Lib.hid (HB1.out.step hb2)
  obtain ⟨g, W3, hg, hW3, hC3⟩ := CO.made M D q.empty HB2.out HB1.out.size hb2.size r1 r2
  have HC3 : Hid (COq w (.slice pn q.nodes.length cn) (.slice pp q.pushes.length cp) M D q.empty g W1.heap.size (.slice pn' q.nodes.length cn') (.slice pp' q.pushes.length cp') q D W3) := by unfold COq; rw [HM.out]; exact hC3
  clear hb2 r1 r2 c0 c1 c2 c3 c4 hC3
  go_upto_region 5 with fail
  rw [← hg, ← hW3]
  clear hg hW3
  go_wp2_with fail
  refine (pop_no' HC3.out (by rw [HM.out]; exact HDM.out) HCAN.out).mono ?_
  rintro e W4 ⟨rfl, hc4, _⟩
  have HC4 : Hid (COq w (.slice pn q.nodes.length cn) (.slice pp q.pushes.length cp) M D q.empty g W1.heap.size (.slice pn' q.nodes.length cn') (.slice pp' q.pushes.length cp') q D W4) := by  exact hc4
  clear hc4
  obtain ⟨y0, y1, y2, y3, y4, z0, z1, z2, z3, z4⟩ := HC4.out.facts
  rw [HM.out] at y1
  have f0 := (HC4.out.frozen 0).2
  have f1 := (HC4.out.frozen 1).2
  have f2 := (HC4.out.frozen 2).2
  have f3 := (HC4.out.frozen 3).2
  have f4 := (HC4.out.frozen 4).2
  go_wp2_with fail
  obtain ⟨W5, hW5⟩ : ∃ W5, W5 = (((((W4.setCell ⟨w.heap.size + 1, 0, none⟩ (.slice pn' q.nodes.length cn')).setCell ⟨w.heap.size + 1, 1, none⟩ (.int .i64 M)).setCell ⟨w.heap.size + 1, 2, none⟩ (.int .i64 D)).setCell ⟨w.heap.size + 1, 3, none⟩ (.slice pp' q.pushes.length cp')).setCell ⟨w.heap.size + 1, 4, none⟩ (.bool q.empty)) := ⟨_, rfl⟩
  rw [← hW5]
  have hW5' := hW5
  rw [← HM.out] at hW5'
  obtain ⟨k1, k2, k3, k4⟩ := HC4.out.out hW5'
  rw [HM.out] at k2
  have K1 := Lib.hid k1
  have K3 := Lib.hid k3
  have K4 := Lib.hid k4
  clear y0 y1 y2 y3 y4 z0 z1 z2 z3 z4 f0 f1 f2 f3 f4 k1 k3 k4 hW5 hW5'
  have c0 : W5.cell? ⟨w.heap.size + 1, 0, none⟩ = some (.slice pn' q.nodes.length cn') := cell_blk k2 0
  have c1 : W5.cell? ⟨w.heap.size + 1, 1, none⟩ = some (.int .i64 M) := cell_blk k2 1
  have c2 : W5.cell? ⟨w.heap.size + 1, 2, none⟩ = some (.int .i64 D) := cell_blk k2 2
  have c3 : W5.cell? ⟨w.heap.size + 1, 3, none⟩ = some (.slice pp' q.pushes.length cp') := cell_blk k2 3
  have c4 : W5.cell? ⟨w.heap.size + 1, 4, none⟩ = some (.bool q.empty) := cell_blk k2 4
  refine bodyPost_ret (v := .tuple #[.agg #[.slice pn' q.nodes.length cn', .int .i64 M, .int .i64 D, .slice pp' q.pushes.length cp', .bool q.empty], .int .i64 0, .bool false, .int .i64 0]) (by simp [results, Try.results21, go_sem, c0, c1, c2, c3, c4]) rfl ⟨_, rfl, HSTF.out _ _ _ ?_ ?_, ?_⟩
  · exact K3.out
  · exact K4.out
  · exact K1.out
def q0 : Q := { vals := [], opn := [], done := 0, empty := true }
theorem q0_wf : WF q0 where
  few := by decide
  fewo := by decide
  prod := by intro x hx; cases hx
  sorted := List.Pairwise.nil
  opn := by intro o ho; cases ho
  done := by decide
  linked := by intro j _ _; rfl
  mt := by intro _; rfl
set_option maxRecDepth 100000 in
set_option maxHeartbeats 1000000 in
theorem new_at (w : World) : Calls Try.prog 9 #[] w fun e w' => ∃ v, e = .returned v ∧ St w' v q0 ∧ Below w.heap.size w w' := by
  have h1 : Below w.heap.size w (w.alloc (Obj.cells #[.slice (some ⟨w.heap.size + 1, 0, none⟩) 1 1, .int .i64 0, .int .i64 0, .slice none 0 0, .bool true] 28)) := (Below.refl _ _).alloc (Nat.le_refl _) _
  have h2 := (Below.refl (w.alloc (Obj.cells #[.slice (some ⟨w.heap.size + 1, 0, none⟩) 1 1, .int .i64 0, .int .i64 0, .slice none 0 0, .bool true] 28)).heap.size (w.alloc (Obj.cells #[.slice (some ⟨w.heap.size + 1, 0, none⟩) 1 1, .int .i64 0, .int .i64 0, .slice none 0 0, .bool true] 28))).alloc (Nat.le_refl _) (Obj.cells #[.int .i64 0, .int .i64 (-1), .int .i64 (-1)] 99)
  have h3 := (MapKept.heap_alloc w (Obj.cells #[.slice (some ⟨w.heap.size + 1, 0, none⟩) 1 1, .int .i64 0, .int .i64 0, .slice none 0 0, .bool true] 28)).1
  have h4 := (MapKept.heap_alloc (w.alloc (Obj.cells #[.slice (some ⟨w.heap.size + 1, 0, none⟩) 1 1, .int .i64 0, .int .i64 0, .slice none 0 0, .bool true] 28)) (Obj.cells #[.int .i64 0, .int .i64 (-1), .int .i64 (-1)] 99)).1
  have hsz : (w.alloc (Obj.cells #[.slice (some ⟨w.heap.size + 1, 0, none⟩) 1 1, .int .i64 0, .int .i64 0, .slice none 0 0, .bool true] 28)).heap.size = w.heap.size + 1 := by simp
  have h5 := (h2.block _ (blk_lt h3)).trans h3
  have h6 := h1.trans (h2.mono h1.size)
  rw [hsz] at h4
  obtain ⟨W, hW⟩ : ∃ W, W = ((w.alloc (Obj.cells #[.slice (some ⟨w.heap.size + 1, 0, none⟩) 1 1, .int .i64 0, .int .i64 0, .slice none 0 0, .bool true] 28)).alloc (Obj.cells #[.int .i64 0, .int .i64 (-1), .int .i64 (-1)] 99)) := ⟨_, rfl⟩
  rw [← hW] at h4 h5 h6
  have H4 := Lib.hid h4
  have H6 := Lib.hid h6
  clear h1 h2 h3 hsz h4 h6
  go_enter Try.func9, Try.ntmps9
  go_wp2_with fail
  rw [← hW]
  clear hW
  have c0 : W.cell? ⟨w.heap.size, 0, none⟩ = some (.slice (some ⟨w.heap.size + 1, 0, none⟩) 1 1) := cell_blk h5 0
  have c1 : W.cell? ⟨w.heap.size, 1, none⟩ = some (.int .i64 0) := cell_blk h5 1
  have c2 : W.cell? ⟨w.heap.size, 2, none⟩ = some (.int .i64 0) := cell_blk h5 2
  have c3 : W.cell? ⟨w.heap.size, 3, none⟩ = some (.slice none 0 0) := cell_blk h5 3
  have c4 : W.cell? ⟨w.heap.size, 4, none⟩ = some (.bool true) := cell_blk h5 4
  refine bodyPost_ret (v := .agg #[.slice (some ⟨w.heap.size + 1, 0, none⟩) 1 1, .int .i64 0, .int .i64 0, .slice none 0 0, .bool true]) (by simp [results, Try.results9, go_sem, c0, c1, c2, c3, c4]) rfl ⟨_, rfl, ⟨_, _, rfl, ?_, ?_⟩, ?_⟩
  · refine ⟨⟨_, _, rfl, Nat.le_refl _, .inr ⟨_, _, rfl, blk_lt H4.out, fun k x hx => ?_⟩⟩, fun g hg => by simp [Value.ownBlock] at hg; subst hg; exact ⟨_, _, H4.out⟩⟩
    have e : q0.nodes = [(0, -1, -1)] := by decide
    rw [e] at hx
    cases k with
    | zero =>
      simp at hx; subst hx
      exact ⟨cell_blk H4.out 0, cell_blk H4.out 1, cell_blk H4.out 2⟩
    | succ k => simp at hx
  · exact ⟨⟨none, 0, rfl, Nat.le_refl _, .inl rfl⟩, fun g hg => by simp [Value.ownBlock] at hg⟩
  · exact H6.out
end Go.Proofs.Ytgbafpjeapkklaa.Mb
namespace Go.Proofs.Ytgbafpjeapkklaa.Mb
open Go.RowKit
set_option linter.unusedVariables false
set_option linter.unusedSimpArgs false
structure SB (w : World) (X : Nat) (ns ps : Value) (q : Q) (W : World) : Prop where
  below : Below w.heap.size w W
  low : w.heap.size ≤ X
  box : W.heap[X]? = some (.cells #[ns, .int .i64 q.m, .int .i64 q.done, ps, .bool q.empty] 28 (0, 0))
  t1 : TriT W 99 ns q.nodes
  t2 : TriT W 102 ps q.pushes
theorem SB.step {w : World} {X : Nat} {ns ps : Value} {q : Q} {W W' : World} (h : SB w X ns ps q W) (hb : Below W.heap.size W W') : SB w X ns ps q W' :=
  ⟨h.below.trans (hb.mono h.below.size), h.low, (hb.block _ (blk_lt h.box)).trans h.box, h.t1.below hb, h.t2.below hb⟩
theorem SB.st {w : World} {X : Nat} {ns ps : Value} {q : Q} {W : World} (h : SB w X ns ps q W) : St W (.agg #[ns, .int .i64 q.m, .int .i64 q.done, ps, .bool q.empty]) q := ⟨ns, ps, rfl, h.t1, h.t2⟩
theorem SB.facts {w : World} {X : Nat} {ns ps : Value} {q : Q} {W : World} (h : SB w X ns ps q W) :
    W.cell? ⟨X, 0, none⟩ = some ns ∧ W.cell? ⟨X, 1, none⟩ = some (.int .i64 q.m) ∧ W.cell? ⟨X, 2, none⟩ = some (.int .i64 q.done) ∧ W.cell? ⟨X, 3, none⟩ = some ps ∧ W.cell? ⟨X, 4, none⟩ = some (.bool q.empty) :=
  ⟨cell_blk h.box 0, cell_blk h.box 1, cell_blk h.box 2, cell_blk h.box 3, cell_blk h.box 4⟩
theorem SB.frz {w : World} {X : Nat} {ns ps : Value} {q : Q} {W : World} (h : SB w X ns ps q W) :
    W.frozen? ⟨X, 0, none⟩ = false ∧ W.frozen? ⟨X, 1, none⟩ = false ∧ W.frozen? ⟨X, 2, none⟩ = false ∧ W.frozen? ⟨X, 3, none⟩ = false ∧ W.frozen? ⟨X, 4, none⟩ = false :=
  ⟨frozen_blk h.box 0, frozen_blk h.box 1, frozen_blk h.box 2, frozen_blk h.box 3, frozen_blk h.box 4⟩
theorem TriT.keep {W W' : World} {e : TypeId} {v : Value} {l : List (Int × Int × Int)} (h : TriT W e v l) (hs : W.heap.size ≤ W'.heap.size) (hk : ∀ (k : Nat) (C : Array Value) (f : Nat × Nat), W.heap[k]? = some (.cells C e f) → W'.heap[k]? = W.heap[k]?) : TriT W' e v l := by
  obtain ⟨⟨p, cap, rfl, hc, h1⟩, h2⟩ := h
  refine ⟨⟨p, cap, rfl, hc, ?_⟩, fun g hg => ?_⟩
  · rcases h1 with h1 | ⟨g, off, rfl, hg, h1⟩
    · exact .inl h1
    · obtain ⟨cur, f, hcur⟩ := h2 g rfl
      have e' := hk _ _ _ hcur
      refine .inr ⟨g, off, rfl, Nat.lt_of_lt_of_le hg hs, fun k x hx => ?_⟩
      obtain ⟨a, b, c⟩ := h1 k x hx
      exact ⟨(World.cell?_of_block (a := ⟨g, off + k * 3, none⟩) e').trans a, (World.cell?_of_block (a := ⟨g, off + k * 3 + 1, none⟩) e').trans b, (World.cell?_of_block (a := ⟨g, off + k * 3 + 2, none⟩) e').trans c⟩
  · obtain ⟨cur, f, hcur⟩ := h2 g hg
    exact ⟨cur, f, (hk _ _ _ hcur).trans hcur⟩
theorem TriT.five {W : World} {e t : TypeId} {v : Value} {l : List (Int × Int × Int)} (h : TriT W e v l) {X : Nat} {C : Array Value} {f : Nat × Nat} (hX : W.heap[X]? = some (.cells C t f)) (ht : e ≠ t) (v0 v1 v2 v3 v4 : Value) :
    TriT (((((W.setCell ⟨X, 0, none⟩ v0).setCell ⟨X, 1, none⟩ v1).setCell ⟨X, 2, none⟩ v2).setCell ⟨X, 3, none⟩ v3).setCell ⟨X, 4, none⟩ v4) e v l := by
  refine h.keep (by simp [World.setCell]) fun k C' f' hk => ?_
  have hne : k ≠ X := by
    rintro rfl
    rw [hk] at hX
    injection hX with hX
    injection hX with _ h2 _
    exact ht h2
  rw [Below.heap_setCell _ _ _ _ hne, Below.heap_setCell _ _ _ _ hne, Below.heap_setCell _ _ _ _ hne, Below.heap_setCell _ _ _ _ hne, Below.heap_setCell _ _ _ _ hne]
theorem SB.put {w : World} {X : Nat} {ns ps : Value} {q : Q} {W : World} (h : SB w X ns ps q W) {ns' ps' : Value} {q' : Q} (h1 : TriT W 99 ns' q'.nodes) (h2 : TriT W 102 ps' q'.pushes) {W' : World}
    (hW : W' = (((((W.setCell ⟨X, 0, none⟩ ns').setCell ⟨X, 1, none⟩ (.int .i64 q'.m)).setCell ⟨X, 2, none⟩ (.int .i64 q'.done)).setCell ⟨X, 3, none⟩ ps').setCell ⟨X, 4, none⟩ (.bool q'.empty))) : SB w X ns' ps' q' W' := by
  subst hW
  obtain ⟨f1, f2, _⟩ := five h.box ns' (.int .i64 q'.m) (.int .i64 q'.done) ps' (.bool q'.empty)
  exact ⟨f2 _ _ h.low h.below, h.low, f1, h1.five h.box (by decide) _ _ _ _ _, h2.five h.box (by decide) _ _ _ _ _⟩
theorem SB.mk' {w : World} {W : World} (hb : Below w.heap.size w W) {ns' ps' : Value} {q' : Q} (h1 : TriT W 99 ns' q'.nodes) (h2 : TriT W 102 ps' q'.pushes) :
    ∃ X W', X = W.heap.size ∧ W' = W.alloc (Obj.cells #[ns', .int .i64 q'.m, .int .i64 q'.done, ps', .bool q'.empty] 28) ∧ SB w X ns' ps' q' W' ∧ Below W.heap.size W W' := by
  have ha : Below W.heap.size W (W.alloc (Obj.cells #[ns', .int .i64 q'.m, .int .i64 q'.done, ps', .bool q'.empty] 28)) := (Below.refl _ _).alloc (Nat.le_refl _) _
  exact ⟨_, _, rfl, rfl, ⟨hb.trans (ha.mono hb.size), hb.size, (MapKept.heap_alloc _ _).1, h1.below ha, h2.below ha⟩, ha⟩
theorem pos_last {q : Q} {p : Int} (h : ∀ o ∈ q.opn, o.1 < p) : q.pos p = q.pushes.length := by
  rw [pushes_len]
  exact pos_of (Nat.le_refl _) (fun j o _ ho => h o (List.mem_of_getElem? ho)) (fun o ho => by have := (List.getElem?_eq_some_iff.1 ho).1; omega)
theorem begin_last {q : Q} (hq : WF q) {v : Value} {p x : Int} (hp : 0 ≤ p) (hno : ∀ o ∈ q.opn, o.1 < p) (hm : q.m + 1 < 2000) (w : World) (hv : St w v q) :
    Calls Try.prog 10 #[v, .int .i64 p, .int .i64 x] w fun e w' => ∃ v', e = .returned (.tuple #[v', .bool q.empty, .int .i64 0]) ∧ St w' v' (q.beg p x) ∧ Below w.heap.size w w' := by
  refine begin_at hq hp (fun o ho => by have := hno o ho; omega) hm ?_ w hv
  rw [pos_last hno]
  exact insert_end (by rw [pushes_len]; have := hq.fewo; omega) _
theorem pop_wf {q : Q} (hq : WF q) (hc : q.can q.done = true) : WF { q with done := q.done + 1 } where
  few := hq.few
  fewo := hq.fewo
  prod := hq.prod
  sorted := hq.sorted
  opn := hq.opn
  done := by unfold Q.can at hc; simp at hc; exact hc.1
  linked := by
    intro j h1 h2
    have h3 : j ≤ q.done + 1 := h2
    by_cases h4 : j = q.done + 1
    · subst h4; unfold Q.can at hc; simp at hc; exact hc.2
    · exact hq.linked j h1 (by omega)
  mt := by
    intro h
    have := hq.mt h
    unfold Q.can at hc
    simp at hc
    omega
def a1 : Q := q0.beg 0 7
def a2 : Q := a1.beg 1 8
def a3 : Q := a2.fin 1
def a4 : Q := a3.fin 0
def a5 : Q := { a4 with done := a4.done + 1 }
def a6 : Q := { a5 with done := a5.done + 1 }
theorem a1_wf : WF a1 := beg_wf q0_wf (by decide) (by decide) (by decide)
theorem a2_wf : WF a2 := beg_wf a1_wf (by decide) (by decide) (by decide)
theorem a3_wf : WF a3 := fin_wf a2_wf (o := (1, 2)) (by decide)
theorem a4_wf : WF a4 := fin_wf a3_wf (o := (0, 1)) (by decide)
theorem a5_wf : WF a5 := pop_wf a4_wf (by decide)
theorem a6_wf : WF a6 := pop_wf a5_wf (by decide)
set_option maxRecDepth 100000 in
set_option maxHeartbeats 4000000 in
theorem awake_at (w : World) : Calls Try.prog 8 #[] w fun e w' => e = .returned (.bool true) ∧ Below w.heap.size w w' := by
  have H1 : Hid (∀ W v, St W v q0 → Calls Try.prog 10 #[v, .int .i64 0, .int .i64 7] W fun e w' => ∃ v', e = .returned (.tuple #[v', .bool true, .int .i64 0]) ∧ St w' v' a1 ∧ Below W.heap.size W w') :=
    fun W v h => begin_last q0_wf (by decide) (by decide) (by decide) W h
  have H2 : Hid (∀ W v, St W v a1 → Calls Try.prog 10 #[v, .int .i64 1, .int .i64 8] W fun e w' => ∃ v', e = .returned (.tuple #[v', .bool false, .int .i64 0]) ∧ St w' v' a2 ∧ Below W.heap.size W w') :=
    fun W v h => begin_last a1_wf (by decide) (by decide) (by decide) W h
  have H3 : Hid (∀ W v, St W v a2 → Calls Try.prog 11 #[v, .int .i64 1] W fun e w' => ∃ v', e = .returned (.tuple #[v', .int .i64 0]) ∧ St w' v' a3 ∧ Below W.heap.size W w') :=
    fun W v h => finish_at a2_wf (i := 1) (j := 2) (by decide) W h
  have H4 : Hid (∀ W v, St W v a3 → Calls Try.prog 21 #[v] W fun e w' => ∃ v', e = .returned (.tuple #[v', .int .i64 0, .bool false, .int .i64 0]) ∧ St w' v' a3 ∧ Below W.heap.size W w') :=
    fun W v h => PopNo_at a3_wf (by decide) W h
  have H5 : Hid (∀ W v, St W v a3 → Calls Try.prog 11 #[v, .int .i64 0] W fun e w' => ∃ v', e = .returned (.tuple #[v', .int .i64 0]) ∧ St w' v' a4 ∧ Below W.heap.size W w') :=
    fun W v h => finish_at a3_wf (i := 0) (j := 1) (by decide) W h
  have H6 : Hid (∀ W v, St W v a4 → Calls Try.prog 21 #[v] W fun e w' => ∃ v', e = .returned (.tuple #[v', .int .i64 7, .bool true, .int .i64 0]) ∧ St w' v' a5 ∧ Below W.heap.size W w') :=
    fun W v h => PopYes_at a4_wf (by decide) W h
  have H7 : Hid (∀ W v, St W v a5 → Calls Try.prog 21 #[v] W fun e w' => ∃ v', e = .returned (.tuple #[v', .int .i64 8, .bool true, .int .i64 0]) ∧ St w' v' a6 ∧ Below W.heap.size W w') :=
    fun W v h => PopYes_at a5_wf (by decide) W h
  have H8 : Hid (∀ W v, St W v a6 → Calls Try.prog 13 #[v] W fun e w' => ∃ v', e = .returned (.tuple #[v', .bool true, .int .i64 0]) ∧ St w' v' { a6 with empty := true } ∧ Below W.heap.size W w') :=
    fun W v h => mark_at a6_wf W h
  go_enter Try.func8, Try.ntmps8
  go_wp2_with fail
  refine (new_at w).mono ?_
  rintro e W1 ⟨v1, rfl, ⟨ns1, ps1, rfl, t1, t2⟩, hb1⟩
  have HB1 := Lib.hid hb1; clear hb1
  have HST := Lib.hid (show St W1 (.agg #[ns1, .int .i64 q0.m, .int .i64 q0.done, ps1, .bool q0.empty]) q0 from ⟨_, _, rfl, t1, t2⟩); clear t1 t2
  go_wp2_with fail
  refine (H1.out _ _ HST.out).mono ?_
  rintro e W2 ⟨v2, rfl, ⟨ns2, ps2, rfl, t1, t2⟩, hb2⟩
  obtain ⟨pn2, cn2, e1⟩ := t1.slice
  obtain ⟨pp2, cp2, e2⟩ := t2.slice
  subst e1
  subst e2
  obtain ⟨X, W3, hX, hW3, hsb, _⟩ := SB.mk' (HB1.out.trans (hb2.mono HB1.out.size)) t1 t2
  have HS := Lib.hid hsb
  clear hb2 t1 t2 hsb HB1 HST
  go_upto_region 2 with fail
  rw [← hX, ← hW3]
  clear hX hW3
  obtain ⟨c0, c1, c2, c3, c4⟩ := HS.out.facts
  go_wp2_with fail
  refine (H2.out _ _ HS.out.st).mono ?_
  rintro e V3 ⟨v3, rfl, ⟨ns3, ps3, rfl, t1, t2⟩, hb⟩
  obtain ⟨pn3, cn3, e1⟩ := t1.slice
  obtain ⟨pp3, cp3, e2⟩ := t2.slice
  subst e1
  subst e2
  have HS1 := Lib.hid (HS.out.step hb)
  clear hb c0 c1 c2 c3 c4 HS
  obtain ⟨c0, c1, c2, c3, c4⟩ := HS1.out.facts
  obtain ⟨f0, f1, f2, f3, f4⟩ := HS1.out.frz
  obtain ⟨W4, hW⟩ : ∃ W4, W4 = (((((V3.setCell ⟨X, 0, none⟩ (.slice pn3 a2.nodes.length cn3)).setCell ⟨X, 1, none⟩ (.int .i64 a2.m)).setCell ⟨X, 2, none⟩ (.int .i64 a2.done)).setCell ⟨X, 3, none⟩ (.slice pp3 a2.pushes.length cp3)).setCell ⟨X, 4, none⟩ (.bool a2.empty)) := ⟨_, rfl⟩
  have HS := Lib.hid (HS1.out.put t1 t2 hW)
  clear t1 t2
  go_upto_region 3 with fail
  rw [← hW]
  clear hW c0 c1 c2 c3 c4 f0 f1 f2 f3 f4 HS1
  obtain ⟨c0, c1, c2, c3, c4⟩ := HS.out.facts
  go_wp2_with fail
  refine (H3.out _ _ HS.out.st).mono ?_
  rintro e V4 ⟨v4, rfl, ⟨ns4, ps4, rfl, t1, t2⟩, hb⟩
  obtain ⟨pn4, cn4, e1⟩ := t1.slice
  obtain ⟨pp4, cp4, e2⟩ := t2.slice
  subst e1
  subst e2
  have HS1 := Lib.hid (HS.out.step hb)
  clear hb c0 c1 c2 c3 c4 HS
  obtain ⟨c0, c1, c2, c3, c4⟩ := HS1.out.facts
  obtain ⟨f0, f1, f2, f3, f4⟩ := HS1.out.frz
  obtain ⟨W5, hW⟩ : ∃ W5, W5 = (((((V4.setCell ⟨X, 0, none⟩ (.slice pn4 a3.nodes.length cn4)).setCell ⟨X, 1, none⟩ (.int .i64 a3.m)).setCell ⟨X, 2, none⟩ (.int .i64 a3.done)).setCell ⟨X, 3, none⟩ (.slice pp4 a3.pushes.length cp4)).setCell ⟨X, 4, none⟩ (.bool a3.empty)) := ⟨_, rfl⟩
  have HS := Lib.hid (HS1.out.put t1 t2 hW)
  clear t1 t2
  go_upto_region 4 with fail
  rw [← hW]
  clear hW c0 c1 c2 c3 c4 f0 f1 f2 f3 f4 HS1
  obtain ⟨c0, c1, c2, c3, c4⟩ := HS.out.facts
  go_wp2_with fail
  refine (H4.out _ _ HS.out.st).mono ?_
  rintro e V5 ⟨v5, rfl, ⟨ns5, ps5, rfl, t1, t2⟩, hb⟩
  obtain ⟨pn5, cn5, e1⟩ := t1.slice
  obtain ⟨pp5, cp5, e2⟩ := t2.slice
  subst e1
  subst e2
  have HS1 := Lib.hid (HS.out.step hb)
  clear hb c0 c1 c2 c3 c4 HS
  obtain ⟨c0, c1, c2, c3, c4⟩ := HS1.out.facts
  obtain ⟨f0, f1, f2, f3, f4⟩ := HS1.out.frz
  obtain ⟨W6, hW⟩ : ∃ W6, W6 = (((((V5.setCell ⟨X, 0, none⟩ (.slice pn5 a3.nodes.length cn5)).setCell ⟨X, 1, none⟩ (.int .i64 a3.m)).setCell ⟨X, 2, none⟩ (.int .i64 a3.done)).setCell ⟨X, 3, none⟩ (.slice pp5 a3.pushes.length cp5)).setCell ⟨X, 4, none⟩ (.bool a3.empty)) := ⟨_, rfl⟩
  have HS := Lib.hid (HS1.out.put t1 t2 hW)
  clear t1 t2
  go_upto_region 5 with fail
  rw [← hW]
  clear hW c0 c1 c2 c3 c4 f0 f1 f2 f3 f4 HS1
  obtain ⟨c0, c1, c2, c3, c4⟩ := HS.out.facts
  go_wp2_with fail
  refine (H5.out _ _ HS.out.st).mono ?_
  rintro e V6 ⟨v6, rfl, ⟨ns6, ps6, rfl, t1, t2⟩, hb⟩
  obtain ⟨pn6, cn6, e1⟩ := t1.slice
  obtain ⟨pp6, cp6, e2⟩ := t2.slice
  subst e1
  subst e2
  have HS1 := Lib.hid (HS.out.step hb)
  clear hb c0 c1 c2 c3 c4 HS
  obtain ⟨c0, c1, c2, c3, c4⟩ := HS1.out.facts
  obtain ⟨f0, f1, f2, f3, f4⟩ := HS1.out.frz
  obtain ⟨W7, hW⟩ : ∃ W7, W7 = (((((V6.setCell ⟨X, 0, none⟩ (.slice pn6 a4.nodes.length cn6)).setCell ⟨X, 1, none⟩ (.int .i64 a4.m)).setCell ⟨X, 2, none⟩ (.int .i64 a4.done)).setCell ⟨X, 3, none⟩ (.slice pp6 a4.pushes.length cp6)).setCell ⟨X, 4, none⟩ (.bool a4.empty)) := ⟨_, rfl⟩
  have HS := Lib.hid (HS1.out.put t1 t2 hW)
  clear t1 t2
  go_upto_region 6 with fail
  rw [← hW]
  clear hW c0 c1 c2 c3 c4 f0 f1 f2 f3 f4 HS1
  obtain ⟨c0, c1, c2, c3, c4⟩ := HS.out.facts
  go_wp2_with fail
  refine (H6.out _ _ HS.out.st).mono ?_
  rintro e V7 ⟨v7, rfl, ⟨ns7, ps7, rfl, t1, t2⟩, hb⟩
  obtain ⟨pn7, cn7, e1⟩ := t1.slice
  obtain ⟨pp7, cp7, e2⟩ := t2.slice
  subst e1
  subst e2
  have HS1 := Lib.hid (HS.out.step hb)
  clear hb c0 c1 c2 c3 c4 HS
  obtain ⟨c0, c1, c2, c3, c4⟩ := HS1.out.facts
  obtain ⟨f0, f1, f2, f3, f4⟩ := HS1.out.frz
  obtain ⟨W8, hW⟩ : ∃ W8, W8 = (((((V7.setCell ⟨X, 0, none⟩ (.slice pn7 a5.nodes.length cn7)).setCell ⟨X, 1, none⟩ (.int .i64 a5.m)).setCell ⟨X, 2, none⟩ (.int .i64 a5.done)).setCell ⟨X, 3, none⟩ (.slice pp7 a5.pushes.length cp7)).setCell ⟨X, 4, none⟩ (.bool a5.empty)) := ⟨_, rfl⟩
  have HS := Lib.hid (HS1.out.put t1 t2 hW)
  clear t1 t2
  go_upto_region 7 with fail
  rw [← hW]
  clear hW c0 c1 c2 c3 c4 f0 f1 f2 f3 f4 HS1
  obtain ⟨c0, c1, c2, c3, c4⟩ := HS.out.facts
  go_wp2_with fail
  refine (H7.out _ _ HS.out.st).mono ?_
  rintro e V8 ⟨v8, rfl, ⟨ns8, ps8, rfl, t1, t2⟩, hb⟩
  obtain ⟨pn8, cn8, e1⟩ := t1.slice
  obtain ⟨pp8, cp8, e2⟩ := t2.slice
  subst e1
  subst e2
  have HS1 := Lib.hid (HS.out.step hb)
  clear hb c0 c1 c2 c3 c4 HS
  obtain ⟨c0, c1, c2, c3, c4⟩ := HS1.out.facts
  obtain ⟨f0, f1, f2, f3, f4⟩ := HS1.out.frz
  obtain ⟨W9, hW⟩ : ∃ W9, W9 = (((((V8.setCell ⟨X, 0, none⟩ (.slice pn8 a6.nodes.length cn8)).setCell ⟨X, 1, none⟩ (.int .i64 a6.m)).setCell ⟨X, 2, none⟩ (.int .i64 a6.done)).setCell ⟨X, 3, none⟩ (.slice pp8 a6.pushes.length cp8)).setCell ⟨X, 4, none⟩ (.bool a6.empty)) := ⟨_, rfl⟩
  have HS := Lib.hid (HS1.out.put t1 t2 hW)
  clear t1 t2
  go_upto_region 8 with fail
  rw [← hW]
  clear hW c0 c1 c2 c3 c4 f0 f1 f2 f3 f4 HS1
  obtain ⟨c0, c1, c2, c3, c4⟩ := HS.out.facts
  go_wp2_with fail
  refine (H8.out _ _ HS.out.st).mono ?_
  rintro e V ⟨v, rfl, ⟨ns, ps, rfl, t1, t2⟩, hb⟩
  obtain ⟨pn, cn, e1⟩ := t1.slice
  obtain ⟨pp, cp, e2⟩ := t2.slice
  subst e1
  subst e2
  obtain ⟨Y, W, hY, hW, hsb, _⟩ := SB.mk' (HS.out.step hb).below t1 t2
  have HF : Hid (Below w.heap.size w W) := hsb.below
  clear hb c0 c1 c2 c3 c4 HS t1 t2 hsb
  go_upto_region 9 with fail
  rw [← hY, ← hW]
  clear hY hW
  have hmx : ∀ (ts : Array TypeId) (t : TypeId) (w : World), (Builtin.max_ ts t #[.int .i64 0, .int .i64 0, .int .i64 0, .int .i64 0, .int .i64 0, .int .i64 0, .int .i64 0, .int .i64 0]).run Try.prog w = .ok (.int .i64 0) w := fun ts t w => by
    simp [Builtin.max_, Builtin.max2, Result.andThen]
  go_wp2_with fail
  go_ret
  exact ⟨rfl, HF.out⟩
end Go.Proofs.Ytgbafpjeapkklaa.Mb
