/- Parts Ma, Mb, Mc, Md, Mf, Mg, Mh, Mi of the proof. -/
import Derived.Test.YtgbafpjeapkklaaRows
import Derived.WalkKit
import Derived.WalkSpells
import Derived.WalkLawsBesides
import Derived.BigQuiet
import Derived.RegionTactic
import Derived.BigRegion
import Derived.ChangeAlike
import Derived.Deep.QuietTactic
import Derived.Lib.Hide
import Derived.Deep.RegionHeld3
import Derived.Deep.Cut
import Derived.Deep.CutRange
import Derived.MapKept
import Derived.OwnWalk
import Derived.Laws.AppendOwn
import Derived.Lib.SliceRun
namespace Go.Proofs.Ytgbafpjeapkklaa.Mb
open Go.RowKit
set_option linter.unusedVariables false
set_option linter.unusedSimpArgs false
theorem cB {w : World} {b : Nat} {C : Array Value} {t : TypeId} {f : Nat × Nat} (h : w.heap[b]? = some (.cells C t f)) (o : Nat) : w.cell? ⟨b, o, none⟩ = C[o]? := by
 simp [World.cell?, h]
theorem frozen_blk {w : World} {b : Nat} {C : Array Value} {t : TypeId} (h : w.heap[b]? = some (.cells C t (0, 0))) (o : Nat) : w.frozen? ⟨b, o, none⟩ = false := by
 simp [World.frozen?, h]
theorem blk_set {w : World} {b : Nat} {C : Array Value} {t : TypeId} {f : Nat × Nat} (h : w.heap[b]? = some (.cells C t f)) (o : Nat) (v : Value) : (w.setCell ⟨b, o, none⟩ v).heap[b]? = some (.cells (C.setIfInBounds o v) t f) := by
 simp [World.setCell, Array.getElem?_modify, h]
theorem blk_set_ne {w : World} {b : Nat} {x : Option Obj} (h : w.heap[b]? = x) (p : Addr) (hp : b ≠ p.block) (v : Value) : (w.setCell p v).heap[b]? = x := by
 rw [Below.heap_setCell _ _ _ _ hp]; exact h
theorem blk_lt {w : World} {b : Nat} {x : Obj} (h : w.heap[b]? = some x) : b < w.heap.size := by
 rcases Nat.lt_or_ge b w.heap.size with hlt | hge
 ·exact hlt
 ·rw [Array.getElem?_eq_none hge] at h; cases h
def Tri (w : World) (v : Value) (l : List (Int × Int × Int)) : Prop :=
 ∃ p cap, v = .slice p l.length cap ∧ l.length ≤ cap ∧ (l = [] ∨ ∃ g off, p = some ⟨g, off, none⟩ ∧ g < w.heap.size ∧
  ∀ (k : Nat) (x : Int × Int × Int), l[k]? = some x → w.cell? ⟨g, off + k * 3, none⟩ = some (.int .i64 x.1) ∧ w.cell? ⟨g, off + k * 3 + 1, none⟩ = some (.int .i64 x.2.1) ∧ w.cell? ⟨g, off + k * 3 + 2, none⟩ = some (.int .i64 x.2.2))
theorem Tri.below {w w' : World} {v : Value} {l : List (Int × Int × Int)} (h : Tri w v l) (hb : Below w.heap.size w w') : Tri w' v l := by
 obtain ⟨p, cap, rfl, hc, h⟩ := h
 refine ⟨p, cap, rfl, hc, ?_⟩
 rcases h with h | ⟨g, off, rfl, h2, h3⟩
 ·exact .inl h
 ·refine .inr ⟨g, off, rfl, Nat.lt_of_lt_of_le h2 hb.size, fun k o ho => ?_⟩
  obtain ⟨a, b, c⟩ := h3 k o ho
  exact ⟨(hb.cell (p := ⟨g, off + k * 3, none⟩) h2).trans a, (hb.cell (p := ⟨g, off + k * 3 + 1, none⟩) h2).trans b, (hb.cell (p := ⟨g, off + k * 3 + 2, none⟩) h2).trans c⟩
theorem Tri.slice {w : World} {v : Value} {l : List (Int × Int × Int)} (h : Tri w v l) : ∃ p cap, v = .slice p l.length cap := by
 obtain ⟨p, cap, e, _⟩ := h
 exact ⟨p, cap, e⟩
structure Q where
 vals : List (Int × Int)
 opn : List (Int × Nat)
 done : Nat
 empty : Bool
def Q.m (q : Q) : Nat := q.vals.length
def Q.isOpen (q : Q) (j : Nat) : Bool := q.opn.any fun o => o.2 == j
def Q.nxt (q : Q) (j : Nat) : Int := if j < q.m ∧ q.isOpen (j + 1) = false then (j : Int) + 1 else -1
def Q.node (q : Q) (j : Nat) : Int × Int × Int := if j = 0 then (0, -1, q.nxt 0) else ((q.vals.getD (j - 1) (0, 0)).1, (q.vals.getD (j - 1) (0, 0)).2, q.nxt j)
def Q.nodes (q : Q) : List (Int × Int × Int) := (List.range (q.m + 1)).map q.node
def Q.pushes (q : Q) : List (Int × Int × Int) := q.opn.map fun o => (o.1, (o.2 : Int) - 1, (o.2 : Int))
set_option maxRecDepth 100000 in
set_option maxHeartbeats 1000000 in
theorem is_at (A B : Option Addr) (L cap l2 c2 : Nat) (a b : Int) (e : Bool) (n : Int) (h1 : 0 ≤ n) (h2 : n < L) (w : World) :
  Calls Try.prog 66 #[.agg #[.slice A L cap, .int .i64 a, .int .i64 b, .slice B l2 c2, .bool e], .int .i64 n] w fun e w' => e = .returned (.bool true) ∧ Below w.heap.size w w' := by
 have t1 : decide (0 ≤ n) = true := decide_eq_true h1
 have t2 : decide (n < (L : Int)) = true := decide_eq_true h2
 go_enter Try.func66, Try.ntmps66
 go_wp2_with fail
 go_ret
 exact ⟨rfl, (Below.refl _ _).alloc (Nat.le_refl _) _⟩
end Go.Proofs.Ytgbafpjeapkklaa.Mb
namespace Go.Proofs.Ytgbafpjeapkklaa.Mb
open Go.RowKit
set_option linter.unusedVariables false
set_option linter.unusedSimpArgs false
theorem toArr (g off n cap : Nat) (w : World) : (Instr.arrayAt 134 (.slice (some ⟨g, off, none⟩) (n + 1) cap)).run Try.prog w = .ok (.pointer (some ⟨g, off, none⟩)) w := by
 have h : Try.prog.underlying 134 = some (.array 1 99) := by kernel_rfl
 simp [Instr.arrayAt, go_sem, h]
end Go.Proofs.Ytgbafpjeapkklaa.Mb
namespace Go.Proofs.Ytgbafpjeapkklaa.Mb
open Go.RowKit Go.MapKept
set_option linter.unusedVariables false
set_option linter.unusedSimpArgs false
def MapI (w : World) (r : Nat) (l : List (Int × Value)) : Prop :=
 ∃ es clock, w.heap[r]? = some (.map es clock) ∧ es.toList.map (fun e => (e.key, e.val)) = l.map fun x => (Value.int .i64 x.1, x.2)
theorem find_now (k : Int) : ∀ (es : List MapEntry) (l : List (Int × Value)) (i : Nat), es.map (fun e => (e.key, e.val)) = l.map (fun x => (Value.int .i64 x.1, x.2)) →
  ∃ j, Instr.findNow (.int .i64) (.int .i64 k) es i = some (match l.find? (fun x => x.1 == k) with | some x => some (j, x.2) | none => none) := by
 intro es
 induction es with
 | nil =>
  intro l i h
  cases l with
  | nil => exact ⟨0, rfl⟩
  | cons x l => cases h
 | cons e es ih =>
  intro l i h
  cases l with
  | nil => cases h
  | cons x l =>
   simp only [List.map_cons, List.cons.injEq, Prod.mk.injEq] at h
   obtain ⟨⟨h1, h2⟩, h3⟩ := h
   by_cases hk : x.1 = k
   ·refine ⟨i, ?_⟩
    simp [Instr.findNow, Instr.sameNow, h1, hk, h2]
   ·obtain ⟨j, hj⟩ := ih l (i + 1) h3
    refine ⟨j, ?_⟩
    have hk' : (k == x.1) = false := by simpa using fun e => hk e.symm
    have hk2 : (x.1 == k) = false := by simpa using hk
    simp only [Instr.findNow, Instr.sameNow, h1, if_true, hk', List.find?_cons, hk2]
    exact hj
theorem look {w : World} {r : Nat} {l : List (Int × Value)} (h : MapI w r l) (t e : TypeId) (z : Value) (ht : Try.prog.underlying t = some (.map 3 e)) (hz : (zeroValue e).run Try.prog w = .ok z w) (k : Int) :
  (Instr.lookup t (.map (some r)) (.int .i64 k) true).run Try.prog w = .ok (.tuple #[(match l.find? (fun x => x.1 == k) with | some x => x.2 | none => z), .bool (l.find? fun x => x.1 == k).isSome]) w := by
 obtain ⟨es, clock, h1, h2⟩ := h
 obtain ⟨j, hj⟩ := find_now k es.toList l 0 h2
 have h3 : Try.prog.underlying 3 = some (.int .i64) := Try.underlying3
 have hck : ∀ b, (Instr.checkKey b 10000 3 (.int .i64 k)).run Try.prog w = .ok () w := fun b => run_checkKey (w := w) (k := .int .i64 k) h3 (by simp [IsKey]) b 9999
 have hgo : (getObj r).run Try.prog w = .ok (.map es clock) w := by simp [getObj, Sem.run, h1]
 have hfk := run_findKey (P := Try.prog) (w := w) h3 hj
 unfold Instr.lookup
 cases hf : l.find? (fun x => x.1 == k) with
 | none =>
  rw [hf] at hfk
  simp [run_underlying ht, Result.andThen, hgo, hck, hfk, hz]
 | some x =>
  rw [hf] at hfk
  simp [run_underlying ht, Result.andThen, hgo, hck, hfk, hz]
theorem look1 {w : World} {r : Nat} {l : List (Int × Value)} (h : MapI w r l) (t e : TypeId) (z : Value) (ht : Try.prog.underlying t = some (.map 3 e)) (hz : (zeroValue e).run Try.prog w = .ok z w) (k : Int) :
  (Instr.lookup t (.map (some r)) (.int .i64 k) false).run Try.prog w = .ok (match l.find? (fun x => x.1 == k) with | some x => x.2 | none => z) w := by
 obtain ⟨es, clock, h1, h2⟩ := h
 obtain ⟨j, hj⟩ := find_now k es.toList l 0 h2
 have h3 : Try.prog.underlying 3 = some (.int .i64) := Try.underlying3
 have hck : ∀ b, (Instr.checkKey b 10000 3 (.int .i64 k)).run Try.prog w = .ok () w := fun b => run_checkKey (w := w) (k := .int .i64 k) h3 (by simp [IsKey]) b 9999
 have hgo : (getObj r).run Try.prog w = .ok (.map es clock) w := by simp [getObj, Sem.run, h1]
 have hfk := run_findKey (P := Try.prog) (w := w) h3 hj
 unfold Instr.lookup
 cases hf : l.find? (fun x => x.1 == k) with
 | none =>
  rw [hf] at hfk
  simp [run_underlying ht, Result.andThen, hgo, hck, hfk, hz]
 | some x =>
  rw [hf] at hfk
  simp [run_underlying ht, Result.andThen, hgo, hck, hfk, hz]
theorem put_new {w : World} {r : Nat} {l : List (Int × Value)} (h : MapI w r l) (t e : TypeId) (ht : Try.prog.underlying t = some (.map 3 e)) (k : Int) (v : Value) (hn : l.find? (fun x => x.1 == k) = none) :
  ∃ w', (Instr.mapUpdate t (.map (some r)) (.int .i64 k) v).run Try.prog w = .ok () w' ∧ MapI w' r (l ++ [(k, v)]) ∧ w'.heap.size = w.heap.size ∧ w'.os = w.os ∧ w'.tape = w.tape ∧ w'.output = w.output ∧ ∀ g, g ≠ r → w'.heap[g]? = w.heap[g]? := by
 obtain ⟨es, clock, h1, h2⟩ := h
 obtain ⟨j, hj⟩ := find_now k es.toList l 0 h2
 rw [hn] at hj
 have h3 : Try.prog.underlying 3 = some (.int .i64) := Try.underlying3
 have hck : ∀ b, (Instr.checkKey b 10000 3 (.int .i64 k)).run Try.prog w = .ok () w := fun b => run_checkKey (w := w) (k := .int .i64 k) h3 (by simp [IsKey]) b 9999
 have hgo : (getObj r).run Try.prog w = .ok (.map es clock) w := by simp [getObj, Sem.run, h1]
 have hfk := run_findKey (P := Try.prog) (w := w) h3 hj
 have hso : ∀ o : Obj, (∃ es c, o = .map es c) → (setObj r o).run Try.prog w = .ok () { w with heap := w.heap.setIfInBounds r o } := by
  rintro o ⟨es', c, rfl⟩
  simp [setObj, Sem.run, h1]
 obtain ⟨g1, g2⟩ := heap_set (o' := .map (es.push { key := .int .i64 k, val := v, born := clock }) (clock + 1)) h1
 refine ⟨{ w with heap := w.heap.setIfInBounds r (.map (es.push { key := .int .i64 k, val := v, born := clock }) (clock + 1)) }, ?_, ⟨_, _, g1, ?_⟩, by simp, rfl, rfl, rfl, g2⟩
 ·unfold Instr.mapUpdate
  simp [run_underlying ht, Result.andThen, hgo, hck, hfk]
  exact hso _ ⟨_, _, rfl⟩
 ·simp [h2]
end Go.Proofs.Ytgbafpjeapkklaa.Mb
namespace Go.Proofs.Ytgbafpjeapkklaa.Mb
open Go.RowKit
set_option linter.unusedVariables false
set_option linter.unusedSimpArgs false
theorem zero4 (w : World) : (zeroValue 4).run Try.prog w = .ok (.bool false) w := by kernel_rfl
theorem und120 : Try.prog.underlying 120 = some (.map 3 4) := by kernel_rfl
end Go.Proofs.Ytgbafpjeapkklaa.Mb
namespace Go.Proofs.Ytgbafpjeapkklaa.Mb
open Go.RowKit
set_option linter.unusedVariables false
set_option linter.unusedSimpArgs false
theorem zero3 (w : World) : (zeroValue 3).run Try.prog w = .ok (.int .i64 0) w := by kernel_rfl
theorem und119 : Try.prog.underlying 119 = some (.map 3 3) := by kernel_rfl
theorem mk_map (t : TypeId) (w : World) : (Instr.makeMap t none).run Try.prog w = .ok (.map (some w.heap.size)) (w.alloc (.map #[] 0)) := by
 simp [Instr.makeMap, Result.andThen]
theorem MapI.below {W W' : World} {r : Nat} {l : List (Int × Value)} (h : MapI W r l) (hb : Below W.heap.size W W') : MapI W' r l := by
 obtain ⟨es, c, h1, h2⟩ := h
 exact ⟨es, c, (hb.block r (blk_lt h1)).trans h1, h2⟩
theorem run_len_map {w : World} {r : Nat} {l : List (Int × Value)} (h : MapI w r l) (t e ty : TypeId) (ht : Try.prog.underlying t = some (.map 3 e)) :
  (Builtin.len_ #[t] ty #[.map (some r)]).run Try.prog w = .ok (.int .i64 l.length) w := by
 obtain ⟨es, clock, h1, h2⟩ := h
 have hl : es.size = l.length := by
  have := congrArg List.length h2
  simpa using this
 simp [Builtin.len_, run_underlying ht, MapKept.run_getObj_map h1, goInt, hl]
end Go.Proofs.Ytgbafpjeapkklaa.Mb
namespace Go.Proofs.Ytgbafpjeapkklaa.Mb
open Go.RowKit
set_option linter.unusedVariables false
set_option linter.unusedSimpArgs false
theorem info99 : (Try.prog.info? 99).map (fun i => (i.zero, i.size, i.bytes)) = some (some (.agg #[.int .i64 0, .int .i64 0, .int .i64 0]), 3, 24) := by kernel_rfl
theorem info102 : (Try.prog.info? 102).map (fun i => (i.zero, i.size, i.bytes)) = some (some (.agg #[.int .i64 0, .int .i64 0, .int .i64 0]), 3, 24) := by kernel_rfl
def trip (x : Int × Int × Int) : List Value := [.int .i64 x.1, .int .i64 x.2.1, .int .i64 x.2.2]
def cellsT (l : List (Int × Int × Int)) : List Value := l.flatMap trip
theorem cellsT_cons (x : Int × Int × Int) (l : List (Int × Int × Int)) : cellsT (x :: l) = trip x ++ cellsT l := rfl
theorem cellsT_append (l m : List (Int × Int × Int)) : cellsT (l ++ m) = cellsT l ++ cellsT m := by simp [cellsT]
theorem cellsT_len (l : List (Int × Int × Int)) : (cellsT l).length = l.length * 3 := by
 induction l with
 | nil => rfl
 | cons x l ih => rw [cellsT_cons, List.length_append, ih]; simp [trip]; omega
theorem cellsT_one (l : List (Int × Int × Int)) : ∀ u ∈ cellsT l, u.oneCell' = true := by
 intro u hu
 simp only [cellsT, List.mem_flatMap] at hu
 obtain ⟨x, _, hx⟩ := hu
 simp only [trip, List.mem_cons, List.not_mem_nil, or_false] at hx
 rcases hx with rfl | rfl | rfl <;> rfl
theorem cellsT_get (l : List (Int × Int × Int)) : ∀ (k : Nat) (x : Int × Int × Int), l[k]? = some x → (cellsT l)[k * 3]? = some (.int .i64 x.1) ∧ (cellsT l)[k * 3 + 1]? = some (.int .i64 x.2.1) ∧ (cellsT l)[k * 3 + 2]? = some (.int .i64 x.2.2) := by
 induction l with
 | nil => intro k x h; simp at h
 | cons y l ih =>
  intro k x h
  cases k with
  | zero =>
   simp at h; subst h
   rw [cellsT_cons]; simp [trip]
  | succ k =>
   obtain ⟨a, b, c⟩ := ih k x (by simpa using h)
   rw [cellsT_cons, show (k + 1) * 3 = k * 3 + 3 by omega]
   refine ⟨?_, ?_, ?_⟩
   ·rw [List.getElem?_append_right (by simp [trip])]; simpa [trip] using a
   ·rw [List.getElem?_append_right (by simp [trip])]; simpa [trip] using b
   ·rw [List.getElem?_append_right (by simp [trip])]; simpa [trip] using c
theorem cellsT_inv (l : List (Int × Int × Int)) (j : Nat) (u : Value) (h : (cellsT l)[j]? = some u) : ∃ k x, l[k]? = some x ∧ ((j = k * 3 ∧ u = .int .i64 x.1) ∨ (j = k * 3 + 1 ∧ u = .int .i64 x.2.1) ∨ (j = k * 3 + 2 ∧ u = .int .i64 x.2.2)) := by
 have hlt := (List.getElem?_eq_some_iff.1 h).1
 rw [cellsT_len] at hlt
 have hk : j / 3 < l.length := by omega
 obtain ⟨a, b, c⟩ := cellsT_get l (j / 3) l[j / 3] (by simp [hk])
 refine ⟨j / 3, l[j / 3], by simp [hk], ?_⟩
 have h3 : j % 3 = 0 ∨ j % 3 = 1 ∨ j % 3 = 2 := by omega
 rcases h3 with h3 | h3 | h3
 ·left
  have e : j = j / 3 * 3 := by omega
  rw [← e, h] at a
  exact ⟨e, Option.some.inj a⟩
 ·right; left
  have e : j = j / 3 * 3 + 1 := by omega
  rw [← e, h] at b
  exact ⟨e, Option.some.inj b⟩
 ·right; right
  have e : j = j / 3 * 3 + 2 := by omega
  rw [← e, h] at c
  exact ⟨e, Option.some.inj c⟩
theorem Tri.src {w : World} {a : Addr} {n cap : Nat} {l : List (Int × Int × Int)} (h : Tri w (.slice (some a) n cap) l) : ∀ j u, (cellsT l)[j]? = some u → w.cell? (a.add j) = some u := by
 intro j u hj
 obtain ⟨k, x, hx, hu⟩ := cellsT_inv l j u hj
 obtain ⟨p, cap', hp, _, h⟩ := h
 injection hp with e1 _ _
 subst e1
 rcases h with h | ⟨g, off, e, _, hc⟩
 ·subst h; simp at hx
 ·injection e with e
  subst e
  obtain ⟨a, b, c⟩ := hc k x hx
  rw [Addr.add_lit]
  rcases hu with ⟨rfl, rfl⟩ | ⟨rfl, rfl⟩ | ⟨rfl, rfl⟩
  ·exact a
  ·exact b
  ·exact c
theorem own_tri {w : World} {base : Nat} {e : TypeId} {v : Value} {n : Nat} {l : List (Int × Int × Int)} (hn : n = l.length) (h : w.ownsRow base e 3 v n (cellsT l)) : Tri w v l := by
 subst hn
 have hc := fun g hg => h.cells (g := g) hg
 have hlt := h.lt
 rcases h.2 with ⟨rfl, h0⟩ | ⟨g, cap, cur, rfl, _, hg, hcap, _⟩
 ·exact ⟨none, 0, by rw [h0], by rw [h0]; exact Nat.le_refl _, .inl (List.eq_nil_of_length_eq_zero h0)⟩
 ·refine ⟨some ⟨g, 0, none⟩, cap, rfl, hcap, .inr ⟨g, 0, rfl, blk_lt hg, fun k x hx => ?_⟩⟩
  obtain ⟨a, b, c⟩ := cellsT_get l k x hx
  have h1 := hc g rfl _ _ a
  have h2 := hc g rfl _ _ b
  have h3 := hc g rfl _ _ c
  rw [Addr.add_lit] at h1 h2 h3
  exact ⟨h1, h2, h3⟩
set_option maxRecDepth 100000 in
set_option maxHeartbeats 1000000 in
theorem clone62 {w : World} {v : Value} {l : List (Int × Int × Int)} (h : Tri w v l) (hl : l.length ≤ 2000) :
  Calls Try.prog 62 #[v] w fun e w' => ∃ v', e = .returned v' ∧ w'.ownsRow w.heap.size 99 3 v' l.length (cellsT l) ∧ Below w.heap.size w w' := by
 obtain ⟨p, cap, rfl⟩ := h.slice
 obtain ⟨i0, hi, hz0, hz1, hz2⟩ := info_parts info99
 have HI := Lib.hid hi; clear hi
 have HZ0 := Lib.hid hz0; clear hz0
 have HZ1 := Lib.hid hz1; clear hz1
 have HZ2 := Lib.hid hz2; clear hz2
 have HT := Lib.hid h; clear h
 have HL := Lib.hid hl; clear hl
 cases p with
 | none =>
  have h0 : l.length = 0 := by
   obtain ⟨p, c, e, hc, h⟩ := HT.out
   injection e with e1 e2 e3
   subst e1
   rcases h with rfl | ⟨g, off, e, _⟩
   ·rfl
   ·cases e
  obtain rfl : l = [] := List.eq_nil_of_length_eq_zero h0
  have heq := Lib.run_eql_slice_nil (P := Try.prog) w 25 99 none 0 cap 0 0 Try.underlying25
  go_enter Try.func62, Try.ntmps62
  go_wp2_with fail
  go_ret
  exact ⟨_, rfl, World.ownsRow_nil _ _ _ _, Below.refl _ _⟩
 | some a =>
  have heq := Lib.run_eql_slice_nil (P := Try.prog) w 25 99 (some a) l.length cap 0 0 Try.underlying25
  have HSR := Lib.hid (HT.out.below ((Below.refl w.heap.size w).alloc (Nat.le_refl _) (Obj.cells #[] 99))).src
  have HON : Hid ((w.alloc (Obj.cells #[] 99)).ownsRow w.heap.size 99 3 (.slice (some ⟨w.heap.size, 0, none⟩) 0 0) 0 []) := World.ownsRow_made w #[] 0 (Nat.le_refl _) (by decide) rfl
  go_enter Try.func62, Try.ntmps62
  go_wp2_with (at_builtin; refine wpList_append_own _ rfl _ _ 25 rfl w.heap.size 99 i0 (.agg #[.int .i64 0, .int .i64 0, .int .i64 0]) 3 24 Try.underlying25 HI.out HZ0.out HZ1.out HZ2.out rfl (by decide) _ _ _ rfl HON.out a l.length cap (cellsT l) rfl (cellsT_len l) ?c1 ?c2 ?c3 ?c4 ?c5 ?_)
  case c1 => exact HSR.out
  case c2 => exact cellsT_one l
  case c3 => have := HL.out; unfold maxLen; omega
  case c4 => have := HL.out; omega
  case c5 => simp
  intro v1 w1 hown1 hgr _
  have HO1 := Lib.hid hown1; clear hown1
  have HG1 := Lib.hid hgr; clear hgr
  go_wp2_with fail
  go_ret
  refine ⟨_, rfl, ?_, ?_⟩
  ·have := HO1.out
   simpa using this
  ·exact ((Below.refl w.heap.size w).alloc (Nat.le_refl _) (Obj.cells #[] 99)).grown HG1.out (by simp) (fun k hk => by simp [Value.ownBlock] at hk; omega)
set_option maxRecDepth 100000 in
set_option maxHeartbeats 1000000 in
theorem clone63 {w : World} {v : Value} {l : List (Int × Int × Int)} (h : Tri w v l) (hl : l.length ≤ 2000) :
  Calls Try.prog 63 #[v] w fun e w' => ∃ v', e = .returned v' ∧ w'.ownsRow w.heap.size 102 3 v' l.length (cellsT l) ∧ Below w.heap.size w w' := by
 obtain ⟨p, cap, rfl⟩ := h.slice
 obtain ⟨i0, hi, hz0, hz1, hz2⟩ := info_parts info102
 have HI := Lib.hid hi; clear hi
 have HZ0 := Lib.hid hz0; clear hz0
 have HZ1 := Lib.hid hz1; clear hz1
 have HZ2 := Lib.hid hz2; clear hz2
 have HT := Lib.hid h; clear h
 have HL := Lib.hid hl; clear hl
 cases p with
 | none =>
  have h0 : l.length = 0 := by
   obtain ⟨p, c, e, hc, h⟩ := HT.out
   injection e with e1 e2 e3
   subst e1
   rcases h with rfl | ⟨g, off, e, _⟩
   ·rfl
   ·cases e
  obtain rfl : l = [] := List.eq_nil_of_length_eq_zero h0
  have heq := Lib.run_eql_slice_nil (P := Try.prog) w 26 102 none 0 cap 0 0 Try.underlying26
  go_enter Try.func63, Try.ntmps63
  go_wp2_with fail
  go_ret
  exact ⟨_, rfl, World.ownsRow_nil _ _ _ _, Below.refl _ _⟩
 | some a =>
  have heq := Lib.run_eql_slice_nil (P := Try.prog) w 26 102 (some a) l.length cap 0 0 Try.underlying26
  have HSR := Lib.hid (HT.out.below ((Below.refl w.heap.size w).alloc (Nat.le_refl _) (Obj.cells #[] 102))).src
  have HON : Hid ((w.alloc (Obj.cells #[] 102)).ownsRow w.heap.size 102 3 (.slice (some ⟨w.heap.size, 0, none⟩) 0 0) 0 []) := World.ownsRow_made w #[] 0 (Nat.le_refl _) (by decide) rfl
  go_enter Try.func63, Try.ntmps63
  go_wp2_with (at_builtin; refine wpList_append_own _ rfl _ _ 26 rfl w.heap.size 102 i0 (.agg #[.int .i64 0, .int .i64 0, .int .i64 0]) 3 24 Try.underlying26 HI.out HZ0.out HZ1.out HZ2.out rfl (by decide) _ _ _ rfl HON.out a l.length cap (cellsT l) rfl (cellsT_len l) ?c1 ?c2 ?c3 ?c4 ?c5 ?_)
  case c1 => exact HSR.out
  case c2 => exact cellsT_one l
  case c3 => have := HL.out; unfold maxLen; omega
  case c4 => have := HL.out; omega
  case c5 => simp
  intro v1 w1 hown1 hgr _
  have HO1 := Lib.hid hown1; clear hown1
  have HG1 := Lib.hid hgr; clear hgr
  go_wp2_with fail
  go_ret
  refine ⟨_, rfl, ?_, ?_⟩
  ·have := HO1.out
   simpa using this
  ·exact ((Below.refl w.heap.size w).alloc (Nat.le_refl _) (Obj.cells #[] 102)).grown HG1.out (by simp) (fun k hk => by simp [Value.ownBlock] at hk; omega)
theorem own_slice {w : World} {base : Nat} {e : TypeId} {v : Value} {n : Nat} {xs : List Value} (h : w.ownsRow base e 3 v n xs) : ∃ p cap, v = .slice p n cap := by
 rcases h.2 with ⟨rfl, rfl⟩ | ⟨g, cap, cur, rfl, _⟩
 ·exact ⟨none, 0, rfl⟩
 ·exact ⟨_, cap, rfl⟩
def CB (w : World) (ns ps : Value) (m d : Int) (b : Bool) (W : World) : Prop := Below w.heap.size w W ∧ W.heap[w.heap.size]? = some (.cells #[ns, .int .i64 m, .int .i64 d, ps, .bool b] 28 (0, 0)) ∧
 W.heap[w.heap.size + 1]? = some (.cells #[.slice none 0 0, .int .i64 0, .int .i64 0, .slice none 0 0, .bool false] 28 (0, 0))
theorem CB.step {w : World} {ns ps : Value} {m d : Int} {b : Bool} {W W' : World} (h : CB w ns ps m d b W) (hb : Below W.heap.size W W') : CB w ns ps m d b W' :=
 ⟨h.1.trans (hb.mono h.1.size), (hb.block _ (blk_lt h.2.1)).trans h.2.1, (hb.block _ (blk_lt h.2.2)).trans h.2.2⟩
theorem CB.mk (w : World) (ns ps : Value) (m d : Int) (b : Bool) : CB w ns ps m d b ((w.alloc (Obj.cells #[ns, .int .i64 m, .int .i64 d, ps, .bool b] 28)).alloc (Obj.cells #[.slice none 0 0, .int .i64 0, .int .i64 0, .slice none 0 0, .bool false] 28)) := by
 have h1 : Below w.heap.size w (w.alloc (Obj.cells #[ns, .int .i64 m, .int .i64 d, ps, .bool b] 28)) := (Below.refl _ _).alloc (Nat.le_refl _) _
 have h2 := (Below.refl (w.alloc (Obj.cells #[ns, .int .i64 m, .int .i64 d, ps, .bool b] 28)).heap.size (w.alloc (Obj.cells #[ns, .int .i64 m, .int .i64 d, ps, .bool b] 28))).alloc (Nat.le_refl _) (Obj.cells #[.slice none 0 0, .int .i64 0, .int .i64 0, .slice none 0 0, .bool false] 28)
 have h3 := (MapKept.heap_alloc w (Obj.cells #[ns, .int .i64 m, .int .i64 d, ps, .bool b] 28)).1
 refine ⟨h1.trans (h2.mono h1.size), (h2.block _ (blk_lt h3)).trans h3, ?_⟩
 have h4 := (MapKept.heap_alloc (w.alloc (Obj.cells #[ns, .int .i64 m, .int .i64 d, ps, .bool b] 28)) (Obj.cells #[.slice none 0 0, .int .i64 0, .int .i64 0, .slice none 0 0, .bool false] 28)).1
 simpa using h4
theorem CB.after {w : World} {ns ps : Value} {m d : Int} {b : Bool} {W : World} (h : CB w ns ps m d b W) (v1 v2 : Value) :
  Below w.heap.size w ((W.setCell ⟨w.heap.size, 0, none⟩ v1).setCell ⟨w.heap.size, 3, none⟩ v2) ∧
  ((W.setCell ⟨w.heap.size, 0, none⟩ v1).setCell ⟨w.heap.size, 3, none⟩ v2).heap[w.heap.size]? = some (.cells #[v1, .int .i64 m, .int .i64 d, v2, .bool b] 28 (0, 0)) ∧
  ((W.setCell ⟨w.heap.size, 0, none⟩ v1).setCell ⟨w.heap.size, 3, none⟩ v2).heap[w.heap.size + 1]? = some (.cells #[.slice none 0 0, .int .i64 0, .int .i64 0, .slice none 0 0, .bool false] 28 (0, 0)) :=
 ⟨(h.1.setCell (p := ⟨w.heap.size, 0, none⟩) (Nat.le_refl _) _).setCell (p := ⟨w.heap.size, 3, none⟩) (Nat.le_refl _) _, blk_set (blk_set h.2.1 0 v1) 3 v2, blk_set_ne (blk_set_ne h.2.2 _ (by simp) _) _ (by simp) _⟩
theorem own_below {w w' : World} {base : Nat} {e : TypeId} {v : Value} {n : Nat} {xs : List Value} (h : w.ownsRow base e 3 v n xs) (hb : Below w.heap.size w w') : w'.ownsRow base e 3 v n xs := by
 refine ⟨h.1, ?_⟩
 rcases h.2 with h0 | ⟨g, cap, cur, h1, h2, h3, h4⟩
 ·exact .inl h0
 ·exact .inr ⟨g, cap, cur, h1, h2, (hb.block g (blk_lt h3)).trans h3, h4⟩
theorem ownsRow_base {W : World} {base base' : Nat} {e : TypeId} {size : Nat} {v : Value} {n : Nat} {xs : List Value} (h : W.ownsRow base e size v n xs) (hb : base' ≤ base) : W.ownsRow base' e size v n xs := by
 refine ⟨h.1, ?_⟩
 rcases h.2 with h0 | ⟨g, cap, cur, h1, h2, h3⟩
 ·exact .inl h0
 ·exact .inr ⟨g, cap, cur, h1, by omega, h3⟩
theorem five {W : World} {g : Nat} {a0 a1 a2 a3 a4 : Value} {t : TypeId} (h : W.heap[g]? = some (.cells #[a0, a1, a2, a3, a4] t (0, 0))) (v0 v1 v2 v3 v4 : Value) :
  (((((W.setCell ⟨g, 0, none⟩ v0).setCell ⟨g, 1, none⟩ v1).setCell ⟨g, 2, none⟩ v2).setCell ⟨g, 3, none⟩ v3).setCell ⟨g, 4, none⟩ v4).heap[g]? = some (.cells #[v0, v1, v2, v3, v4] t (0, 0)) ∧
  (∀ (B : Nat) (w0 : World), B ≤ g → Below B w0 W → Below B w0 (((((W.setCell ⟨g, 0, none⟩ v0).setCell ⟨g, 1, none⟩ v1).setCell ⟨g, 2, none⟩ v2).setCell ⟨g, 3, none⟩ v3).setCell ⟨g, 4, none⟩ v4)) ∧
  (∀ (B : Nat) (e : TypeId) (size : Nat) (v : Value) (n : Nat) (xs : List Value), g < B → W.ownsRow B e size v n xs → (((((W.setCell ⟨g, 0, none⟩ v0).setCell ⟨g, 1, none⟩ v1).setCell ⟨g, 2, none⟩ v2).setCell ⟨g, 3, none⟩ v3).setCell ⟨g, 4, none⟩ v4).ownsRow B e size v n xs) := by
 refine ⟨blk_set (blk_set (blk_set (blk_set (blk_set h 0 v0) 1 v1) 2 v2) 3 v3) 4 v4, fun B w0 hB hb => ?_, fun B e size v n xs hB ho => ?_⟩
 ·exact ((((hb.setCell (p := ⟨g, 0, none⟩) hB _).setCell (p := ⟨g, 1, none⟩) hB _).setCell (p := ⟨g, 2, none⟩) hB _).setCell (p := ⟨g, 3, none⟩) hB _).setCell (p := ⟨g, 4, none⟩) hB _
 ·exact ownsRow_setCell_below (a := ⟨g, 4, none⟩) (ownsRow_setCell_below (a := ⟨g, 3, none⟩) (ownsRow_setCell_below (a := ⟨g, 2, none⟩) (ownsRow_setCell_below (a := ⟨g, 1, none⟩) (ownsRow_setCell_below (a := ⟨g, 0, none⟩) ho hB _) hB _) hB _) hB _) hB _
set_option maxRecDepth 100000 in
set_option maxHeartbeats 4000000 in
theorem clone_at {w : World} {ns ps : Value} {l1 l2 : List (Int × Int × Int)} (hn : Tri w ns l1) (hp : Tri w ps l2) (h1 : l1.length ≤ 2000) (h2 : l2.length ≤ 2000) (m d : Int) (b : Bool) :
  Calls Try.prog 40 #[.agg #[ns, .int .i64 m, .int .i64 d, ps, .bool b]] w fun e w' => ∃ ns' ps', e = .returned (.agg #[ns', .int .i64 m, .int .i64 d, ps', .bool b]) ∧
   w'.ownsRow w.heap.size 99 3 ns' l1.length (cellsT l1) ∧ w'.ownsRow w.heap.size 102 3 ps' l2.length (cellsT l2) ∧ Below w.heap.size w w' := by
 have HC1 : Hid (∀ W, Below w.heap.size w W → Calls Try.prog 62 #[ns] W fun e w' => ∃ v', e = .returned v' ∧ w'.ownsRow W.heap.size 99 3 v' l1.length (cellsT l1) ∧ Below W.heap.size W w') := fun W h => clone62 (hn.below h) h1
 have HC2 : Hid (∀ W, Below w.heap.size w W → Calls Try.prog 63 #[ps] W fun e w' => ∃ v', e = .returned v' ∧ w'.ownsRow W.heap.size 102 3 v' l2.length (cellsT l2) ∧ Below W.heap.size W w') := fun W h => clone63 (hp.below h) h2
 clear hn hp h1 h2
 have HB0 : Hid (CB w ns ps m d b ((w.alloc (Obj.cells #[ns, .int .i64 m, .int .i64 d, ps, .bool b] 28)).alloc (Obj.cells #[.slice none 0 0, .int .i64 0, .int .i64 0, .slice none 0 0, .bool false] 28))) := CB.mk w ns ps m d b
 have HF : Hid (∀ W, CB w ns ps m d b W → W.cell? ⟨w.heap.size, 0, none⟩ = some ns ∧ W.cell? ⟨w.heap.size, 1, none⟩ = some (.int .i64 m) ∧ W.cell? ⟨w.heap.size, 2, none⟩ = some (.int .i64 d) ∧ W.cell? ⟨w.heap.size, 3, none⟩ = some ps ∧ W.cell? ⟨w.heap.size, 4, none⟩ = some (.bool b)) := fun W h => ⟨cB h.2.1 0, cB h.2.1 1, cB h.2.1 2, cB h.2.1 3, cB h.2.1 4⟩
 have HFZ : Hid (∀ W, CB w ns ps m d b W → ∀ o, W.frozen? ⟨w.heap.size, o, none⟩ = false) := fun W h o => frozen_blk h.2.1 o
 go_enter Try.func40, Try.ntmps40
 go_upto_region 1 with fail
 generalize ((w.alloc (Obj.cells #[ns, .int .i64 m, .int .i64 d, ps, .bool b] 28)).alloc (Obj.cells #[.slice none 0 0, .int .i64 0, .int .i64 0, .slice none 0 0, .bool false] 28)) = W0 at *
 obtain ⟨c0, c1, c2, c3, c4⟩ := HF.out _ HB0.out
 have HBS : Hid (w.heap.size ≤ W0.drew.heap.size) := HB0.out.1.size
 have HBD : Hid (CB w ns ps m d b W0.drew) := HB0.out.step (Below.refl _ _).drew
 obtain ⟨x0, x1, x2, x3, x4⟩ := HF.out _ HBD.out
 go_region_with (first
  | (go_at_call 62; refine (HC1.out _ HBD.out.1).mono ?_; rintro e W1 ⟨v1, rfl, ho1, hb1⟩; obtain ⟨p1, k1, rfl⟩ := own_slice ho1; have HO1 := Lib.hid ho1; clear ho1; have HB1 := Lib.hid (HBD.out.step hb1); have HB1s := Lib.hid hb1.size; clear hb1; obtain ⟨y0, y1, y2, y3, y4⟩ := HF.out _ HB1.out)
  | (go_at_call 63; refine (HC2.out _ HB1.out.1).mono ?_; rintro e W2 ⟨v2, rfl, ho2, hb2⟩; obtain ⟨p2, k2, rfl⟩ := own_slice ho2; have HO2 := Lib.hid ho2; clear ho2; have HB2 := Lib.hid (HB1.out.step hb2); have HBB := Lib.hid hb2; clear hb2; obtain ⟨z0, z1, z2, z3, z4⟩ := HF.out _ HB2.out; have f0 := HFZ.out _ HB2.out 0; have f3 := HFZ.out _ HB2.out 3))
 all_goals
  obtain ⟨W3, hW3⟩ : ∃ W3, W3 = (W2.setCell { block := w.heap.size, off := 0 } (Value.slice p1 l1.length k1)).setCell { block := w.heap.size, off := 3 } (Value.slice p2 l2.length k2) := ⟨_, rfl⟩
  rw [← hW3]
  obtain ⟨hk1, hk2, hk3⟩ := CB.after HB2.out (Value.slice p1 l1.length k1) (Value.slice p2 l2.length k2)
  rw [← hW3] at hk1 hk2 hk3
  have hsz := blk_lt HBD.out.2.2
  have HSZ := Lib.hid hsz; clear hsz
  have HR1 : Hid (W3.ownsRow W0.drew.heap.size 99 3 (Value.slice p1 l1.length k1) l1.length (cellsT l1)) := by
   have := own_below HO1.out HBB.out
   rw [hW3]
   exact ownsRow_setCell_below (ownsRow_setCell_below this (a := { block := w.heap.size, off := 0 }) (Nat.lt_of_succ_lt HSZ.out) _) (a := { block := w.heap.size, off := 3 }) (Nat.lt_of_succ_lt HSZ.out) _
  have HR2 : Hid (W3.ownsRow W0.drew.heap.size 102 3 (Value.slice p2 l2.length k2) l2.length (cellsT l2)) := by
   rw [hW3]
   have := ownsRow_base HO2.out (base' := W0.drew.heap.size) HB1s.out
   exact ownsRow_setCell_below (ownsRow_setCell_below this (a := { block := w.heap.size, off := 0 }) (Nat.lt_of_succ_lt HSZ.out) _) (a := { block := w.heap.size, off := 3 }) (Nat.lt_of_succ_lt HSZ.out) _
  have HK1 := Lib.hid hk1
  have HK2 := Lib.hid hk2
  have HK3 := Lib.hid hk3
  clear hW3 hk1 hk2 hk3 z0 z1 z2 z3 z4 f0 f3 y0 y1 y2 y3 y4 x0 x1 x2 x3 x4 c0 c1 c2 c3 c4
  have c0 : W3.cell? ⟨w.heap.size, 0, none⟩ = some (Value.slice p1 l1.length k1) := cB HK2.out 0
  have c1 : W3.cell? ⟨w.heap.size, 1, none⟩ = some (.int .i64 m) := cB HK2.out 1
  have c2 : W3.cell? ⟨w.heap.size, 2, none⟩ = some (.int .i64 d) := cB HK2.out 2
  have c3 : W3.cell? ⟨w.heap.size, 3, none⟩ = some (Value.slice p2 l2.length k2) := cB HK2.out 3
  have c4 : W3.cell? ⟨w.heap.size, 4, none⟩ = some (.bool b) := cB HK2.out 4
  have z0 : W3.cell? ⟨w.heap.size + 1, 0, none⟩ = some (.slice none 0 0) := cB HK3.out 0
  have z1 : W3.cell? ⟨w.heap.size + 1, 1, none⟩ = some (.int .i64 0) := cB HK3.out 1
  have z2 : W3.cell? ⟨w.heap.size + 1, 2, none⟩ = some (.int .i64 0) := cB HK3.out 2
  have z3 : W3.cell? ⟨w.heap.size + 1, 3, none⟩ = some (.slice none 0 0) := cB HK3.out 3
  have z4 : W3.cell? ⟨w.heap.size + 1, 4, none⟩ = some (.bool false) := cB HK3.out 4
  have f0 : W3.frozen? ⟨w.heap.size + 1, 0, none⟩ = false := frozen_blk HK3.out 0
  have f1 : W3.frozen? ⟨w.heap.size + 1, 1, none⟩ = false := frozen_blk HK3.out 1
  have f2 : W3.frozen? ⟨w.heap.size + 1, 2, none⟩ = false := frozen_blk HK3.out 2
  have f3 : W3.frozen? ⟨w.heap.size + 1, 3, none⟩ = false := frozen_blk HK3.out 3
  have f4 : W3.frozen? ⟨w.heap.size + 1, 4, none⟩ = false := frozen_blk HK3.out 4
  go_wp2_with fail
  obtain ⟨W4, hW4⟩ : ∃ W4, W4 = (((((W3.setCell { block := w.heap.size + 1, off := 0 } (Value.slice p1 l1.length k1)).setCell { block := w.heap.size + 1, off := 1 } (Value.int IntKind.i64 m)).setCell { block := w.heap.size + 1, off := 2 } (Value.int IntKind.i64 d)).setCell { block := w.heap.size + 1, off := 3 } (Value.slice p2 l2.length k2)).setCell { block := w.heap.size + 1, off := 4 } (Value.bool b)) := ⟨_, rfl⟩
  rw [← hW4]
  obtain ⟨r1, r2, r3⟩ := five HK3.out (Value.slice p1 l1.length k1) (Value.int IntKind.i64 m) (Value.int IntKind.i64 d) (Value.slice p2 l2.length k2) (Value.bool b)
  rw [← hW4] at r1 r2 r3
  have c0 : W4.cell? ⟨w.heap.size + 1, 0, none⟩ = some (Value.slice p1 l1.length k1) := cB r1 0
  have c1 : W4.cell? ⟨w.heap.size + 1, 1, none⟩ = some (.int .i64 m) := cB r1 1
  have c2 : W4.cell? ⟨w.heap.size + 1, 2, none⟩ = some (.int .i64 d) := cB r1 2
  have c3 : W4.cell? ⟨w.heap.size + 1, 3, none⟩ = some (Value.slice p2 l2.length k2) := cB r1 3
  have c4 : W4.cell? ⟨w.heap.size + 1, 4, none⟩ = some (.bool b) := cB r1 4
  refine bodyPost_ret (v := .agg #[Value.slice p1 l1.length k1, .int .i64 m, .int .i64 d, Value.slice p2 l2.length k2, .bool b]) (by simp [results, Try.results40, go_sem, c0, c1, c2, c3, c4]) rfl ⟨_, _, rfl, ?_, ?_, ?_⟩
  ·exact ownsRow_base (r3 _ _ _ _ _ _ HSZ.out HR1.out) HBS.out
  ·exact ownsRow_base (r3 _ _ _ _ _ _ HSZ.out HR2.out) HBS.out
  ·exact r2 _ _ (Nat.le_succ _) HK1.out
end Go.Proofs.Ytgbafpjeapkklaa.Mb
namespace Go.Proofs.Ytgbafpjeapkklaa.Mb
open Go.RowKit
set_option linter.unusedVariables false
set_option linter.unusedSimpArgs false
def idx {α : Type} (f : α → Bool) (l : List α) : Int := match l.findIdx? f with | some i => (i : Int) | none => -1
theorem idx_found {α : Type} {f : α → Bool} {l : List α} {k : Nat} {x : α} (hx : l[k]? = some x) (hf : f x = true) (hno : ∀ j y, j < k → l[j]? = some y → f y = false) : idx f l = k := by
 have h : l.findIdx? f = some k := by
  obtain ⟨hlt, rfl⟩ := List.getElem?_eq_some_iff.1 hx
  rw [List.findIdx?_eq_some_iff_getElem]
  refine ⟨hlt, hf, fun j hj => ?_⟩
  simp [hno j (l[j]'(by omega)) hj (by simp [show j < l.length by omega])]
 simp [idx, h]
theorem idx_none {α : Type} {f : α → Bool} {l : List α} (hno : ∀ y ∈ l, f y = false) : idx f l = -1 := by
 have h : l.findIdx? f = none := by
  rw [List.findIdx?_eq_none_iff]
  exact hno
 simp [idx, h]
set_option maxRecDepth 100000 in
set_option maxHeartbeats 1000000 in
theorem push1_at (x0 x1 x2 p : Int) (X : Nat) (w : World) (hX : w.cell? ⟨X, 0, none⟩ = some (.int .i64 p)) :
  Calls Try.prog 61 #[.agg #[.int .i64 x0, .int .i64 x1, .int .i64 x2], .pointer (some ⟨X, 0, none⟩)] w fun e w' => e = .returned (.bool (x0 == p)) ∧ Below w.heap.size w w' := by
 have hl := World.block_lt_of_cell? _ _ hX
 have hX' : (w.alloc (Obj.cells #[.int .i64 x0, .int .i64 x1, .int .i64 x2] 102)).cell? ⟨X, 0, none⟩ = some (.int .i64 p) := (((Below.refl w.heap.size w).alloc (Nat.le_refl _) _).cell (p := ⟨X, 0, none⟩) hl).trans hX
 go_enter Try.func61, Try.ntmps61
 go_wp2_with fail
 go_ret
 exact ⟨rfl, (Below.refl _ _).alloc (Nat.le_refl _) _⟩
set_option maxRecDepth 100000 in
set_option maxHeartbeats 1000000 in
theorem index61_at {v : Value} {l : List (Int × Int × Int)} (hl : l.length ≤ 2000) (p : Int) (X : Nat) (w : World) (h1 : Tri w v l) (hX : w.cell? ⟨X, 0, none⟩ = some (.int .i64 p)) :
  Calls Try.prog 57 #[v, .func (.func 61) #[] #[.pointer (some ⟨X, 0, none⟩)]] w fun e w' => e = .returned (.int .i64 (idx (fun x => x.1 == p) l)) ∧ Below w.heap.size w w' := by
 obtain ⟨A, c, rfl, hc, h1⟩ := h1
 have hXl := World.block_lt_of_cell? _ _ hX
 have HX := Lib.hid hX; clear hX
 obtain ⟨R, hR⟩ : ∃ R, R = idx (fun x => x.1 == p) l := ⟨_, rfl⟩
 rw [← hR]
 have HR := Lib.hid hR; clear hR
 generalize hn : l.length = n at *
 have HN := Lib.hid hn; clear hn
 rcases h1 with rfl | ⟨g, off, rfl, hg, h1⟩
 ·obtain rfl : n = 0 := by have := HN.out; simpa using this.symm
  obtain rfl : R = -1 := by rw [HR.out]; rfl
  go_enter Try.func57, Try.ntmps57
  go_wp2_with fail
  go_loop [8] (fun s => s = .int .i64 0) (fun _ => 0)
  case atStart => rfl
  case round =>
   obtain rfl := hrel
   go_wp2
   go_ret
   exact ⟨rfl, Below.refl _ _⟩
 have H1 := Lib.hid h1; clear h1
 go_enter Try.func57, Try.ntmps57
 go_wp2_with fail
 go_loopw [8] (fun s wr => ∃ k : Nat, k ≤ n ∧ s = .int .i64 k ∧ (∀ (j : Nat) (x : Int × Int × Int), j < k → l[j]? = some x → (x.1 == p) = false) ∧ Below w.heap.size w wr) (fun s _ => n - (intOf s).toNat)
 case atStart => exact ⟨0, by omega, rfl, fun j o hj => by omega, Below.refl _ _⟩
 case round =>
  obtain ⟨k, hk, rfl, hno, hb⟩ := hrel
  have HNO := Lib.hid hno; clear hno
  have HB := Lib.hid hb; clear hb
  by_cases hlt : k < n
  ·have tl : decide ((k : Int) < (n : Int)) = true := decide_eq_true (by omega)
   obtain ⟨x, hx⟩ : ∃ x, l[k]? = some x := ⟨l[k]'(by rw [HN.out]; exact hlt), by simp⟩
   obtain ⟨a0, a1, a2⟩ := H1.out k x hx
   obtain ⟨x0, x1, x2⟩ := x
   have c0 : wr.cell? ⟨g, off + k * 3, none⟩ = some (.int .i64 x0) := (HB.out.cell (p := ⟨g, off + k * 3, none⟩) hg).trans a0
   have c1 : wr.cell? ⟨g, off + k * 3 + 1, none⟩ = some (.int .i64 x1) := (HB.out.cell (p := ⟨g, off + k * 3 + 1, none⟩) hg).trans a1
   have c2 : wr.cell? ⟨g, off + k * 3 + 2, none⟩ = some (.int .i64 x2) := (HB.out.cell (p := ⟨g, off + k * 3 + 2, none⟩) hg).trans a2
   have HX' : Hid (wr.cell? ⟨X, 0, none⟩ = some (.int .i64 p)) := (HB.out.cell (p := ⟨X, 0, none⟩) hXl).trans HX.out
   have HO := Lib.hid hx
   clear a0 a1 a2 hx
   go_wp2_with fail
   refine (push1_at x0 x1 x2 p X _ HX'.out).mono ?_
   rintro e w2 ⟨rfl, hb2⟩
   have HB2 : Hid (Below w.heap.size w w2) := HB.out.trans (hb2.mono HB.out.size)
   clear hb2 c0 c1 c2
   cases hn : (x0 == p) with
   | true =>
    have hany : R = k := by
     rw [HR.out]
     exact idx_found HO.out hn (fun j y hj hy => HNO.out j y hj hy)
    subst hany
    clear hn
    go_wp2
    go_ret
    exact ⟨rfl, HB2.out⟩
   | false =>
    have HF := Lib.hid hn; clear hn
    go_wp2
    go_roundw
    case rel =>
     refine ⟨k + 1, by omega, by go_num, fun j o' hj ho' => ?_, HB2.out⟩
     by_cases e : j = k
     ·subst e; rw [HO.out] at ho'; cases ho'; exact HF.out
     ·exact HNO.out j o' (by omega) ho'
    case measure => simp [intOf]; omega
  ·obtain rfl : k = n := by omega
   have hany : R = -1 := by
    rw [HR.out]
    refine idx_none fun y hy => ?_
    obtain ⟨j, hj, e⟩ := List.getElem_of_mem hy
    rw [HN.out] at hj
    exact HNO.out j y hj (by rw [← e]; simp)
   subst hany
   go_wp2
   go_ret
   exact ⟨rfl, HB.out⟩
set_option maxRecDepth 100000 in
set_option maxHeartbeats 1000000 in
theorem wait1_at (x0 x1 x2 p : Int) (X : Nat) (w : World) (hX : w.cell? ⟨X, 0, none⟩ = some (.int .i64 p)) :
  Calls Try.prog 58 #[.agg #[.int .i64 x0, .int .i64 x1, .int .i64 x2], .pointer (some ⟨X, 0, none⟩)] w fun e w' => e = .returned (.bool (x1 == p)) ∧ Below w.heap.size w w' := by
 have hl := World.block_lt_of_cell? _ _ hX
 have hX' : (w.alloc (Obj.cells #[.int .i64 x0, .int .i64 x1, .int .i64 x2] 102)).cell? ⟨X, 0, none⟩ = some (.int .i64 p) := (((Below.refl w.heap.size w).alloc (Nat.le_refl _) _).cell (p := ⟨X, 0, none⟩) hl).trans hX
 go_enter Try.func58, Try.ntmps58
 go_wp2_with fail
 go_ret
 exact ⟨rfl, (Below.refl _ _).alloc (Nat.le_refl _) _⟩
set_option maxRecDepth 100000 in
set_option maxHeartbeats 1000000 in
theorem index58_at {v : Value} {l : List (Int × Int × Int)} (hl : l.length ≤ 2000) (p : Int) (X : Nat) (w : World) (h1 : Tri w v l) (hX : w.cell? ⟨X, 0, none⟩ = some (.int .i64 p)) :
  Calls Try.prog 57 #[v, .func (.func 58) #[] #[.pointer (some ⟨X, 0, none⟩)]] w fun e w' => e = .returned (.int .i64 (idx (fun x => x.2.1 == p) l)) ∧ Below w.heap.size w w' := by
 obtain ⟨A, c, rfl, hc, h1⟩ := h1
 have hXl := World.block_lt_of_cell? _ _ hX
 have HX := Lib.hid hX; clear hX
 obtain ⟨R, hR⟩ : ∃ R, R = idx (fun x => x.2.1 == p) l := ⟨_, rfl⟩
 rw [← hR]
 have HR := Lib.hid hR; clear hR
 generalize hn : l.length = n at *
 have HN := Lib.hid hn; clear hn
 rcases h1 with rfl | ⟨g, off, rfl, hg, h1⟩
 ·obtain rfl : n = 0 := by have := HN.out; simpa using this.symm
  obtain rfl : R = -1 := by rw [HR.out]; rfl
  go_enter Try.func57, Try.ntmps57
  go_wp2_with fail
  go_loop [8] (fun s => s = .int .i64 0) (fun _ => 0)
  case atStart => rfl
  case round =>
   obtain rfl := hrel
   go_wp2
   go_ret
   exact ⟨rfl, Below.refl _ _⟩
 have H1 := Lib.hid h1; clear h1
 go_enter Try.func57, Try.ntmps57
 go_wp2_with fail
 go_loopw [8] (fun s wr => ∃ k : Nat, k ≤ n ∧ s = .int .i64 k ∧ (∀ (j : Nat) (x : Int × Int × Int), j < k → l[j]? = some x → (x.2.1 == p) = false) ∧ Below w.heap.size w wr) (fun s _ => n - (intOf s).toNat)
 case atStart => exact ⟨0, by omega, rfl, fun j o hj => by omega, Below.refl _ _⟩
 case round =>
  obtain ⟨k, hk, rfl, hno, hb⟩ := hrel
  have HNO := Lib.hid hno; clear hno
  have HB := Lib.hid hb; clear hb
  by_cases hlt : k < n
  ·have tl : decide ((k : Int) < (n : Int)) = true := decide_eq_true (by omega)
   obtain ⟨x, hx⟩ : ∃ x, l[k]? = some x := ⟨l[k]'(by rw [HN.out]; exact hlt), by simp⟩
   obtain ⟨a0, a1, a2⟩ := H1.out k x hx
   obtain ⟨x0, x1, x2⟩ := x
   have c0 : wr.cell? ⟨g, off + k * 3, none⟩ = some (.int .i64 x0) := (HB.out.cell (p := ⟨g, off + k * 3, none⟩) hg).trans a0
   have c1 : wr.cell? ⟨g, off + k * 3 + 1, none⟩ = some (.int .i64 x1) := (HB.out.cell (p := ⟨g, off + k * 3 + 1, none⟩) hg).trans a1
   have c2 : wr.cell? ⟨g, off + k * 3 + 2, none⟩ = some (.int .i64 x2) := (HB.out.cell (p := ⟨g, off + k * 3 + 2, none⟩) hg).trans a2
   have HX' : Hid (wr.cell? ⟨X, 0, none⟩ = some (.int .i64 p)) := (HB.out.cell (p := ⟨X, 0, none⟩) hXl).trans HX.out
   have HO := Lib.hid hx
   clear a0 a1 a2 hx
   go_wp2_with fail
   refine (wait1_at x0 x1 x2 p X _ HX'.out).mono ?_
   rintro e w2 ⟨rfl, hb2⟩
   have HB2 : Hid (Below w.heap.size w w2) := HB.out.trans (hb2.mono HB.out.size)
   clear hb2 c0 c1 c2
   cases hn : (x1 == p) with
   | true =>
    have hany : R = k := by
     rw [HR.out]
     exact idx_found HO.out hn (fun j y hj hy => HNO.out j y hj hy)
    subst hany
    clear hn
    go_wp2
    go_ret
    exact ⟨rfl, HB2.out⟩
   | false =>
    have HF := Lib.hid hn; clear hn
    go_wp2
    go_roundw
    case rel =>
     refine ⟨k + 1, by omega, by go_num, fun j o' hj ho' => ?_, HB2.out⟩
     by_cases e : j = k
     ·subst e; rw [HO.out] at ho'; cases ho'; exact HF.out
     ·exact HNO.out j o' (by omega) ho'
    case measure => simp [intOf]; omega
  ·obtain rfl : k = n := by omega
   have hany : R = -1 := by
    rw [HR.out]
    refine idx_none fun y hy => ?_
    obtain ⟨j, hj, e⟩ := List.getElem_of_mem hy
    rw [HN.out] at hj
    exact HNO.out j y hj (by rw [← e]; simp)
   subst hany
   go_wp2
   go_ret
   exact ⟨rfl, HB.out⟩
set_option maxRecDepth 100000 in
set_option maxHeartbeats 1000000 in
theorem push_at {ns ps : Value} {l : List (Int × Int × Int)} (hl : l.length ≤ 2000) (m d : Int) (b : Bool) (p : Int) (w : World) (hp : Tri w ps l) :
  Calls Try.prog 39 #[.agg #[ns, .int .i64 m, .int .i64 d, ps, .bool b], .int .i64 p] w fun e w' => e = .returned (.int .i64 (idx (fun x => x.1 == p) l)) ∧ Below w.heap.size w w' := by
 have h1 : Below w.heap.size w (w.alloc (Obj.cells #[ns, .int .i64 m, .int .i64 d, ps, .bool b] 28)) := (Below.refl _ _).alloc (Nat.le_refl _) _
 have h2 := (Below.refl (w.alloc (Obj.cells #[ns, .int .i64 m, .int .i64 d, ps, .bool b] 28)).heap.size (w.alloc (Obj.cells #[ns, .int .i64 m, .int .i64 d, ps, .bool b] 28))).alloc (Nat.le_refl _) (Obj.cells #[.int .i64 p] 3)
 have h3 := (MapKept.heap_alloc w (Obj.cells #[ns, .int .i64 m, .int .i64 d, ps, .bool b] 28)).1
 have h4 := (MapKept.heap_alloc (w.alloc (Obj.cells #[ns, .int .i64 m, .int .i64 d, ps, .bool b] 28)) (Obj.cells #[.int .i64 p] 3)).1
 have hsz : (w.alloc (Obj.cells #[ns, .int .i64 m, .int .i64 d, ps, .bool b] 28)).heap.size = w.heap.size + 1 := by simp
 obtain ⟨A, c, hA⟩ := hp.slice
 subst hA
 obtain ⟨W0, hW0⟩ : ∃ W0, W0 = (w.alloc (Obj.cells #[ns, .int .i64 m, .int .i64 d, Value.slice A l.length c, .bool b] 28)).alloc (Obj.cells #[.int .i64 p] 3) := ⟨_, rfl⟩
 rw [← hW0] at h2 h4
 rw [hsz] at h4
 have HB0 : Hid (Below w.heap.size w W0) := h1.trans (h2.mono h1.size)
 have c3 : W0.cell? ⟨w.heap.size, 3, none⟩ = some (Value.slice A l.length c) := cB ((h2.block _ (blk_lt h3)).trans h3) 3
 have HP := Lib.hid (hp.below HB0.out)
 have HX : Hid (W0.cell? ⟨w.heap.size + 1, 0, none⟩ = some (.int .i64 p)) := cB h4 0
 clear h1 h2 h3 h4 hsz hp
 obtain ⟨R, hR⟩ : ∃ R, R = idx (fun x => x.1 == p) l := ⟨_, rfl⟩
 rw [← hR]
 go_enter Try.func39, Try.ntmps39
 go_upto_region 1 with fail
 rw [← hW0]
 clear hW0
 go_wp2_with fail
 refine (index61_at hl p (w.heap.size + 1) _ HP.out HX.out).mono ?_
 rw [← hR]
 rintro e w2 ⟨he, hb2⟩
 subst he
 have HB2 : Hid (Below w.heap.size w w2) := HB0.out.trans (hb2.mono HB0.out.size)
 clear hb2
 go_wp2_with fail
 go_ret
 exact ⟨by rw [hR]; rfl, HB2.out⟩
set_option maxRecDepth 100000 in
set_option maxHeartbeats 1000000 in
theorem pop_no {g gn off n cap : Nat} {m : Int} {d : Nat} {ps : Value} {b : Bool} (W : World) (hg : W.heap[g]? = some (.cells #[.slice (some ⟨gn, off, none⟩) n cap, .int .i64 m, .int .i64 d, ps, .bool b] 28 (0, 0)))
  (hd : d < n) (hx : W.cell? ⟨gn, off + d * 3 + 2, none⟩ = some (.int .i64 (-1))) :
  Calls Try.prog 43 #[.pointer (some ⟨g, 0, none⟩)] W fun e w' => e = .returned (.tuple #[.int .i64 0, .bool false]) ∧ Below W.heap.size W w' := by
 have c0 : W.cell? ⟨g, 0, none⟩ = some (.slice (some ⟨gn, off, none⟩) n cap) := cB hg 0
 have c2 : W.cell? ⟨g, 2, none⟩ = some (.int .i64 d) := cB hg 2
 have hdl : decide ((d : Int) < (n : Int)) = true := decide_eq_true (by omega)
 have hdn : (d : Int) < (n : Int) := by omega
 clear hg
 go_enter Try.func43, Try.ntmps43
 go_wp2_with fail
 go_quiet (fail)
 go_wp2_with fail
 go_ret2
 exact ⟨rfl, below_drewN (Below.refl _ _) _⟩
set_option maxRecDepth 100000 in
set_option maxHeartbeats 1000000 in
theorem pop_yes {g gn off n cap : Nat} {m : Int} {d k : Nat} {v : Int} {ps : Value} {b : Bool} (W : World) (hg : W.heap[g]? = some (.cells #[.slice (some ⟨gn, off, none⟩) n cap, .int .i64 m, .int .i64 d, ps, .bool b] 28 (0, 0)))
  (hne : gn ≠ g) (hd : d < n) (hk : k < n) (hx : W.cell? ⟨gn, off + d * 3 + 2, none⟩ = some (.int .i64 (k : Int))) (hv : W.cell? ⟨gn, off + k * 3, none⟩ = some (.int .i64 v)) :
  Calls Try.prog 43 #[.pointer (some ⟨g, 0, none⟩)] W fun e w' => e = .returned (.tuple #[.int .i64 v, .bool true]) ∧ ∃ W1, Below W.heap.size W W1 ∧ w' = W1.setCell ⟨g, 2, none⟩ (.int .i64 (k : Int)) := by
 have c0 : W.cell? ⟨g, 0, none⟩ = some (.slice (some ⟨gn, off, none⟩) n cap) := cB hg 0
 have c2 : W.cell? ⟨g, 2, none⟩ = some (.int .i64 d) := cB hg 2
 have hdl : decide ((d : Int) < (n : Int)) = true := decide_eq_true (by omega)
 have hdn : (d : Int) < (n : Int) := by omega
 have hkl : decide ((k : Int) < (n : Int)) = true := decide_eq_true (by omega)
 have hkn : (k : Int) < (n : Int) := by omega
 have HG := Lib.hid hg; clear hg
 go_enter Try.func43, Try.ntmps43
 go_wp2_with fail
 go_quiet (fail)
 have f2 : W.frozen? ⟨g, 2, none⟩ = false := frozen_blk HG.out 2
 go_wp2_with fail
 go_ret2
 exact ⟨rfl, W.drewN nq, below_drewN (Below.refl _ _) _, rfl⟩
end Go.Proofs.Ytgbafpjeapkklaa.Mb
namespace Go.Proofs.Ytgbafpjeapkklaa.Mb
open Go.RowKit
set_option linter.unusedVariables false
set_option linter.unusedSimpArgs false
def TriT (w : World) (e : TypeId) (v : Value) (l : List (Int × Int × Int)) : Prop := Tri w v l ∧ ∀ g, v.ownBlock = some g → ∃ cur f, w.heap[g]? = some (.cells cur e f)
theorem TriT.below {w w' : World} {e : TypeId} {v : Value} {l : List (Int × Int × Int)} (h : TriT w e v l) (hb : Below w.heap.size w w') : TriT w' e v l :=
 ⟨h.1.below hb, fun g hg => by obtain ⟨cur, f, hc⟩ := h.2 g hg; exact ⟨cur, f, (hb.block g (blk_lt hc)).trans hc⟩⟩
theorem TriT.slice {w : World} {e : TypeId} {v : Value} {l : List (Int × Int × Int)} (h : TriT w e v l) : ∃ p cap, v = .slice p l.length cap := h.1.slice
theorem own_triT {w : World} {base : Nat} {e : TypeId} {v : Value} {n : Nat} {l : List (Int × Int × Int)} (hn : n = l.length) (h : w.ownsRow base e 3 v n (cellsT l)) : TriT w e v l := by
 refine ⟨own_tri hn h, fun g hg => ?_⟩
 rcases h.2 with ⟨rfl, _⟩ | ⟨g', cap, cur, rfl, _, hgg, _⟩
 ·simp [Value.ownBlock] at hg
 ·simp [Value.ownBlock] at hg
  subst hg
  exact ⟨cur, _, hgg⟩
def St (w : World) (v : Value) (q : Q) : Prop := ∃ ns ps, v = .agg #[ns, .int .i64 q.m, .int .i64 q.done, ps, .bool q.empty] ∧ TriT w 99 ns q.nodes ∧ TriT w 102 ps q.pushes
structure CO (w : World) (ns ps : Value) (m d : Int) (b : Bool) (g B : Nat) (ns' ps' : Value) (l1 l2 : List (Int × Int × Int)) (m' d' : Int) (b' : Bool) (W : World) : Prop where
 cb : CB w ns ps m d b W
 box : W.heap[g]? = some (.cells #[ns', .int .i64 m', .int .i64 d', ps', .bool b'] 28 (0, 0))
 low : w.heap.size + 2 ≤ B
 lowg : B ≤ g
 r1 : W.ownsRow B 99 3 ns' l1.length (cellsT l1)
 r2 : W.ownsRow B 102 3 ps' l2.length (cellsT l2)
theorem CO.step {w : World} {ns ps : Value} {m d : Int} {b : Bool} {g B : Nat} {ns' ps' : Value} {l1 l2 : List (Int × Int × Int)} {m' d' : Int} {b' : Bool} {W W' : World} (h : CO w ns ps m d b g B ns' ps' l1 l2 m' d' b' W) (hb : Below W.heap.size W W') :
  CO w ns ps m d b g B ns' ps' l1 l2 m' d' b' W' :=
 ⟨h.cb.step hb, (hb.block _ (blk_lt h.box)).trans h.box, h.low, h.lowg, own_below h.r1 hb, own_below h.r2 hb⟩
theorem CB.size {w : World} {ns ps : Value} {m d : Int} {b : Bool} {W : World} (h : CB w ns ps m d b W) : w.heap.size + 2 ≤ W.heap.size := by
 have := blk_lt h.2.2; omega
theorem own_ne {W : World} {B g : Nat} {e t : TypeId} {v : Value} {n : Nat} {xs : List Value} {C : Array Value} {f : Nat × Nat} (h : W.ownsRow B e 3 v n xs) (hg : W.heap[g]? = some (.cells C t f)) (ht : e ≠ t) : v.ownBlock ≠ some g := by
 intro hv
 rcases h.2 with ⟨rfl, _⟩ | ⟨g', cap, cur, rfl, _, hgg, _⟩
 ·simp [Value.ownBlock] at hv
 ·simp [Value.ownBlock] at hv
  subst hv
  rw [hgg] at hg
  injection hg with hg
  injection hg with _ h2 _
  exact ht h2
theorem own_set {W : World} {B g : Nat} {e t : TypeId} {v : Value} {n : Nat} {xs : List Value} {C : Array Value} {f : Nat × Nat} (h : W.ownsRow B e 3 v n xs) (hg : W.heap[g]? = some (.cells C t f)) (ht : e ≠ t) (o : Nat) (u : Value) : (W.setCell ⟨g, o, none⟩ u).ownsRow B e 3 v n xs := by
 have hne := own_ne h hg ht
 refine ⟨h.1, ?_⟩
 rcases h.2 with h0 | ⟨g', cap, cur, h1, h2, h3, h4⟩
 ·exact .inl h0
 ·refine .inr ⟨g', cap, cur, h1, h2, ?_, h4⟩
  subst h1
  exact blk_set_ne h3 _ (by intro e; apply hne; simp [Value.ownBlock]; exact e) _
theorem CO.set {w : World} {ns ps : Value} {m d : Int} {b : Bool} {g B : Nat} {ns' ps' : Value} {l1 l2 : List (Int × Int × Int)} {m' d' : Int} {b' : Bool} {W : World} (h : CO w ns ps m d b g B ns' ps' l1 l2 m' d' b' W) (o : Nat) (u : Value) :
  CB w ns ps m d b (W.setCell ⟨g, o, none⟩ u) ∧ (W.setCell ⟨g, o, none⟩ u).ownsRow B 99 3 ns' l1.length (cellsT l1) ∧ (W.setCell ⟨g, o, none⟩ u).ownsRow B 102 3 ps' l2.length (cellsT l2) := by
 have := h.low
 have := h.lowg
 refine ⟨⟨h.cb.1.setCell (p := ⟨g, o, none⟩) (by show w.heap.size ≤ g; omega) _, blk_set_ne h.cb.2.1 ⟨g, o, none⟩ (by show w.heap.size ≠ g; omega) _, blk_set_ne h.cb.2.2 ⟨g, o, none⟩ (by show w.heap.size + 1 ≠ g; omega) _⟩, own_set h.r1 h.box (by decide) _ _, own_set h.r2 h.box (by decide) _ _⟩
theorem CO.set4 {w : World} {ns ps : Value} {m d : Int} {b : Bool} {g B : Nat} {ns' ps' : Value} {l1 l2 : List (Int × Int × Int)} {m' d' : Int} {b' : Bool} {W : World} (h : CO w ns ps m d b g B ns' ps' l1 l2 m' d' b' W) (c : Bool) :
  CO w ns ps m d b g B ns' ps' l1 l2 m' d' c (W.setCell ⟨g, 4, none⟩ (.bool c)) :=
 ⟨(h.set 4 _).1, blk_set h.box 4 _, h.low, h.lowg, (h.set 4 _).2.1, (h.set 4 _).2.2⟩
theorem CO.set2 {w : World} {ns ps : Value} {m d : Int} {b : Bool} {g B : Nat} {ns' ps' : Value} {l1 l2 : List (Int × Int × Int)} {m' d' : Int} {b' : Bool} {W : World} (h : CO w ns ps m d b g B ns' ps' l1 l2 m' d' b' W) (c : Int) :
  CO w ns ps m d b g B ns' ps' l1 l2 m' c b' (W.setCell ⟨g, 2, none⟩ (.int .i64 c)) :=
 ⟨(h.set 2 _).1, blk_set h.box 2 _, h.low, h.lowg, (h.set 2 _).2.1, (h.set 2 _).2.2⟩
theorem CO.set1 {w : World} {ns ps : Value} {m d : Int} {b : Bool} {g B : Nat} {ns' ps' : Value} {l1 l2 : List (Int × Int × Int)} {m' d' : Int} {b' : Bool} {W : World} (h : CO w ns ps m d b g B ns' ps' l1 l2 m' d' b' W) (c : Int) :
  CO w ns ps m d b g B ns' ps' l1 l2 c d' b' (W.setCell ⟨g, 1, none⟩ (.int .i64 c)) :=
 ⟨(h.set 1 _).1, blk_set h.box 1 _, h.low, h.lowg, (h.set 1 _).2.1, (h.set 1 _).2.2⟩
theorem CO.made {w : World} {ns ps : Value} {m d : Int} {b : Bool} {B : Nat} {ns' ps' : Value} {l1 l2 : List (Int × Int × Int)} {W : World} (m' d' : Int) (b' : Bool) (h : CB w ns ps m d b W) (hB : w.heap.size + 2 ≤ B) (hBW : B ≤ W.heap.size)
  (r1 : W.ownsRow B 99 3 ns' l1.length (cellsT l1)) (r2 : W.ownsRow B 102 3 ps' l2.length (cellsT l2)) :
  ∃ g W', g = W.heap.size ∧ W' = W.alloc (Obj.cells #[ns', .int .i64 m', .int .i64 d', ps', .bool b'] 28) ∧ CO w ns ps m d b g B ns' ps' l1 l2 m' d' b' W' := by
 have ha : Below W.heap.size W (W.alloc (Obj.cells #[ns', .int .i64 m', .int .i64 d', ps', .bool b'] 28)) := (Below.refl _ _).alloc (Nat.le_refl _) _
 have hn := (MapKept.heap_alloc W (Obj.cells #[ns', .int .i64 m', .int .i64 d', ps', .bool b'] 28)).1
 exact ⟨_, _, rfl, rfl, h.step ha, hn, hB, hBW, own_below r1 ha, own_below r2 ha⟩
theorem CO.out {w : World} {ns ps : Value} {m d : Int} {b : Bool} {g B : Nat} {ns' ps' : Value} {l1 l2 : List (Int × Int × Int)} {m' d' : Int} {b' : Bool} {W : World} (h : CO w ns ps m d b g B ns' ps' l1 l2 m' d' b' W) {W' : World}
  (hW : W' = (((((W.setCell ⟨w.heap.size + 1, 0, none⟩ ns').setCell ⟨w.heap.size + 1, 1, none⟩ (.int .i64 m')).setCell ⟨w.heap.size + 1, 2, none⟩ (.int .i64 d')).setCell ⟨w.heap.size + 1, 3, none⟩ ps').setCell ⟨w.heap.size + 1, 4, none⟩ (.bool b'))) :
  Below w.heap.size w W' ∧ W'.heap[w.heap.size + 1]? = some (.cells #[ns', .int .i64 m', .int .i64 d', ps', .bool b'] 28 (0, 0)) ∧ TriT W' 99 ns' l1 ∧ TriT W' 102 ps' l2 := by
 subst hW
 have := h.low
 obtain ⟨f1, f2, f3⟩ := five h.cb.2.2 ns' (.int .i64 m') (.int .i64 d') ps' (.bool b')
 exact ⟨f2 _ _ (Nat.le_succ _) h.cb.1, f1, own_triT rfl (f3 _ _ _ _ _ _ (by omega) h.r1), own_triT rfl (f3 _ _ _ _ _ _ (by omega) h.r2)⟩
theorem CO.facts {w : World} {ns ps : Value} {m d : Int} {b : Bool} {g B : Nat} {ns' ps' : Value} {l1 l2 : List (Int × Int × Int)} {m' d' : Int} {b' : Bool} {W : World} (h : CO w ns ps m d b g B ns' ps' l1 l2 m' d' b' W) :
  W.cell? ⟨g, 0, none⟩ = some ns' ∧ W.cell? ⟨g, 1, none⟩ = some (.int .i64 m') ∧ W.cell? ⟨g, 2, none⟩ = some (.int .i64 d') ∧ W.cell? ⟨g, 3, none⟩ = some ps' ∧ W.cell? ⟨g, 4, none⟩ = some (.bool b') ∧
  W.cell? ⟨w.heap.size + 1, 0, none⟩ = some (.slice none 0 0) ∧ W.cell? ⟨w.heap.size + 1, 1, none⟩ = some (.int .i64 0) ∧ W.cell? ⟨w.heap.size + 1, 2, none⟩ = some (.int .i64 0) ∧ W.cell? ⟨w.heap.size + 1, 3, none⟩ = some (.slice none 0 0) ∧ W.cell? ⟨w.heap.size + 1, 4, none⟩ = some (.bool false) :=
 ⟨cB h.box 0, cB h.box 1, cB h.box 2, cB h.box 3, cB h.box 4, cB h.cb.2.2 0, cB h.cb.2.2 1, cB h.cb.2.2 2, cB h.cb.2.2 3, cB h.cb.2.2 4⟩
theorem CO.frozen {w : World} {ns ps : Value} {m d : Int} {b : Bool} {g B : Nat} {ns' ps' : Value} {l1 l2 : List (Int × Int × Int)} {m' d' : Int} {b' : Bool} {W : World} (h : CO w ns ps m d b g B ns' ps' l1 l2 m' d' b' W) (o : Nat) :
  W.frozen? ⟨g, o, none⟩ = false ∧ W.frozen? ⟨w.heap.size + 1, o, none⟩ = false := ⟨frozen_blk h.box o, frozen_blk h.cb.2.2 o⟩
theorem CB.facts {w : World} {ns ps : Value} {m d : Int} {b : Bool} {W : World} (h : CB w ns ps m d b W) :
  W.cell? ⟨w.heap.size, 0, none⟩ = some ns ∧ W.cell? ⟨w.heap.size, 1, none⟩ = some (.int .i64 m) ∧ W.cell? ⟨w.heap.size, 2, none⟩ = some (.int .i64 d) ∧ W.cell? ⟨w.heap.size, 3, none⟩ = some ps ∧ W.cell? ⟨w.heap.size, 4, none⟩ = some (.bool b) :=
 ⟨cB h.2.1 0, cB h.2.1 1, cB h.2.1 2, cB h.2.1 3, cB h.2.1 4⟩
end Go.Proofs.Ytgbafpjeapkklaa.Mb
