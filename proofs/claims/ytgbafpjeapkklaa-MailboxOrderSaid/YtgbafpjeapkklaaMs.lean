/- MailboxProgress: what its walk needs. -/
import Derived.Test.YtgbafpjeapkklaaMr
namespace Go.Proofs.Ytgbafpjeapkklaa.Mb
open Go.RowKit
set_option linter.unusedVariables false
set_option linter.unusedSimpArgs false

theorem step_TR1 {ops : Array Oper} {o : Oper} {a : Act} {W : World} {K : Act → World → Prop} {Q : Exit → Act → World → Prop} {E : Prop}
    {w : World} {X : Nat} {ns ps : Value} {q : Mb.Q} {Y : Nat} {ns2 ps2 : Value} {q2 : Mb.Q} {u : Value} {n : Nat} {xs : List Int} {v : Value} {m : Nat} {ys : List Int} {fr : List (Nat × Int)}
    (h : TR w X ns ps q Y ns2 ps2 q2 u n xs v m ys fr W) {g : Nat} {c : Int} (hm : (g, c) ∈ fr) (hg : o.guard = none) (s x : Operand) (hop : o.op = Op.call { callee := Callee.builtin Builtin.append, args := #[s, x], argTypes := #[30, 30] })
    (hs : a.eval s = u) (hx : a.eval x = .slice (some ⟨g, 0, none⟩) 1 1) (hn : n ≤ 2000)
    (hK : ∀ p k w', TR w X ns ps q Y ns2 ps2 q2 (.slice p (n + 1) k) (n + 1) (xs ++ [c]) v m ys fr w' → K (a.put o.dst (.slice p (n + 1) k)) w') :
    if Region.wanted o (yielded ops a.tmps) = true then Oper.wp Try.prog o a W K Q else E := by
  obtain ⟨u', W', hr, ho, hgr, hb, p, k, rfl⟩ := run_append_one W o.type h.o1 (h.fresh _ hm).1 hn h.sb.below.size
  exact step_append_run hg s x 30 hop _ _ hs hx hr (hK p k W' (h.re1 hgr ho hb))
theorem step_TR2 {ops : Array Oper} {o : Oper} {a : Act} {W : World} {K : Act → World → Prop} {Q : Exit → Act → World → Prop} {E : Prop}
    {w : World} {X : Nat} {ns ps : Value} {q : Mb.Q} {Y : Nat} {ns2 ps2 : Value} {q2 : Mb.Q} {u : Value} {n : Nat} {xs : List Int} {v : Value} {m : Nat} {ys : List Int} {fr : List (Nat × Int)}
    (h : TR w X ns ps q Y ns2 ps2 q2 u n xs v m ys fr W) {g : Nat} {c : Int} (hm : (g, c) ∈ fr) (hg : o.guard = none) (s x : Operand) (hop : o.op = Op.call { callee := Callee.builtin Builtin.append, args := #[s, x], argTypes := #[30, 30] })
    (hs : a.eval s = v) (hx : a.eval x = .slice (some ⟨g, 0, none⟩) 1 1) (hn : m ≤ 2000)
    (hK : ∀ p k w', TR w X ns ps q Y ns2 ps2 q2 u n xs (.slice p (m + 1) k) (m + 1) (ys ++ [c]) fr w' → K (a.put o.dst (.slice p (m + 1) k)) w') :
    if Region.wanted o (yielded ops a.tmps) = true then Oper.wp Try.prog o a W K Q else E := by
  obtain ⟨u', W', hr, ho, hgr, hb, p, k, rfl⟩ := run_append_one W o.type h.o2 (h.fresh _ hm).1 hn h.sb.below.size
  exact step_append_run hg s x 30 hop _ _ hs hx hr (hK p k W' (h.re2 hgr ho hb))

theorem TR.putX {w : World} {X : Nat} {ns ps : Value} {q : Mb.Q} {Y : Nat} {ns2 ps2 : Value} {q2 : Mb.Q} {u : Value} {n : Nat} {xs : List Int} {v : Value} {m : Nat} {ys : List Int} {fr : List (Nat × Int)} {W W' : World}
    (h : TR w X ns ps q Y ns2 ps2 q2 u n xs v m ys fr W) (hne : Y ≠ X)
    (hW : W' = (((((W.setCell ⟨X, 0, none⟩ ns2).setCell ⟨X, 1, none⟩ (.int .i64 q2.m)).setCell ⟨X, 2, none⟩ (.int .i64 q2.done)).setCell ⟨X, 3, none⟩ ps2).setCell ⟨X, 4, none⟩ (.bool q2.empty))) :
    TR w X ns2 ps2 q2 Y ns2 ps2 q2 u n xs v m ys fr W' := by
  have h1 := h.sb.put h.sb2.t1 h.sb2.t2 hW
  have hk : ∀ k, k ≠ X → W'.heap[k]? = W.heap[k]? := by
    intro k hk
    rw [hW, Below.heap_setCell _ _ _ _ hk, Below.heap_setCell _ _ _ _ hk, Below.heap_setCell _ _ _ _ hk, Below.heap_setCell _ _ _ _ hk, Below.heap_setCell _ _ _ _ hk]
  refine ⟨h1, ⟨h1.below, h.sb2.low, (hk _ hne).trans h.sb2.box, h1.t1, h1.t2⟩, own1_kept h.o1 h.sb.box (by decide) (fun k _ => hk k), own1_kept h.o2 h.sb.box (by decide) (fun k _ => hk k), h.ap, fun y hy => ⟨(hk _ ?_).trans (h.fresh y hy).1, (h.fresh y hy).2⟩⟩
  intro e
  have h2 := (h.fresh y hy).1
  rw [e, h.sb.box] at h2
  injection h2 with h2
  injection h2 with _ h3 _
  cases h3

/-- A state is stored, whole, into another variable. -/
theorem TR.putY {w : World} {X : Nat} {ns ps : Value} {q : Mb.Q} {Z : Nat} {ns0 ps0 : Value} {q0' : Mb.Q} {u : Value} {n : Nat} {xs : List Int} {v : Value} {m : Nat} {ys : List Int} {fr : List (Nat × Int)} {W W' : World}
    (h : TR w X ns ps q Z ns0 ps0 q0' u n xs v m ys fr W) {Y : Nat} {C : Array Value} (hne : X ≠ Y) (hlow : w.heap.size ≤ Y) {a0 a1 a2 a3 a4 : Value} (hC : C = #[a0, a1, a2, a3, a4]) (hY : W.heap[Y]? = some (.cells C 28 (0, 0))) {ns2 ps2 : Value} {q2 : Mb.Q} (t1 : TriT W 99 ns2 q2.nodes) (t2 : TriT W 102 ps2 q2.pushes)
    (hW : W' = (((((W.setCell ⟨Y, 0, none⟩ ns2).setCell ⟨Y, 1, none⟩ (.int .i64 q2.m)).setCell ⟨Y, 2, none⟩ (.int .i64 q2.done)).setCell ⟨Y, 3, none⟩ ps2).setCell ⟨Y, 4, none⟩ (.bool q2.empty))) :
    TR w X ns ps q Y ns2 ps2 q2 u n xs v m ys fr W' := by
  subst hC
  have hk : ∀ k, k ≠ Y → W'.heap[k]? = W.heap[k]? := by
    intro k hk
    rw [hW, Below.heap_setCell _ _ _ _ hk, Below.heap_setCell _ _ _ _ hk, Below.heap_setCell _ _ _ _ hk, Below.heap_setCell _ _ _ _ hk, Below.heap_setCell _ _ _ _ hk]
  subst hW
  obtain ⟨f1, f2, _⟩ := five hY ns2 (.int .i64 q2.m) (.int .i64 q2.done) ps2 (.bool q2.empty)
  have hb := f2 _ _ hlow h.sb.below
  refine ⟨⟨hb, h.sb.low, (hk _ hne).trans h.sb.box, h.sb.t1.five hY (by decide) _ _ _ _ _, h.sb.t2.five hY (by decide) _ _ _ _ _⟩, ⟨hb, hlow, f1, t1.five hY (by decide) _ _ _ _ _, t2.five hY (by decide) _ _ _ _ _⟩, own1_kept h.o1 hY (by decide) (fun k _ => hk k), own1_kept h.o2 hY (by decide) (fun k _ => hk k), h.ap, fun y hy => ⟨(hk _ ?_).trans (h.fresh y hy).1, (h.fresh y hy).2⟩⟩
  intro e
  have h2 := (h.fresh y hy).1
  rw [e, hY] at h2
  injection h2 with h2
  injection h2 with _ h3 _
  cases h3
/-- The zero state, in a block of its own. -/
def zst : Array Value := #[.slice none 0 0, .int .i64 0, .int .i64 0, .slice none 0 0, .bool false]

theorem own_one {W : World} {B : Nat} {v : Value} {n : Nat} {xs : List Value} (h : W.ownsRow B 3 1 v n xs) (h0 : 0 < n) : ∃ g cap, v = .slice (some ⟨g, 0, none⟩) n cap ∧ B ≤ g ∧ n ≤ cap ∧ (∃ cur, W.heap[g]? = some (.cells cur 3 (0, 0))) ∧ ∀ k u, xs[k]? = some u → W.cell? ⟨g, k, none⟩ = some u := by
  have hc := fun g hg => h.cells (g := g) hg
  rcases h.2 with ⟨rfl, h1⟩ | ⟨g, cap, cur, rfl, hb, hg, hcap, _⟩
  · omega
  · refine ⟨g, cap, rfl, hb, hcap, ⟨cur, hg⟩, fun k u hu => ?_⟩
    have := hc g rfl k u hu
    rwa [Addr.add_lit, Nat.zero_add] at this

theorem z_kept {W W' : World} (hb : Below (W.alloc (Obj.cells #[.slice none 0 0, .int .i64 0, .int .i64 0, .slice none 0 0, .bool false] 28)).drew.heap.size (W.alloc (Obj.cells #[.slice none 0 0, .int .i64 0, .int .i64 0, .slice none 0 0, .bool false] 28)).drew W') :
    W'.heap[W.heap.size]? = some (.cells #[.slice none 0 0, .int .i64 0, .int .i64 0, .slice none 0 0, .bool false] 28 (0, 0)) := by
  have h := (MapKept.heap_alloc W (Obj.cells #[.slice none 0 0, .int .i64 0, .int .i64 0, .slice none 0 0, .bool false] 28)).1
  exact (hb.block _ (blk_lt (w := (W.alloc (Obj.cells #[.slice none 0 0, .int .i64 0, .int .i64 0, .slice none 0 0, .bool false] 28)).drew) h)).trans h
theorem z_cells {W : World} {g : Nat} (h : W.heap[g]? = some (.cells #[.slice none 0 0, .int .i64 0, .int .i64 0, .slice none 0 0, .bool false] 28 (0, 0))) :
    W.cell? ⟨g, 0, none⟩ = some (.slice none 0 0) ∧ W.cell? ⟨g, 1, none⟩ = some (.int .i64 0) ∧ W.cell? ⟨g, 2, none⟩ = some (.int .i64 0) ∧ W.cell? ⟨g, 3, none⟩ = some (.slice none 0 0) ∧ W.cell? ⟨g, 4, none⟩ = some (.bool false) :=
  ⟨cell_blk h 0, cell_blk h 1, cell_blk h 2, cell_blk h 3, cell_blk h 4⟩
theorem z_frz {W : World} {g : Nat} {C : Array Value} (h : W.heap[g]? = some (.cells C 28 (0, 0))) :
    W.frozen? ⟨g, 0, none⟩ = false ∧ W.frozen? ⟨g, 1, none⟩ = false ∧ W.frozen? ⟨g, 2, none⟩ = false ∧ W.frozen? ⟨g, 3, none⟩ = false ∧ W.frozen? ⟨g, 4, none⟩ = false :=
  ⟨frozen_blk h 0, frozen_blk h 1, frozen_blk h 2, frozen_blk h 3, frozen_blk h 4⟩

theorem TR.newY {w : World} {X : Nat} {ns ps : Value} {q : Mb.Q} {Z : Nat} {ns0 ps0 : Value} {q0' : Mb.Q} {u : Value} {n : Nat} {xs : List Int} {v : Value} {m : Nat} {ys : List Int} {fr : List (Nat × Int)} {W : World}
    (h : TR w X ns ps q Z ns0 ps0 q0' u n xs v m ys fr W) {ns2 ps2 : Value} {q2 : Mb.Q} (t1 : TriT W 99 ns2 q2.nodes) (t2 : TriT W 102 ps2 q2.pushes) :
    TR w X ns ps q W.heap.size ns2 ps2 q2 u n xs v m ys fr (W.alloc (Obj.cells #[ns2, .int .i64 q2.m, .int .i64 q2.done, ps2, .bool q2.empty] 28)) := by
  obtain ⟨Y, W', rfl, rfl, h1, h2⟩ := SB.mk' h.sb.below t1 t2
  exact { h.step h2 with sb2 := h1 }
/-- One number is cut out of a row, in place. -/
theorem del_int {W : World} {B g L c : Nat} {l : List Int} (h : W.ownsRow B 3 1 (.slice (some ⟨g, 0, none⟩) (L + 1) c) (L + 1) (ints l)) {i : Nat} (hi : i ≤ L) :
    ∃ A, (if c = i + 1 then (some ⟨g, 0, none⟩ : Option Addr) else some ⟨g, i + 1, none⟩) = some A ∧ L + 1 ≤ c ∧ c ≤ maxLen ∧ ∃ W', (∀ ty, (Builtin.append_ #[30, 30] ty #[.slice (some ⟨g, 0, none⟩) i c, .slice (some A) (L - i) (c - (i + 1))]).run Try.prog W = .ok (.slice (some ⟨g, 0, none⟩) L c) W') ∧
      W'.ownsRow B 3 1 (.slice (some ⟨g, 0, none⟩) L c) L (ints (l.eraseIdx i)) ∧ W.grownBy W' (some g) := by
  obtain ⟨i0, hi0, hz0, hz1, hz2⟩ := info_parts info3
  have hl : l.length = L + 1 := by have := h.1; simpa [ints] using this
  rcases h.2 with ⟨e, _⟩ | ⟨g', cap, cur, e, hBg, hcur, hcap, hmax, hsize, htake⟩
  · cases e
  injection e with e1 _ e3
  injection e1 with e1
  injection e1 with e1
  subst e1
  subst e3
  rw [Nat.mul_one] at hsize htake
  obtain ⟨news, hnews⟩ : ∃ news, news = ints (l.drop (i + 1)) := ⟨_, rfl⟩
  have hlen : news.length = L - i := by rw [hnews]; simp [ints, hl]
  have hsrc0 : ∀ t u, news[t]? = some u → cur[i + 1 + t]? = some u := by
    intro t u hu
    have ht : t < L - i := by
      have := (List.getElem?_eq_some_iff.1 hu).1
      rwa [hlen] at this
    rw [hnews, ints, List.map_drop, List.getElem?_drop] at hu
    have h2 : (ints l)[i + 1 + t]? = some u := hu
    rw [← htake, List.getElem?_take, if_pos (by omega)] at h2
    simpa using h2
  have H1 : ∀ u ∈ news, u.oneCell' = true := by rw [hnews]; exact ints_one _
  obtain ⟨A, hA, hsrc⟩ : ∃ A : Addr, (if c = i + 1 then (some ⟨g, 0, none⟩ : Option Addr) else some ⟨g, i + 1, none⟩) = some A ∧ (∀ t u, news[t]? = some u → W.cell? (A.add t) = some u) := by
    by_cases hc : c = i + 1
    · refine ⟨⟨g, 0, none⟩, by simp [hc], fun t u hu => ?_⟩
      have h0 : news.length = 0 := by rw [hlen]; omega
      rw [List.length_eq_zero_iff.1 h0] at hu
      simp at hu
    · refine ⟨⟨g, i + 1, none⟩, by simp [hc], fun t u hu => ?_⟩
      rw [Addr.add_lit]
      exact (cell_blk hcur _).trans (hsrc0 t u hu)
  have hap := fun (ty : TypeId) => run_append_room (P := Try.prog) W 30 ty 3 i0 Try.underlying30 hi0 g i c cur hcur A (L - i) (c - (i + 1)) news (by rw [hz1, hlen, Nat.mul_one]) hsrc H1 (by omega) (by rw [hz1, hlen, hsize]; omega)
  rw [hz1, Nat.mul_one, show i + (L - i) = L by omega] at hap
  refine ⟨A, hA, hcap, hmax, _, hap, ⟨?_, .inr ⟨g, c, _, rfl, hBg, setRow_heap W g cur _ 3 _ hcur, by omega, hmax, ?_, ?_⟩⟩, ⟨rfl, rfl, rfl, by simp [World.setRow], fun k _ hk => setRow_other W g k _ (fun e => hk (by rw [e]))⟩⟩
  · simp [ints, List.length_eraseIdx, hl, show i < L + 1 by omega]
  · simp only [List.size_toArray, List.length_append, List.length_take, List.length_drop, Array.length_toList]
    rw [hlen, hsize]
    omega
  · have e1 : cur.toList.take i = ints (l.take i) := by
      rw [ints, List.map_take]
      show _ = (ints l).take i
      rw [← htake, List.take_take, Nat.min_eq_left (by omega)]
    rw [e1]
    show (ints (l.take i) ++ news ++ _).take _ = _
    rw [List.eraseIdx_eq_take_drop_succ, show ints (l.take i ++ l.drop (i + 1)) = ints (l.take i) ++ ints (l.drop (i + 1)) by simp [ints], hnews]
    refine List.take_left' ?_
    simp [ints, hl]
    omega

/-- Loop 1's memory. -/
def L1 (w : World) (X : Nat) (xs : List Int) (k : Nat) (s6 s7 : Value) (W : World) : Prop :=
  ∃ ns ps, TR w X ns ps (qb xs k) X ns ps (qb xs k) s6 k (xs.take k) s7 k (qb xs k).prods [] W
theorem begin_qb {xs : List Int} {k : Nat} (hk : k < xs.length) (hl : xs.length ≤ 30) {v : Value} {W : World} (hv : St W v (qb xs k)) {x : Int} (hx : xs[k]? = some x) :
    Calls Try.prog 10 #[v, .int .i64 k, .int .i64 x] W fun e w' => ∃ v', e = .returned (.tuple #[v', .bool (qb xs k).empty, .int .i64 0]) ∧ St w' v' (qb xs (k + 1)) ∧ Below W.heap.size W w' := by
  have e : qb xs (k + 1) = (qb xs k).beg k x := by rw [qb]; simp [hx]
  rw [e]
  exact begin_last (qb_wf xs k (by omega)) (by omega) (qb_opn_lt xs k) (by rw [qb_m]; omega) W hv

end Go.Proofs.Ytgbafpjeapkklaa.Mb
