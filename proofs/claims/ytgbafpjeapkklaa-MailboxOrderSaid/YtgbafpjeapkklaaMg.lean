/- Mailbox: clone. -/
import Derived.Test.YtgbafpjeapkklaaMf
import Derived.OwnWalk
import Derived.Laws.AppendOwn
import Derived.Lib.SliceRun
namespace Go.Proofs.Ytgbafpjeapkklaa.Mb
open Go.RowKit
set_option linter.unusedVariables false
set_option linter.unusedSimpArgs false

theorem info99 : (Try.prog.info? 99).map (fun i => (i.zero, i.size, i.bytes)) = some (some (.agg #[.int .i64 0, .int .i64 0, .int .i64 0]), 3, 24) := by kernel_rfl
theorem info102 : (Try.prog.info? 102).map (fun i => (i.zero, i.size, i.bytes)) = some (some (.agg #[.int .i64 0, .int .i64 0, .int .i64 0]), 3, 24) := by kernel_rfl

/-- The cells of triples. -/
def trip (x : Int × Int × Int) : List Value := [.int .i64 x.1, .int .i64 x.2.1, .int .i64 x.2.2]
def cellsT (l : List (Int × Int × Int)) : List Value := l.flatMap trip
theorem cellsT_nil : cellsT [] = [] := rfl
theorem cellsT_cons (x : Int × Int × Int) (l : List (Int × Int × Int)) : cellsT (x :: l) = trip x ++ cellsT l := rfl
theorem cellsT_append (l m : List (Int × Int × Int)) : cellsT (l ++ m) = cellsT l ++ cellsT m := by simp [cellsT]
theorem cellsT_len (l : List (Int × Int × Int)) : (cellsT l).length = l.length * 3 := by
  induction l with
  | nil => rfl
  | cons x l ih => rw [cellsT_cons, List.length_append, ih]; simp [trip]; omega
theorem cellsT_one (l : List (Int × Int × Int)) : ∀ u ∈ cellsT l, u.oneCell' = true := by
  intro u hu
  simp only [cellsT, List.mem_flatMap] at hu
  obtain ⟨x, _, hx⟩ := hu
  simp only [trip, List.mem_cons, List.not_mem_nil, or_false] at hx
  rcases hx with rfl | rfl | rfl <;> rfl
theorem cellsT_get (l : List (Int × Int × Int)) : ∀ (k : Nat) (x : Int × Int × Int), l[k]? = some x → (cellsT l)[k * 3]? = some (.int .i64 x.1) ∧ (cellsT l)[k * 3 + 1]? = some (.int .i64 x.2.1) ∧ (cellsT l)[k * 3 + 2]? = some (.int .i64 x.2.2) := by
  induction l with
  | nil => intro k x h; simp at h
  | cons y l ih =>
    intro k x h
    cases k with
    | zero =>
      simp at h; subst h
      rw [cellsT_cons]; simp [trip]
    | succ k =>
      obtain ⟨a, b, c⟩ := ih k x (by simpa using h)
      rw [cellsT_cons, show (k + 1) * 3 = k * 3 + 3 by omega]
      refine ⟨?_, ?_, ?_⟩
      · rw [List.getElem?_append_right (by simp [trip])]; simpa [trip] using a
      · rw [List.getElem?_append_right (by simp [trip])]; simpa [trip] using b
      · rw [List.getElem?_append_right (by simp [trip])]; simpa [trip] using c
theorem cellsT_inv (l : List (Int × Int × Int)) (j : Nat) (u : Value) (h : (cellsT l)[j]? = some u) : ∃ k x, l[k]? = some x ∧ ((j = k * 3 ∧ u = .int .i64 x.1) ∨ (j = k * 3 + 1 ∧ u = .int .i64 x.2.1) ∨ (j = k * 3 + 2 ∧ u = .int .i64 x.2.2)) := by
  have hlt := (List.getElem?_eq_some_iff.1 h).1
  rw [cellsT_len] at hlt
  have hk : j / 3 < l.length := by omega
  obtain ⟨a, b, c⟩ := cellsT_get l (j / 3) l[j / 3] (by simp [hk])
  refine ⟨j / 3, l[j / 3], by simp [hk], ?_⟩
  have h3 : j % 3 = 0 ∨ j % 3 = 1 ∨ j % 3 = 2 := by omega
  rcases h3 with h3 | h3 | h3
  · left
    have e : j = j / 3 * 3 := by omega
    rw [← e, h] at a
    exact ⟨e, Option.some.inj a⟩
  · right; left
    have e : j = j / 3 * 3 + 1 := by omega
    rw [← e, h] at b
    exact ⟨e, Option.some.inj b⟩
  · right; right
    have e : j = j / 3 * 3 + 2 := by omega
    rw [← e, h] at c
    exact ⟨e, Option.some.inj c⟩
theorem Tri.src {w : World} {a : Addr} {n cap : Nat} {l : List (Int × Int × Int)} (h : Tri w (.slice (some a) n cap) l) : ∀ j u, (cellsT l)[j]? = some u → w.cell? (a.add j) = some u := by
  intro j u hj
  obtain ⟨k, x, hx, hu⟩ := cellsT_inv l j u hj
  obtain ⟨p, cap', hp, _, h⟩ := h
  injection hp with e1 _ _
  subst e1
  rcases h with h | ⟨g, off, e, _, hc⟩
  · subst h; simp at hx
  · injection e with e
    subst e
    obtain ⟨a, b, c⟩ := hc k x hx
    rw [Addr.add_lit]
    rcases hu with ⟨rfl, rfl⟩ | ⟨rfl, rfl⟩ | ⟨rfl, rfl⟩
    · exact a
    · exact b
    · exact c
theorem own_tri {w : World} {base : Nat} {e : TypeId} {v : Value} {n : Nat} {l : List (Int × Int × Int)} (hn : n = l.length) (h : w.ownsRow base e 3 v n (cellsT l)) : Tri w v l := by
  subst hn
  have hc := fun g hg => h.cells (g := g) hg
  have hlt := h.lt
  rcases h.2 with ⟨rfl, h0⟩ | ⟨g, cap, cur, rfl, _, hg, hcap, _⟩
  · exact ⟨none, 0, by rw [h0], by rw [h0]; exact Nat.le_refl _, .inl (List.eq_nil_of_length_eq_zero h0)⟩
  · refine ⟨some ⟨g, 0, none⟩, cap, rfl, hcap, .inr ⟨g, 0, rfl, blk_lt hg, fun k x hx => ?_⟩⟩
    obtain ⟨a, b, c⟩ := cellsT_get l k x hx
    have h1 := hc g rfl _ _ a
    have h2 := hc g rfl _ _ b
    have h3 := hc g rfl _ _ c
    rw [Addr.add_lit] at h1 h2 h3
    exact ⟨h1, h2, h3⟩

set_option maxRecDepth 100000 in
set_option maxHeartbeats 1000000 in
theorem clone62 {w : World} {v : Value} {l : List (Int × Int × Int)} (h : Tri w v l) (hl : l.length ≤ 2000) :
    Calls Try.prog 62 #[v] w fun e w' => ∃ v', e = .returned v' ∧ w'.ownsRow w.heap.size 99 3 v' l.length (cellsT l) ∧ Below w.heap.size w w' := by
  obtain ⟨p, cap, rfl⟩ := h.slice
  obtain ⟨i0, hi, hz0, hz1, hz2⟩ := info_parts info99
  have HI := Lib.hid hi; clear hi
  have HZ0 := Lib.hid hz0; clear hz0
  have HZ1 := Lib.hid hz1; clear hz1
  have HZ2 := Lib.hid hz2; clear hz2
  have HT := Lib.hid h; clear h
  have HL := Lib.hid hl; clear hl
  cases p with
  | none =>
    have h0 : l.length = 0 := by
      obtain ⟨p, c, e, hc, h⟩ := HT.out
      injection e with e1 e2 e3
      subst e1
      rcases h with rfl | ⟨g, off, e, _⟩
      · rfl
      · cases e
    obtain rfl : l = [] := List.eq_nil_of_length_eq_zero h0
    have heq := Lib.run_eql_slice_nil (P := Try.prog) w 25 99 none 0 cap 0 0 Try.underlying25
    go_enter Try.func62, Try.ntmps62
    go_wp2_with fail
    go_ret
    exact ⟨_, rfl, World.ownsRow_nil _ _ _ _, Below.refl _ _⟩
  | some a =>
    have heq := Lib.run_eql_slice_nil (P := Try.prog) w 25 99 (some a) l.length cap 0 0 Try.underlying25
    have HSR := Lib.hid (HT.out.below ((Below.refl w.heap.size w).alloc (Nat.le_refl _) (Obj.cells #[] 99))).src
    have HON : Hid ((w.alloc (Obj.cells #[] 99)).ownsRow w.heap.size 99 3 (.slice (some ⟨w.heap.size, 0, none⟩) 0 0) 0 []) := World.ownsRow_made w #[] 0 (Nat.le_refl _) (by decide) rfl
    go_enter Try.func62, Try.ntmps62
    go_wp2_with (at_builtin; refine wpList_append_own _ rfl _ _ 25 rfl w.heap.size 99 i0 (.agg #[.int .i64 0, .int .i64 0, .int .i64 0]) 3 24 Try.underlying25 HI.out HZ0.out HZ1.out HZ2.out rfl (by decide) _ _ _ rfl HON.out a l.length cap (cellsT l) rfl (cellsT_len l) ?c1 ?c2 ?c3 ?c4 ?c5 ?_)
    case c1 => exact HSR.out
    case c2 => exact cellsT_one l
    case c3 => have := HL.out; unfold maxLen; omega
    case c4 => have := HL.out; omega
    case c5 => simp
    intro v1 w1 hown1 hgr _
    have HO1 := Lib.hid hown1; clear hown1
    have HG1 := Lib.hid hgr; clear hgr
    go_wp2_with fail
    go_ret
    refine ⟨_, rfl, ?_, ?_⟩
    · have := HO1.out
      simpa using this
    · exact ((Below.refl w.heap.size w).alloc (Nat.le_refl _) (Obj.cells #[] 99)).grown HG1.out (by simp) (fun k hk => by simp [Value.ownBlock] at hk; omega)

set_option maxRecDepth 100000 in
set_option maxHeartbeats 1000000 in
theorem clone63 {w : World} {v : Value} {l : List (Int × Int × Int)} (h : Tri w v l) (hl : l.length ≤ 2000) :
    Calls Try.prog 63 #[v] w fun e w' => ∃ v', e = .returned v' ∧ w'.ownsRow w.heap.size 102 3 v' l.length (cellsT l) ∧ Below w.heap.size w w' := by
  obtain ⟨p, cap, rfl⟩ := h.slice
  obtain ⟨i0, hi, hz0, hz1, hz2⟩ := info_parts info102
  have HI := Lib.hid hi; clear hi
  have HZ0 := Lib.hid hz0; clear hz0
  have HZ1 := Lib.hid hz1; clear hz1
  have HZ2 := Lib.hid hz2; clear hz2
  have HT := Lib.hid h; clear h
  have HL := Lib.hid hl; clear hl
  cases p with
  | none =>
    have h0 : l.length = 0 := by
      obtain ⟨p, c, e, hc, h⟩ := HT.out
      injection e with e1 e2 e3
      subst e1
      rcases h with rfl | ⟨g, off, e, _⟩
      · rfl
      · cases e
    obtain rfl : l = [] := List.eq_nil_of_length_eq_zero h0
    have heq := Lib.run_eql_slice_nil (P := Try.prog) w 26 102 none 0 cap 0 0 Try.underlying26
    go_enter Try.func63, Try.ntmps63
    go_wp2_with fail
    go_ret
    exact ⟨_, rfl, World.ownsRow_nil _ _ _ _, Below.refl _ _⟩
  | some a =>
    have heq := Lib.run_eql_slice_nil (P := Try.prog) w 26 102 (some a) l.length cap 0 0 Try.underlying26
    have HSR := Lib.hid (HT.out.below ((Below.refl w.heap.size w).alloc (Nat.le_refl _) (Obj.cells #[] 102))).src
    have HON : Hid ((w.alloc (Obj.cells #[] 102)).ownsRow w.heap.size 102 3 (.slice (some ⟨w.heap.size, 0, none⟩) 0 0) 0 []) := World.ownsRow_made w #[] 0 (Nat.le_refl _) (by decide) rfl
    go_enter Try.func63, Try.ntmps63
    go_wp2_with (at_builtin; refine wpList_append_own _ rfl _ _ 26 rfl w.heap.size 102 i0 (.agg #[.int .i64 0, .int .i64 0, .int .i64 0]) 3 24 Try.underlying26 HI.out HZ0.out HZ1.out HZ2.out rfl (by decide) _ _ _ rfl HON.out a l.length cap (cellsT l) rfl (cellsT_len l) ?c1 ?c2 ?c3 ?c4 ?c5 ?_)
    case c1 => exact HSR.out
    case c2 => exact cellsT_one l
    case c3 => have := HL.out; unfold maxLen; omega
    case c4 => have := HL.out; omega
    case c5 => simp
    intro v1 w1 hown1 hgr _
    have HO1 := Lib.hid hown1; clear hown1
    have HG1 := Lib.hid hgr; clear hgr
    go_wp2_with fail
    go_ret
    refine ⟨_, rfl, ?_, ?_⟩
    · have := HO1.out
      simpa using this
    · exact ((Below.refl w.heap.size w).alloc (Nat.le_refl _) (Obj.cells #[] 102)).grown HG1.out (by simp) (fun k hk => by simp [Value.ownBlock] at hk; omega)
theorem own_slice {w : World} {base : Nat} {e : TypeId} {v : Value} {n : Nat} {xs : List Value} (h : w.ownsRow base e 3 v n xs) : ∃ p cap, v = .slice p n cap := by
  rcases h.2 with ⟨rfl, rfl⟩ | ⟨g, cap, cur, rfl, _⟩
  · exact ⟨none, 0, rfl⟩
  · exact ⟨_, cap, rfl⟩

/-- clone's two boxes. -/
def CB (w : World) (ns ps : Value) (m d : Int) (b : Bool) (W : World) : Prop := Below w.heap.size w W ∧ W.heap[w.heap.size]? = some (.cells #[ns, .int .i64 m, .int .i64 d, ps, .bool b] 28 (0, 0)) ∧
  W.heap[w.heap.size + 1]? = some (.cells #[.slice none 0 0, .int .i64 0, .int .i64 0, .slice none 0 0, .bool false] 28 (0, 0))
theorem CB.step {w : World} {ns ps : Value} {m d : Int} {b : Bool} {W W' : World} (h : CB w ns ps m d b W) (hb : Below W.heap.size W W') : CB w ns ps m d b W' :=
  ⟨h.1.trans (hb.mono h.1.size), (hb.block _ (blk_lt h.2.1)).trans h.2.1, (hb.block _ (blk_lt h.2.2)).trans h.2.2⟩
theorem CB.mk (w : World) (ns ps : Value) (m d : Int) (b : Bool) : CB w ns ps m d b ((w.alloc (Obj.cells #[ns, .int .i64 m, .int .i64 d, ps, .bool b] 28)).alloc (Obj.cells #[.slice none 0 0, .int .i64 0, .int .i64 0, .slice none 0 0, .bool false] 28)) := by
  have h1 : Below w.heap.size w (w.alloc (Obj.cells #[ns, .int .i64 m, .int .i64 d, ps, .bool b] 28)) := (Below.refl _ _).alloc (Nat.le_refl _) _
  have h2 := (Below.refl (w.alloc (Obj.cells #[ns, .int .i64 m, .int .i64 d, ps, .bool b] 28)).heap.size (w.alloc (Obj.cells #[ns, .int .i64 m, .int .i64 d, ps, .bool b] 28))).alloc (Nat.le_refl _) (Obj.cells #[.slice none 0 0, .int .i64 0, .int .i64 0, .slice none 0 0, .bool false] 28)
  have h3 := (MapKept.heap_alloc w (Obj.cells #[ns, .int .i64 m, .int .i64 d, ps, .bool b] 28)).1
  refine ⟨h1.trans (h2.mono h1.size), (h2.block _ (blk_lt h3)).trans h3, ?_⟩
  have h4 := (MapKept.heap_alloc (w.alloc (Obj.cells #[ns, .int .i64 m, .int .i64 d, ps, .bool b] 28)) (Obj.cells #[.slice none 0 0, .int .i64 0, .int .i64 0, .slice none 0 0, .bool false] 28)).1
  simpa using h4
theorem CB.after {w : World} {ns ps : Value} {m d : Int} {b : Bool} {W : World} (h : CB w ns ps m d b W) (v1 v2 : Value) :
    Below w.heap.size w ((W.setCell ⟨w.heap.size, 0, none⟩ v1).setCell ⟨w.heap.size, 3, none⟩ v2) ∧
    ((W.setCell ⟨w.heap.size, 0, none⟩ v1).setCell ⟨w.heap.size, 3, none⟩ v2).heap[w.heap.size]? = some (.cells #[v1, .int .i64 m, .int .i64 d, v2, .bool b] 28 (0, 0)) ∧
    ((W.setCell ⟨w.heap.size, 0, none⟩ v1).setCell ⟨w.heap.size, 3, none⟩ v2).heap[w.heap.size + 1]? = some (.cells #[.slice none 0 0, .int .i64 0, .int .i64 0, .slice none 0 0, .bool false] 28 (0, 0)) :=
  ⟨(h.1.setCell (p := ⟨w.heap.size, 0, none⟩) (Nat.le_refl _) _).setCell (p := ⟨w.heap.size, 3, none⟩) (Nat.le_refl _) _, blk_set (blk_set h.2.1 0 v1) 3 v2, blk_set_ne (blk_set_ne h.2.2 _ (by simp) _) _ (by simp) _⟩
theorem own_below {w w' : World} {base : Nat} {e : TypeId} {v : Value} {n : Nat} {xs : List Value} (h : w.ownsRow base e 3 v n xs) (hb : Below w.heap.size w w') : w'.ownsRow base e 3 v n xs := by
  refine ⟨h.1, ?_⟩
  rcases h.2 with h0 | ⟨g, cap, cur, h1, h2, h3, h4⟩
  · exact .inl h0
  · exact .inr ⟨g, cap, cur, h1, h2, (hb.block g (blk_lt h3)).trans h3, h4⟩
theorem ownsRow_base {W : World} {base base' : Nat} {e : TypeId} {size : Nat} {v : Value} {n : Nat} {xs : List Value} (h : W.ownsRow base e size v n xs) (hb : base' ≤ base) : W.ownsRow base' e size v n xs := by
  refine ⟨h.1, ?_⟩
  rcases h.2 with h0 | ⟨g, cap, cur, h1, h2, h3⟩
  · exact .inl h0
  · exact .inr ⟨g, cap, cur, h1, by omega, h3⟩
/-- A whole state is stored. -/
theorem five {W : World} {g : Nat} {a0 a1 a2 a3 a4 : Value} {t : TypeId} (h : W.heap[g]? = some (.cells #[a0, a1, a2, a3, a4] t (0, 0))) (v0 v1 v2 v3 v4 : Value) :
    (((((W.setCell ⟨g, 0, none⟩ v0).setCell ⟨g, 1, none⟩ v1).setCell ⟨g, 2, none⟩ v2).setCell ⟨g, 3, none⟩ v3).setCell ⟨g, 4, none⟩ v4).heap[g]? = some (.cells #[v0, v1, v2, v3, v4] t (0, 0)) ∧
    (∀ (B : Nat) (w0 : World), B ≤ g → Below B w0 W → Below B w0 (((((W.setCell ⟨g, 0, none⟩ v0).setCell ⟨g, 1, none⟩ v1).setCell ⟨g, 2, none⟩ v2).setCell ⟨g, 3, none⟩ v3).setCell ⟨g, 4, none⟩ v4)) ∧
    (∀ (B : Nat) (e : TypeId) (size : Nat) (v : Value) (n : Nat) (xs : List Value), g < B → W.ownsRow B e size v n xs → (((((W.setCell ⟨g, 0, none⟩ v0).setCell ⟨g, 1, none⟩ v1).setCell ⟨g, 2, none⟩ v2).setCell ⟨g, 3, none⟩ v3).setCell ⟨g, 4, none⟩ v4).ownsRow B e size v n xs) := by
  refine ⟨blk_set (blk_set (blk_set (blk_set (blk_set h 0 v0) 1 v1) 2 v2) 3 v3) 4 v4, fun B w0 hB hb => ?_, fun B e size v n xs hB ho => ?_⟩
  · exact ((((hb.setCell (p := ⟨g, 0, none⟩) hB _).setCell (p := ⟨g, 1, none⟩) hB _).setCell (p := ⟨g, 2, none⟩) hB _).setCell (p := ⟨g, 3, none⟩) hB _).setCell (p := ⟨g, 4, none⟩) hB _
  · exact ownsRow_setCell_below (a := ⟨g, 4, none⟩) (ownsRow_setCell_below (a := ⟨g, 3, none⟩) (ownsRow_setCell_below (a := ⟨g, 2, none⟩) (ownsRow_setCell_below (a := ⟨g, 1, none⟩) (ownsRow_setCell_below (a := ⟨g, 0, none⟩) ho hB _) hB _) hB _) hB _) hB _

set_option maxRecDepth 100000 in
set_option maxHeartbeats 4000000 in
theorem clone_at {w : World} {ns ps : Value} {l1 l2 : List (Int × Int × Int)} (hn : Tri w ns l1) (hp : Tri w ps l2) (h1 : l1.length ≤ 2000) (h2 : l2.length ≤ 2000) (m d : Int) (b : Bool) :
    Calls Try.prog 40 #[.agg #[ns, .int .i64 m, .int .i64 d, ps, .bool b]] w fun e w' => ∃ ns' ps', e = .returned (.agg #[ns', .int .i64 m, .int .i64 d, ps', .bool b]) ∧
      w'.ownsRow w.heap.size 99 3 ns' l1.length (cellsT l1) ∧ w'.ownsRow w.heap.size 102 3 ps' l2.length (cellsT l2) ∧ Below w.heap.size w w' := by
  have HC1 : Hid (∀ W, Below w.heap.size w W → Calls Try.prog 62 #[ns] W fun e w' => ∃ v', e = .returned v' ∧ w'.ownsRow W.heap.size 99 3 v' l1.length (cellsT l1) ∧ Below W.heap.size W w') := fun W h => clone62 (hn.below h) h1
  have HC2 : Hid (∀ W, Below w.heap.size w W → Calls Try.prog 63 #[ps] W fun e w' => ∃ v', e = .returned v' ∧ w'.ownsRow W.heap.size 102 3 v' l2.length (cellsT l2) ∧ Below W.heap.size W w') := fun W h => clone63 (hp.below h) h2
  clear hn hp h1 h2
  have HB0 : Hid (CB w ns ps m d b ((w.alloc (Obj.cells #[ns, .int .i64 m, .int .i64 d, ps, .bool b] 28)).alloc (Obj.cells #[.slice none 0 0, .int .i64 0, .int .i64 0, .slice none 0 0, .bool false] 28))) := CB.mk w ns ps m d b
  have HF : Hid (∀ W, CB w ns ps m d b W → W.cell? ⟨w.heap.size, 0, none⟩ = some ns ∧ W.cell? ⟨w.heap.size, 1, none⟩ = some (.int .i64 m) ∧ W.cell? ⟨w.heap.size, 2, none⟩ = some (.int .i64 d) ∧ W.cell? ⟨w.heap.size, 3, none⟩ = some ps ∧ W.cell? ⟨w.heap.size, 4, none⟩ = some (.bool b)) := fun W h => ⟨cell_blk h.2.1 0, cell_blk h.2.1 1, cell_blk h.2.1 2, cell_blk h.2.1 3, cell_blk h.2.1 4⟩
  have HFZ : Hid (∀ W, CB w ns ps m d b W → ∀ o, W.frozen? ⟨w.heap.size, o, none⟩ = false) := fun W h o => frozen_blk h.2.1 o
  go_enter Try.func40, Try.ntmps40
  go_upto_region 1 with fail
  generalize ((w.alloc (Obj.cells #[ns, .int .i64 m, .int .i64 d, ps, .bool b] 28)).alloc (Obj.cells #[.slice none 0 0, .int .i64 0, .int .i64 0, .slice none 0 0, .bool false] 28)) = W0 at *
  obtain ⟨c0, c1, c2, c3, c4⟩ := HF.out _ HB0.out
  have HBS : Hid (w.heap.size ≤ W0.drew.heap.size) := HB0.out.1.size
  have HBD : Hid (CB w ns ps m d b W0.drew) := HB0.out.step (Below.refl _ _).drew
  obtain ⟨x0, x1, x2, x3, x4⟩ := HF.out _ HBD.out
  go_region_with (first
    | (go_at_call 62; refine (HC1.out _ HBD.out.1).mono ?_; rintro e W1 ⟨v1, rfl, ho1, hb1⟩; obtain ⟨p1, k1, rfl⟩ := own_slice ho1; have HO1 := Lib.hid ho1; clear ho1; have HB1 := Lib.hid (HBD.out.step hb1); have HB1s := Lib.hid hb1.size; clear hb1; obtain ⟨y0, y1, y2, y3, y4⟩ := HF.out _ HB1.out)
    | (go_at_call 63; refine (HC2.out _ HB1.out.1).mono ?_; rintro e W2 ⟨v2, rfl, ho2, hb2⟩; obtain ⟨p2, k2, rfl⟩ := own_slice ho2; have HO2 := Lib.hid ho2; clear ho2; have HB2 := Lib.hid (HB1.out.step hb2); have HBB := Lib.hid hb2; clear hb2; obtain ⟨z0, z1, z2, z3, z4⟩ := HF.out _ HB2.out; have f0 := HFZ.out _ HB2.out 0; have f3 := HFZ.out _ HB2.out 3))
  all_goals
    obtain ⟨W3, hW3⟩ : ∃ W3, W3 = (W2.setCell { block := w.heap.size, off := 0 } (Value.slice p1 l1.length k1)).setCell { block := w.heap.size, off := 3 } (Value.slice p2 l2.length k2) := ⟨_, rfl⟩
    rw [← hW3]
    obtain ⟨hk1, hk2, hk3⟩ := CB.after HB2.out (Value.slice p1 l1.length k1) (Value.slice p2 l2.length k2)
    rw [← hW3] at hk1 hk2 hk3
    have hsz := blk_lt HBD.out.2.2
    have HSZ := Lib.hid hsz; clear hsz
    have HR1 : Hid (W3.ownsRow W0.drew.heap.size 99 3 (Value.slice p1 l1.length k1) l1.length (cellsT l1)) := by
      have := own_below HO1.out HBB.out
      rw [hW3]
      exact ownsRow_setCell_below (ownsRow_setCell_below this (a := { block := w.heap.size, off := 0 }) (Nat.lt_of_succ_lt HSZ.out) _) (a := { block := w.heap.size, off := 3 }) (Nat.lt_of_succ_lt HSZ.out) _
    have HR2 : Hid (W3.ownsRow W0.drew.heap.size 102 3 (Value.slice p2 l2.length k2) l2.length (cellsT l2)) := by
      rw [hW3]
      have := ownsRow_base HO2.out (base' := W0.drew.heap.size) HB1s.out
      exact ownsRow_setCell_below (ownsRow_setCell_below this (a := { block := w.heap.size, off := 0 }) (Nat.lt_of_succ_lt HSZ.out) _) (a := { block := w.heap.size, off := 3 }) (Nat.lt_of_succ_lt HSZ.out) _
    have HK1 := Lib.hid hk1
    have HK2 := Lib.hid hk2
    have HK3 := Lib.hid hk3
    clear hW3 hk1 hk2 hk3 z0 z1 z2 z3 z4 f0 f3 y0 y1 y2 y3 y4 x0 x1 x2 x3 x4 c0 c1 c2 c3 c4
    have c0 : W3.cell? ⟨w.heap.size, 0, none⟩ = some (Value.slice p1 l1.length k1) := cell_blk HK2.out 0
    have c1 : W3.cell? ⟨w.heap.size, 1, none⟩ = some (.int .i64 m) := cell_blk HK2.out 1
    have c2 : W3.cell? ⟨w.heap.size, 2, none⟩ = some (.int .i64 d) := cell_blk HK2.out 2
    have c3 : W3.cell? ⟨w.heap.size, 3, none⟩ = some (Value.slice p2 l2.length k2) := cell_blk HK2.out 3
    have c4 : W3.cell? ⟨w.heap.size, 4, none⟩ = some (.bool b) := cell_blk HK2.out 4
    have z0 : W3.cell? ⟨w.heap.size + 1, 0, none⟩ = some (.slice none 0 0) := cell_blk HK3.out 0
    have z1 : W3.cell? ⟨w.heap.size + 1, 1, none⟩ = some (.int .i64 0) := cell_blk HK3.out 1
    have z2 : W3.cell? ⟨w.heap.size + 1, 2, none⟩ = some (.int .i64 0) := cell_blk HK3.out 2
    have z3 : W3.cell? ⟨w.heap.size + 1, 3, none⟩ = some (.slice none 0 0) := cell_blk HK3.out 3
    have z4 : W3.cell? ⟨w.heap.size + 1, 4, none⟩ = some (.bool false) := cell_blk HK3.out 4
    have f0 : W3.frozen? ⟨w.heap.size + 1, 0, none⟩ = false := frozen_blk HK3.out 0
    have f1 : W3.frozen? ⟨w.heap.size + 1, 1, none⟩ = false := frozen_blk HK3.out 1
    have f2 : W3.frozen? ⟨w.heap.size + 1, 2, none⟩ = false := frozen_blk HK3.out 2
    have f3 : W3.frozen? ⟨w.heap.size + 1, 3, none⟩ = false := frozen_blk HK3.out 3
    have f4 : W3.frozen? ⟨w.heap.size + 1, 4, none⟩ = false := frozen_blk HK3.out 4
    go_wp2_with fail
    obtain ⟨W4, hW4⟩ : ∃ W4, W4 = (((((W3.setCell { block := w.heap.size + 1, off := 0 } (Value.slice p1 l1.length k1)).setCell { block := w.heap.size + 1, off := 1 } (Value.int IntKind.i64 m)).setCell { block := w.heap.size + 1, off := 2 } (Value.int IntKind.i64 d)).setCell { block := w.heap.size + 1, off := 3 } (Value.slice p2 l2.length k2)).setCell { block := w.heap.size + 1, off := 4 } (Value.bool b)) := ⟨_, rfl⟩
    rw [← hW4]
    obtain ⟨r1, r2, r3⟩ := five HK3.out (Value.slice p1 l1.length k1) (Value.int IntKind.i64 m) (Value.int IntKind.i64 d) (Value.slice p2 l2.length k2) (Value.bool b)
    rw [← hW4] at r1 r2 r3
    have c0 : W4.cell? ⟨w.heap.size + 1, 0, none⟩ = some (Value.slice p1 l1.length k1) := cell_blk r1 0
    have c1 : W4.cell? ⟨w.heap.size + 1, 1, none⟩ = some (.int .i64 m) := cell_blk r1 1
    have c2 : W4.cell? ⟨w.heap.size + 1, 2, none⟩ = some (.int .i64 d) := cell_blk r1 2
    have c3 : W4.cell? ⟨w.heap.size + 1, 3, none⟩ = some (Value.slice p2 l2.length k2) := cell_blk r1 3
    have c4 : W4.cell? ⟨w.heap.size + 1, 4, none⟩ = some (.bool b) := cell_blk r1 4
    refine bodyPost_ret (v := .agg #[Value.slice p1 l1.length k1, .int .i64 m, .int .i64 d, Value.slice p2 l2.length k2, .bool b]) (by simp [results, Try.results40, go_sem, c0, c1, c2, c3, c4]) rfl ⟨_, _, rfl, ?_, ?_, ?_⟩
    · exact ownsRow_base (r3 _ _ _ _ _ _ HSZ.out HR1.out) HBS.out
    · exact ownsRow_base (r3 _ _ _ _ _ _ HSZ.out HR2.out) HBS.out
    · exact r2 _ _ (Nat.le_succ _) HK1.out
end Go.Proofs.Ytgbafpjeapkklaa.Mb
