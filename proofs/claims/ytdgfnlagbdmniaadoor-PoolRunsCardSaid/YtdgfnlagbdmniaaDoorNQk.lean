/- The pool: Sweep. -/
import Derived.Test.YtdgfnlagbdmniaaDoorNQi
import Derived.Test.YtdgfnlagbdmniaaDoorNQj
namespace Go.Proofs.YtdgfnlagbdmniaaDoor.Pl
open Go.RowKit
attribute [local go_sem] Oper.semAt_some

theorem info83 : (Tryd.prog.info? 83).map (fun i => (i.zero, i.size, i.bytes)) = some (some (.agg #[.int .i64 0, .int .i64 0]), 2, 16) := by kernel_rfl

def plCells (l : List PObj) : List Value := l.flatMap fun o => [.int .i64 (placeOf o).1, .int .i64 (placeOf o).2]

/-- The world behind k rounds of Sweep. -/
structure SwIt (cs : List Chunk) (a b B : Nat) (w : World) (k : Nat) (W : World) : Prop where
  box : W.heap[B]? = some (.cells #[.pointer (some ⟨a, 0, none⟩)] 24 (0, 0))
  it : W.heap[B + 3]? = some (.cells #[.pointer (some ⟨a, 0, none⟩)] 24 (0, 0))
  out : ∃ v, W.heap[B + 1]? = some (.cells #[v] 37 (0, 0)) ∧ W.ownsRow (B + 6) 40 4 v (outs ((objs cs).take k)).length (objCells (outs ((objs cs).take k)))
  gone : ∃ u, W.heap[B + 2]? = some (.cells #[u] 91 (0, 0)) ∧ W.ownsRow (B + 6) 83 2 u (outs ((objs cs).take k)).length (plCells (outs ((objs cs).take k)))
  pool : ∃ cs', At W a b cs' ∧ Swept cs k cs'
  fr : w.grownBy W (some b)

theorem SwIt.grown {cs : List Chunk} {a b B : Nat} {w : World} {k : Nat} {W W' : World} (h : SwIt cs a b B w k W) (ha : a < B) (hb : b < B) (hw : w.heap.size = B) {d : Nat} (hd1 : B + 3 < d) (hd2 : d < B + 6) (hg : W.grownBy W' (some d)) : SwIt cs a b B w k W' := by
  obtain ⟨v, h1, h2⟩ := h.out
  obtain ⟨u, h3, h4⟩ := h.gone
  obtain ⟨cs', h5, h6⟩ := h.pool
  have l1 := (Array.getElem?_eq_some_iff.1 h.it).1
  have bl : ∀ r, r < B + 4 → W'.heap[r]? = W.heap[r]? := fun r hr => hg.block r (by omega) (by simp; omega)
  refine ⟨(bl B (by omega)).trans h.box, (bl (B + 3) (by omega)).trans h.it, ⟨v, (bl (B + 1) (by omega)).trans h1, h2.kept hg (own_ne h2 (by omega))⟩, ⟨u, (bl (B + 2) (by omega)).trans h3, h4.kept hg (own_ne h4 (by omega))⟩, ⟨cs', h5.same (bl a (by omega)) (bl b (by omega)), h6⟩, ?_⟩
  have hs := h.fr.size
  refine ⟨hg.os.trans h.fr.os, hg.tape.trans h.fr.tape, hg.output.trans h.fr.output, Nat.le_trans h.fr.size hg.size, fun r hr hn => (hg.block r (by omega) (by simp; omega)).trans (h.fr.block r hr hn)⟩

theorem outs_marked {l : List PObj} {k : Nat} {o : PObj} (h : l[k]? = some o) (hm : o.marked = true) : outs (l.take (k + 1)) = outs (l.take k) := by
  rw [List.take_add_one, h]; simp [outs, hm]
theorem outs_plain {l : List PObj} {k : Nat} {o : PObj} (h : l[k]? = some o) (hm : o.marked = false) : outs (l.take (k + 1)) = outs (l.take k) ++ [o] := by
  rw [List.take_add_one, h]; simp [outs, hm]

theorem SwIt.marked {cs : List Chunk} {a b B : Nat} {w : World} {k : Nat} {W W' : World} (h : SwIt cs a b B w k W) (_ha : a < B) (hb : b < B) {o : PObj} (ho : (objs cs)[k]? = some o) (hm : o.marked = true) (hg : W.grownBy W' (some b)) {cs' : List Chunk} (hA : At W' a b cs') (hS : Swept cs (k + 1) cs') :
    SwIt cs a b B w (k + 1) W' := by
  obtain ⟨v, h1, h2⟩ := h.out
  obtain ⟨u, h3, h4⟩ := h.gone
  have l1 := (Array.getElem?_eq_some_iff.1 h.it).1
  have bl : ∀ r, r < B + 4 → r ≠ b → W'.heap[r]? = W.heap[r]? := fun r hr hn => hg.block r (by omega) (by simpa using hn)
  refine ⟨(bl B (by omega) (by omega)).trans h.box, (bl (B + 3) (by omega) (by omega)).trans h.it, ⟨v, (bl (B + 1) (by omega) (by omega)).trans h1, ?_⟩, ⟨u, (bl (B + 2) (by omega) (by omega)).trans h3, ?_⟩, ⟨cs', hA, hS⟩, fr_trans h.fr hg⟩
  · rw [outs_marked ho hm]; exact h2.kept hg (own_ne h2 (by omega))
  · rw [outs_marked ho hm]; exact h4.kept hg (own_ne h4 (by omega))

def SweepPost (cs : List Chunk) (a b : Nat) (w : World) (e : Ending) (w' : World) : Prop :=
  ∃ v cs2, e = .returned v ∧ w'.ownsRow w.heap.size 40 4 v (outs (objs cs)).length (objCells (outs (objs cs))) ∧ At w' a b cs2 ∧ Good cs2 ∧ cs2.length = cs.length ∧ objs cs2 = kept (objs cs) ∧ w.grownBy w' (some b)

theorem plCells_get (l : List PObj) (k j : Nat) (o : PObj) (hk : l[k]? = some o) (hj : j < 2) : (plCells l)[k * 2 + j]? = [Value.int .i64 (placeOf o).1, .int .i64 (placeOf o).2][j]? := by
  induction l generalizing k with
  | nil => simp at hk
  | cons d ds ih =>
    simp only [plCells, List.flatMap_cons] at ih ⊢
    cases k with
    | zero =>
      simp at hk; subst hk
      rw [List.getElem?_append_left (by simp; omega)]; simp
    | succ k =>
      simp at hk
      rw [List.getElem?_append_right (by simp; omega)]
      have : (k + 1) * 2 + j - [Value.int .i64 (placeOf d).1, .int .i64 (placeOf d).2].length = k * 2 + j := by simp; omega
      rw [this]
      exact ih k hk

theorem own_pl {W : World} {base : Nat} {v : Value} {l : List PObj} (h : W.ownsRow base 83 2 v l.length (plCells l)) (hne : l ≠ []) : ∃ g cap, v = .slice (some ⟨g, 0, none⟩) l.length cap ∧ base ≤ g ∧ g < W.heap.size ∧
    ∀ k o, l[k]? = some o → W.cell? ⟨g, k * 2, none⟩ = some (.int .i64 (placeOf o).1) ∧ W.cell? ⟨g, k * 2 + 1, none⟩ = some (.int .i64 (placeOf o).2) := by
  rcases h.2 with ⟨_, h0⟩ | ⟨g, cap, cur, rfl, h1, h2, h3, h4, h5, h6⟩
  · exact absurd (List.eq_nil_of_length_eq_zero h0) hne
  · refine ⟨g, cap, rfl, h1, (Array.getElem?_eq_some_iff.1 h2).1, fun k o hk => ?_⟩
    have hc : ∀ j, j < 2 → W.cell? ⟨g, k * 2 + j, none⟩ = [Value.int .i64 (placeOf o).1, .int .i64 (placeOf o).2][j]? := by
      intro j hj
      have hg := plCells_get l k j o hk hj
      have hlt : k < l.length := (List.getElem?_eq_some_iff.1 hk).1
      rw [cell_blk h2, ← hg, ← h6, List.getElem?_take_of_lt (by omega)]
      simp
    exact ⟨hc 0 (by omega), hc 1 (by omega)⟩
theorem own_pl_empty {W : World} {base : Nat} {v : Value} {xs : List Value} (h : W.ownsRow base 83 2 v 0 xs) : v = .slice none 0 0 ∨ ∃ x c, v = .slice (some x) 0 c := by
  rcases h.2 with ⟨rfl, _⟩ | ⟨g, cap, cur, rfl, _⟩
  · exact .inl rfl
  · exact .inr ⟨_, _, rfl⟩

/-- The end of Sweep. -/
theorem sweep_post {cs cs1 cs2 : List Chunk} {a b B : Nat} {w wr : World} {v : Value} (hG : Good cs) (hB : w.heap.size = B) (hb : b < B) (ha : a < B) (hs : Swept cs (objs cs).length cs1) (hgo : Gone cs1 (outs (objs cs)) cs2)
    (hv : wr.ownsRow (B + 6) 40 4 v (outs (objs cs)).length (objCells (outs (objs cs)))) (hA : At wr a b cs2) (hf : w.grownBy wr (some b)) (hK : wr.heap[B + 4]? = some (.deferred (some []))) (x : Obj) : SweepPost cs a b w (.returned v) (wr.putObj (B + 4) x) := by
  refine ⟨v, cs2, rfl, ?_, hA.same (World.putObj_heap_other (by omega)) (World.putObj_heap_other (by omega)), hgo.good, hgo.len.trans hs.shape.len, sweep_end hG hs hgo, ?_⟩
  · exact ownsRow_base (ownsRow_putObj hv _ hK rfl) (by omega)
  · have hg := grownBy_putObj' wr (B + 4) x
    refine ⟨hg.os.trans hf.os, hg.tape.trans hf.tape, hg.output.trans hf.output, Nat.le_trans hf.size hg.size, fun r hr hn => (World.putObj_heap_other (by omega)).trans (hf.block r hr hn)⟩

set_option maxRecDepth 100000 in
set_option maxHeartbeats 1000000 in
theorem sweep_walk {w : World} {a b : Nat} {cs : List Chunk} (h : At w a b cs) (hg : Good cs) (hN : (objs cs).length ≤ 100000) :
    Calls Tryd.prog 24 #[.pointer (some ⟨a, 0, none⟩)] w (SweepPost cs a b w) := by
  have HG := Lib.hid hg; clear hg
  refine (callsIn_wide (n := 0)).1 ?_
  refine callsIn_of_wp_marks Tryd.func24 rfl trivial ?_ rfl
  simp only [Tryd.ntmps24, List.size_toArray, List.length_cons, List.length_nil, Nat.reduceAdd, Nat.reduceSub, Array.replicate_succ, Array.replicate_zero, List.push_toArray, List.append_toArray, List.nil_append, List.cons_append]
  have ha0 := h.lt_a
  have hb0 := h.lt_b
  gi_wp2_with fail
  refine ⟨trivial, rfl, ?_⟩
  refine (callsIn_wide.2 (walk_any _ _)).mono ?_
  rintro e w' ⟨rfl, rfl⟩
  gi_wp2_with fail
  obtain ⟨W0, hW0⟩ : ∃ W0, W0 = (((w.alloc (Obj.cells #[Value.pointer (some ⟨a, 0, none⟩)] 24)).alloc (Obj.cells #[Value.slice none 0 0] 37)).alloc (Obj.cells #[Value.slice none 0 0] 91)).alloc (Obj.cells #[Value.pointer (some ⟨a, 0, none⟩)] 24) := ⟨_, rfl⟩
  rw [← hW0]
  obtain ⟨B, hB⟩ : ∃ B, B = w.heap.size := ⟨_, rfl⟩
  have HSZ : Hid (W0.heap.size = B + 4) := by show _ = _; rw [hW0, hB]; simp
  have HI0 : Hid (SwIt cs a b B w 0 W0) := by
    refine ⟨?_, ?_, ⟨.slice none 0 0, ?_, World.ownsRow_nil _ _ _ _⟩, ⟨.slice none 0 0, ?_, World.ownsRow_nil _ _ _ _⟩, ⟨cs, ?_, Swept.zero HG.out⟩, ?_⟩
    · rw [hW0, hB]; show ((((w.heap.push _).push _).push _).push _)[_]? = _
      rw [Array.getElem?_push, if_neg (by simp; omega), Array.getElem?_push, if_neg (by simp; omega), Array.getElem?_push, if_neg (by simp), Array.getElem?_push, if_pos rfl]
    · rw [hW0, hB]; show ((((w.heap.push _).push _).push _).push _)[_]? = _
      rw [Array.getElem?_push, if_pos (by simp)]
    · rw [hW0, hB]; show ((((w.heap.push _).push _).push _).push _)[_]? = _
      rw [Array.getElem?_push, if_neg (by simp), Array.getElem?_push, if_neg (by simp), Array.getElem?_push, if_pos (by simp)]
    · rw [hW0, hB]; show ((((w.heap.push _).push _).push _).push _)[_]? = _
      rw [Array.getElem?_push, if_neg (by simp), Array.getElem?_push, if_pos (by simp)]
    · rw [hW0]; exact (((h.alloc _).alloc _).alloc _).alloc _
    · rw [hW0]; exact fr_alloc (fr_alloc (fr_alloc (fr_alloc (fr_refl _ _) _) _) _) _
  rw [← hB] at ha0 hb0 ⊢
  have HBw := Lib.hid hB; clear hB hW0 h
  obtain ⟨i0, hi, hz0, hz1, hz2⟩ := info_parts info40
  have HI := Lib.hid hi; clear hi
  have HZ0 := Lib.hid hz0; clear hz0
  have HZ1 := Lib.hid hz1; clear hz1
  have HZ2 := Lib.hid hz2; clear hz2
  obtain ⟨j0, hj, hy0, hy1, hy2⟩ := info_parts info83
  have HJ := Lib.hid hj; clear hj
  have HY0 := Lib.hid hy0; clear hy0
  have HY1 := Lib.hid hy1; clear hy1
  have HY2 := Lib.hid hy2; clear hy2
  refine range_idx (gf := 47) (lb := #[.pointer (some ⟨B + 3, 0, none⟩)]) rfl (enters_of Tryd.func47 (by kernel_rfl) rfl) (xs := itemAt cs) (N := (places cs).length) (fun k => item_size cs k) (walk1_seq cs a b (B + 3))
    (fun k W => SwIt cs a b B w k W) ?hI ?hIP ?h0 ?hround ?hdone
  case hI =>
    intro k W W' hs hg
    rw [HSZ.out] at hg
    exact hs.grown ha0 hb0 HBw.out.symm (by omega) (by omega) hg
  case hIP =>
    intro k W hs
    obtain ⟨cs', h5, h6⟩ := hs.pool
    exact ⟨cell_blk hs.it 0, cs', h5, h6.like HG.out⟩
  case h0 => exact HI0.out
  case hround =>
    intro k W hs hk hlt
    obtain ⟨p, o, hpl, hob, hit⟩ := item_obj cs k hk
    have hpp : p = placeOf o := by
      have := hpl
      rw [places_objs HG.out, List.getElem?_map, hob] at this
      exact (Option.some.inj this).symm
    rw [hpp] at hit
    rw [hit, HSZ.out, show o.val = .agg #[.int .i64 o.at_, .int .i64 o.size, .int .i64 o.room, .bool o.marked] from rfl]
    rw [HSZ.out] at hlt
    have HS := Lib.hid hs; clear hs
    have HOB := Lib.hid hob; clear hob
    clear hit hpl hpp hk
    generalize hpo : placeOf o = po at *
    obtain ⟨pi, ps⟩ := po
    have HPO := Lib.hid hpo; clear hpo
    gi_wp2
    refine ⟨(Below.heap_alloc _ _ _ (by simp; omega)).trans (Below.heap_alloc _ _ _ (by omega)), (Below.heap_alloc _ _ _ (by simp; omega)).trans (Below.heap_alloc _ _ _ (by omega)), ?_⟩
    intro W2 hg2 hs2
    have hs2' : W2.heap.size = W.heap.size + 2 := by rw [hs2]; simp
    have HS2 : Hid (SwIt cs a b B w k W2) := (HS.out.grown ha0 hb0 HBw.out.symm (d := B + 5) (by omega) (by omega) (fr_alloc (fr_alloc (fr_refl _ _) _) _)).grown ha0 hb0 HBw.out.symm (by omega) (by omega) hg2
    obtain ⟨v, wv1, wv2⟩ := HS.out.out
    obtain ⟨u, wu1, wu2⟩ := HS.out.gone
    have gAll : W.grownBy W2 (some (B + 5)) := fr_trans (fr_alloc (fr_alloc (fr_refl _ _) _) _) hg2
    have HV1 : Hid (W2.heap[B + 1]? = some (.cells #[v] 37 (0, 0))) := (gAll.block (B + 1) (by omega) (by simp)).trans wv1
    have HV2 : Hid (W2.ownsRow (B + 6) 40 4 v (outs ((objs cs).take k)).length (objCells (outs ((objs cs).take k)))) := wv2.kept gAll (own_ne wv2 (by omega))
    have HU1 : Hid (W2.heap[B + 2]? = some (.cells #[u] 91 (0, 0))) := (gAll.block (B + 2) (by omega) (by simp)).trans wu1
    have HU2 : Hid (W2.ownsRow (B + 6) 83 2 u (outs ((objs cs).take k)).length (plCells (outs ((objs cs).take k)))) := wu2.kept gAll (own_ne wu2 (by omega))
    have HVB : Hid (∀ g, v.ownBlock = some g → g < W.heap.size) := fun g hg => (wv2.lt g hg).2
    have HUB : Hid (∀ g, u.ownBlock = some g → g < W.heap.size) := fun g hg => (wu2.lt g hg).2
    clear gAll wv1 wv2 wu1 wu2
    obtain ⟨X, hX⟩ : ∃ X, X = W.heap.size := ⟨_, rfl⟩
    rw [← hX] at hs2' hlt HVB HUB ⊢
    have hx5 : W2.heap[X]? = some (.cells #[.int .i64 pi, .int .i64 ps] 83 (0, 0)) := by
      rw [hg2.block X (by simp; omega) (by simp; omega), Below.heap_alloc _ _ _ (by simp; omega), hX]; exact (MapKept.heap_alloc W _).1
    have hx6 : W2.heap[X + 1]? = some (.cells #[.int .i64 o.at_, .int .i64 o.size, .int .i64 o.room, .bool o.marked] 40 (0, 0)) := by
      rw [hg2.block (X + 1) (by simp; omega) (by simp; omega)]
      have := (MapKept.heap_alloc (W.alloc (Obj.cells #[Value.int IntKind.i64 ↑pi, Value.int IntKind.i64 ↑ps] 83)) (Obj.cells #[.int .i64 o.at_, .int .i64 o.size, .int .i64 o.room, .bool o.marked] 40)).1
      rw [World.size_alloc, ← hX] at this
      exact this
    have HX5 := Lib.hid hx5
    have HX6 := Lib.hid hx6
    have HSZ2 := Lib.hid hs2'
    clear hg2 hs2 hs2' hx5 hx6 HS
    have HXW := Lib.hid hX
    clear hX
    have q3 : W2.cell? ⟨X + 1, 3, none⟩ = some (.bool o.marked) := cell_blk HX6.out 3
    have qb : W2.cell? ⟨B, 0, none⟩ = some (.pointer (some ⟨a, 0, none⟩)) := cell_blk HS2.out.box 0
    have q50 : W2.cell? ⟨X, 0, none⟩ = some (.int .i64 pi) := cell_blk HX5.out 0
    have q51 : W2.cell? ⟨X, 1, none⟩ = some (.int .i64 ps) := cell_blk HX5.out 1
    cases hm : o.marked with
    | true =>
      rw [hm] at q3
      obtain ⟨cs', hA', hSw'⟩ := HS2.out.pool
      obtain ⟨c, hpc, hoc⟩ := hSw'.at_ HOB.out
      rw [HPO.out] at hpc hoc
      have HA' := Lib.hid hA'
      have HSW := Lib.hid hSw'
      have HPC := Lib.hid hpc
      have HOC := Lib.hid hoc
      clear hA' hSw' hpc hoc
      have HM := Lib.hid hm; clear hm
      gi_wp2_with fail
      refine ⟨trivial, rfl, CallsIn.inRound _ ((callsIn_wide.2 (pl_mark HA'.out HSW.out.good HPC.out false)).mono ?_)⟩
      rintro e W3 ⟨rfl, hA3, hg3⟩
      have HA3 := Lib.hid hA3
      have HG3 := Lib.hid hg3
      have HSW3 : Hid (Swept cs (k + 1) (setMarkC cs' pi ps c false)) := by
        have := HSW.out.mark HOB.out (c := c) (by rw [HPO.out]; exact HPC.out) (by rw [HPO.out]; exact HOC.out)
        rw [HPO.out] at this
        exact this
      clear hA3 hg3
      gi_wp2
      refine ⟨HS2.out.marked ha0 hb0 HOB.out HM.out HG3.out HA3.out HSW3.out, HG3.out.block _ (by rw [HSZ2.out]; omega) (by simp; omega), HG3.out.block _ (by rw [HSZ2.out]; omega) (by simp; omega)⟩
    | false =>
      rw [hm] at q3
      have HM := Lib.hid hm; clear hm
      gi_wp2_with fail
      have hv1 := HV1.out
      have hv2 := HV2.out
      have hu1 := HU1.out
      have hu2 := HU2.out
      obtain ⟨lo, hlo⟩ : ∃ lo, lo = outs ((objs cs).take k) := ⟨_, rfl⟩
      rw [← hlo] at hv2 hu2
      have HLO := Lib.hid hlo; clear hlo
      have hll : lo.length ≤ 100000 := by
        rw [HLO.out]
        refine Nat.le_trans (List.length_filter_le _ _) ?_
        rw [List.length_take]; omega
      have hx6 : W2.heap[X + 1]? = some (.cells [Value.int .i64 o.at_, .int .i64 o.size, .int .i64 o.room, .bool false].toArray 40 (0, 0)) := by rw [HX6.out, HM.out]
      have HR0 : Hid (∀ S : Nat → Bool, (∀ i, i < 10 → S i = false) → RegI B X W2 v u lo.length (objCells lo) (plCells lo) [.int .i64 o.at_, .int .i64 o.size, .int .i64 o.room, .bool false] [.int .i64 pi, .int .i64 ps] S undef undef undef undef undef undef undef undef W2.drew) := by
        intro S hS
        have e0 := hS 0 (by decide); have e1 := hS 1 (by decide); have e2 := hS 2 (by decide); have e3 := hS 3 (by decide); have e4 := hS 4 (by decide)
        have e5 := hS 5 (by decide); have e6 := hS 6 (by decide); have e7 := hS 7 (by decide); have e8 := hS 8 (by decide); have e9 := hS 9 (by decide)
        have z : ∀ {i : Nat} {P : Prop}, S i = false → S i = true → P := fun h h' => by rw [h] at h'; cases h'
        exact ⟨z e0, z e1, fun h => z e2 h, z e3, fun _ => hv2, z e4, z e5, fun h => z e6 h, z e7, fun _ => hu2, by rw [e8]; exact hv1, by rw [e9]; exact hu1, z e7, z e3, z e8, z e9, HX5.out, hx6, HVB.out, HUB.out, fun _ _ _ _ => rfl, rfl, rfl, rfl, Nat.le_refl _⟩
      have hp7 : B + 6 ≤ X := by omega
      clear hv1 hv2 hu1 hu2 hx6 q3 qb q50 q51
      refine wpIn_region_inv (by kernel_rfl) (back_of (by kernel_rfl)) (fun S act Wx => ∃ x20 x21 x22 x23 x24 x25 x26 x27 : Value, act = { tmps := #[.pointer (some ⟨a, 0, none⟩), .pointer (some ⟨B, 0, none⟩), .slice none 0 0, .pointer (some ⟨B + 1, 0, none⟩), .pointer (some ⟨B + 1 + 1, 0, none⟩), .pointer (some ⟨X, 0, none⟩), .pointer (some ⟨X + 1, 0, none⟩), undef, undef, .pointer (some ⟨a, 0, none⟩), .bool false, .pointer (some ⟨a, 0, none⟩), .func (.func 47) #[] #[.pointer (some ⟨B + 1 + 1 + 1, 0, none⟩)], .agg #[.int .i64 pi, .int .i64 ps], .agg #[.int .i64 o.at_, .int .i64 o.size, .int .i64 o.room, .bool false], .pointer (some ⟨X + 1, 3, none⟩), .bool false, undef, undef, undef, x20, x21, x22, x23, x24, x25, x26, x27, undef, undef, undef, undef, undef, undef, undef, undef, undef, undef, undef], defers := [] } ∧
        RegI B X W2 v u lo.length (objCells lo) (plCells lo) [.int .i64 o.at_, .int .i64 o.size, .int .i64 o.room, .bool false] [.int .i64 pi, .int .i64 ps] S x20 x21 x22 x23 x24 x25 x26 x27 Wx) ?r0 ?step ?done
      case r0 => exact fun S hS => ⟨_, _, _, _, _, _, _, _, rfl, HR0.out S hS⟩
      case step =>
        rintro i oi ho S act Wx ⟨x20, x21, x22, x23, x24, x25, x26, x27, rfl, hR⟩ hSi hdep
        have hi : i < 10 := (Array.getElem?_eq_some_iff.1 ho).1
        have hsz : X + 2 ≤ Wx.heap.size := Nat.le_trans (by rw [HSZ2.out]; exact Nat.le_refl _) hR.size
        have HR := Lib.hid hR
        have HD := Lib.hid hdep
        have HSI := Lib.hid hSi
        clear hR hdep hSi
        obtain rfl | rfl | rfl | rfl | rfl | rfl | rfl | rfl | rfl | rfl : i = 0 ∨ i = 1 ∨ i = 2 ∨ i = 3 ∨ i = 4 ∨ i = 5 ∨ i = 6 ∨ i = 7 ∨ i = 8 ∨ i = 9 := by omega
        · have h8 : S 8 = false := by
            cases h8 : S 8 with
            | false => rfl
            | true => have := HR.out.k3 (HR.out.k7 (HR.out.k8 h8)).1; rw [HSI.out] at this; cases this
          have hc := HR.out.c3
          rw [h8] at hc
          have c0 : Wx.cell? ⟨B + 1, 0, none⟩ = some v := cell_blk hc 0
          clear h8 hc
          refine wpOpIn_step ho fun K hK => ?_
          obtain rfl := Option.some.inj ho
          go_simp
          exact hK _ _ ⟨_, _, _, _, _, _, _, _, rfl, HR.out.s0⟩
        · have c0 : Wx.cell? ⟨X + 1, 0, none⟩ = some (.int .i64 o.at_) := cell_blk HR.out.f6 0
          have c1 : Wx.cell? ⟨X + 1, 1, none⟩ = some (.int .i64 o.size) := cell_blk HR.out.f6 1
          have c2 : Wx.cell? ⟨X + 1, 2, none⟩ = some (.int .i64 o.room) := cell_blk HR.out.f6 2
          have c3 : Wx.cell? ⟨X + 1, 3, none⟩ = some (.bool false) := cell_blk HR.out.f6 3
          refine wpOpIn_step ho fun K hK => ?_
          obtain rfl := Option.some.inj ho
          go_simp
          exact hK _ _ ⟨_, _, _, _, _, _, _, _, rfl, HR.out.s1⟩
        · have hoo := ho
          obtain rfl := Option.some.inj ho
          have d1 : S 1 = true := HD.out ⟨1, .data⟩ (by simp) rfl
          obtain rfl := HR.out.d1 d1
          clear d1 HD
          refine wpOpIn_step hoo fun K hK => ?_
          clear hoo
          go_simp
          exact hK _ _ ⟨_, _, _, _, _, _, _, _, rfl, HR.out.s2 (by omega) hsz⟩
        · have hoo := ho
          obtain rfl := Option.some.inj ho
          have d0 : S 0 = true := HD.out ⟨0, .data⟩ (by simp) rfl
          have d2 : S 2 = true := HD.out ⟨2, .data⟩ (by simp) rfl
          obtain rfl := HR.out.d0 d0
          obtain ⟨g, rfl, hg1, hg2⟩ := HR.out.d2 d2 HSI.out
          have HS0 := Lib.hid d0
          clear d0 d2 HD
          refine wpOpIn_append hoo rfl (.tmp 20) (.tmp 22) 37 rfl (B + 6) 40 i0 (.agg #[.int .i64 0, .int .i64 0, .int .i64 0, .bool false]) 4 32 Tryd.underlying37 HI.out HZ0.out HZ1.out HZ2.out rfl (by decide) x20 lo.length (objCells lo) rfl (HR.out.m3 HSI.out) ⟨g, 0, none⟩ 1 1 [.int .i64 o.at_, .int .i64 o.size, .int .i64 o.room, .bool false] rfl rfl ?_ ?_ (by unfold maxLen; omega) (by omega) (by omega) ?_
          · intro j x hj
            rw [Addr.add_mid, Nat.zero_add, cell_blk hg1, List.getElem?_toArray (xs := [_, _, _, _])]
            exact hj
          · intro x hx
            simp only [List.mem_cons, List.not_mem_nil, or_false] at hx
            rcases hx with rfl | rfl | rfl | rfl <;> rfl
          · intro v' w' hown hgr
            exact ⟨_, _, _, _, _, _, _, _, rfl, HR.out.s3 (by omega) HS0.out HSI.out hown hgr⟩
        · have h9 : S 9 = false := by
            cases h9 : S 9 with
            | false => rfl
            | true => have := (HR.out.k7 (HR.out.k8 (HR.out.k9 h9))).2; rw [HSI.out] at this; cases this
          have hc := HR.out.c4
          rw [h9] at hc
          have c0 : Wx.cell? ⟨B + 1 + 1, 0, none⟩ = some u := cell_blk hc 0
          clear h9 hc
          refine wpOpIn_step ho fun K hK => ?_
          obtain rfl := Option.some.inj ho
          go_simp
          exact hK _ _ ⟨_, _, _, _, _, _, _, _, rfl, HR.out.s4⟩
        · have c0 : Wx.cell? ⟨X, 0, none⟩ = some (.int .i64 pi) := cell_blk HR.out.f5 0
          have c1 : Wx.cell? ⟨X, 1, none⟩ = some (.int .i64 ps) := cell_blk HR.out.f5 1
          refine wpOpIn_step ho fun K hK => ?_
          obtain rfl := Option.some.inj ho
          go_simp
          exact hK _ _ ⟨_, _, _, _, _, _, _, _, rfl, HR.out.s5⟩
        · have hoo := ho
          obtain rfl := Option.some.inj ho
          have d1 : S 5 = true := HD.out ⟨5, .data⟩ (by simp) rfl
          obtain rfl := HR.out.d5 d1
          clear d1 HD
          refine wpOpIn_step hoo fun K hK => ?_
          clear hoo
          go_simp
          exact hK _ _ ⟨_, _, _, _, _, _, _, _, rfl, HR.out.s6 (by omega) hsz⟩
        · have hoo := ho
          obtain rfl := Option.some.inj ho
          have d4 : S 4 = true := HD.out ⟨4, .data⟩ (by simp) rfl
          have d6 : S 6 = true := HD.out ⟨6, .data⟩ (by simp) rfl
          have d3 : S 3 = true := HD.out ⟨3, .chain⟩ (by simp) rfl
          obtain rfl := HR.out.d4 d4
          obtain ⟨g, rfl, hg1, hg2⟩ := HR.out.d6 d6 HSI.out
          have HS4 := Lib.hid d4
          have HS3 := Lib.hid d3
          clear d4 d6 d3 HD
          refine wpOpIn_append hoo rfl (.tmp 24) (.tmp 26) 91 rfl (B + 6) 83 j0 (.agg #[.int .i64 0, .int .i64 0]) 2 16 Tryd.underlying91 HJ.out HY0.out HY1.out HY2.out rfl (by decide) x24 lo.length (plCells lo) rfl (HR.out.m7 HSI.out) ⟨g, 0, none⟩ 1 1 [.int .i64 pi, .int .i64 ps] rfl rfl ?_ ?_ (by unfold maxLen; omega) (by omega) (by omega) ?_
          · intro j x hj
            rw [Addr.add_mid, Nat.zero_add, cell_blk hg1, List.getElem?_toArray (xs := [_, _])]
            exact hj
          · intro x hx
            simp only [List.mem_cons, List.not_mem_nil, or_false] at hx
            rcases hx with rfl | rfl <;> rfl
          · intro v' w' hown hgr
            exact ⟨_, _, _, _, _, _, _, _, rfl, HR.out.s7 (by omega) HS3.out HS4.out HSI.out hown hgr⟩
        · have hoo := ho
          obtain rfl := Option.some.inj ho
          have d7 : S 7 = true := HD.out ⟨7, .chain⟩ (by simp) rfl
          have HS7 := Lib.hid d7
          obtain ⟨g3, cap3, rfl⟩ := ownsRow_succ (HR.out.d3 (HR.out.k7 d7).1)
          have hc := HR.out.c3
          have c0 : ∃ y, Wx.cell? ⟨B + 1, 0, none⟩ = some y := ⟨_, cell_blk hc 0⟩
          obtain ⟨y, c0⟩ := c0
          have cf : Wx.frozen? ⟨B + 1, 0, none⟩ = false := frozen_blk hc 0
          clear d7 HD hc
          refine wpOpIn_step hoo fun K hK => ?_
          clear hoo
          go_simp
          exact hK _ _ ⟨_, _, _, _, _, _, _, _, rfl, HR.out.s8 hp7 HS7.out⟩
        · have hoo := ho
          obtain rfl := Option.some.inj ho
          have d8 : S 8 = true := HD.out ⟨8, .chain⟩ (by simp) rfl
          have HS8 := Lib.hid d8
          obtain ⟨g7, cap7, rfl⟩ := ownsRow_succ (HR.out.d7 (HR.out.k8 d8))
          have hc := HR.out.c4
          have c0 : ∃ y, Wx.cell? ⟨B + 1 + 1, 0, none⟩ = some y := ⟨_, cell_blk hc 0⟩
          obtain ⟨y, c0⟩ := c0
          have cf : Wx.frozen? ⟨B + 1 + 1, 0, none⟩ = false := frozen_blk hc 0
          clear d8 HD hc
          refine wpOpIn_step hoo fun K hK => ?_
          clear hoo
          go_simp
          exact hK _ _ ⟨_, _, _, _, _, _, _, _, rfl, HR.out.s9 hp7 HS8.out⟩
      case done =>
        rintro S act Wx ⟨x20, x21, x22, x23, x24, x25, x26, x27, rfl, hR⟩ hall
        have a3 := hR.d3 (hall 3 (by decide))
        have a7 := hR.d7 (hall 7 (by decide))
        have b3 := hR.c3
        have b4 := hR.c4
        rw [hall 8 (by decide), if_pos rfl] at b3
        rw [hall 9 (by decide), if_pos rfl] at b4
        have eo : outs ((objs cs).take (k + 1)) = lo ++ [o] := by rw [outs_plain HOB.out HM.out, ← HLO.out]
        have eL : objCells (lo ++ [o]) = objCells lo ++ [.int .i64 o.at_, .int .i64 o.size, .int .i64 o.room, .bool false] := by rw [objCells_snoc]; simp [PObj.cells, HM.out]
        have eP : plCells (lo ++ [o]) = plCells lo ++ [.int .i64 pi, .int .i64 ps] := by simp [plCells, HPO.out]
        have en : (lo ++ [o]).length = lo.length + 1 := by simp
        have hpool := HS2.out.pool
        obtain ⟨cs', p1, p2⟩ := hpool
        have bl : ∀ r, r < B + 6 → r ≠ B + 1 → r ≠ B + 2 → Wx.heap[r]? = W2.heap[r]? := hR.oth
        refine ⟨⟨(bl B (by omega) (by omega) (by omega)).trans HS2.out.box, (bl (B + 3) (by omega) (by omega) (by omega)).trans HS2.out.it, ⟨x23, b3, by rw [eo, eL, en]; exact a3⟩, ⟨x27, b4, by rw [eo, eP, en]; exact a7⟩, ⟨cs', p1.same (bl a (by omega) (by omega) (by omega)) (bl b (by omega) (by omega) (by omega)), p2.skip HOB.out HM.out⟩, ?_⟩, bl (B + 5) (by omega) (by omega) (by omega), bl (B + 4) (by omega) (by omega) (by omega)⟩
        have hf := HS2.out.fr
        have hwB := HBw.out
        refine ⟨hR.os.trans hf.os, hR.tape.trans hf.tape, hR.output.trans hf.output, Nat.le_trans hf.size hR.size, fun r hr hn => (bl r (by omega) (by omega) (by omega)).trans (hf.block r hr hn)⟩
  case hdone =>
    intro W hs hK
    rw [HSZ.out] at hK ⊢
    have hl : (places cs).length = (objs cs).length := by simp [objs]
    rw [hl] at hs
    obtain ⟨v, hv1, hv2⟩ := hs.out
    obtain ⟨u, hu1, hu2⟩ := hs.gone
    obtain ⟨cs1, hA1, hS1⟩ := hs.pool
    rw [List.take_length] at hv2 hu2
    have HV1 := Lib.hid hv1
    have HV2 := Lib.hid hv2
    have HU2 := Lib.hid hu2
    have HA1 := Lib.hid hA1
    have HS1 := Lib.hid hS1
    have HKK := Lib.hid hK
    have HF := Lib.hid hs.fr
    have HBX := Lib.hid hs.box
    have c1 : W.cell? ⟨B + 1, 0, none⟩ = some v := cell_blk hv1 0
    have HVC := Lib.hid c1
    have c2 : W.cell? ⟨B + 1 + 1, 0, none⟩ = some u := cell_blk hu1 0
    have HIN := Lib.hid (fun o (h : o ∈ outs (objs cs)) => outs_in hS1 h)
    have HND := Lib.hid (outs_nodup HG.out)
    have hlen : (outs (objs cs)).length ≤ 100000 := Nat.le_trans (List.length_filter_le _ _) hN
    clear hs hv1 hv2 hu1 hu2 hA1 hS1 hK hl
    have HPS : Hid (∀ (cs2 : List Chunk) (wr : World), Gone cs1 (outs (objs cs)) cs2 → wr.ownsRow (B + 6) 40 4 v (outs (objs cs)).length (objCells (outs (objs cs))) → At wr a b cs2 → w.grownBy wr (some b) → wr.heap[B + 4]? = some (.deferred (some [])) → ∀ x, SweepPost cs a b w (.returned v) (wr.putObj (B + 4) x)) :=
      fun cs2 wr h1 h2 h3 h4 h5 x => sweep_post HG.out HBw.out.symm hb0 ha0 HS1.out h1 h2 h3 h4 h5 x
    obtain ⟨G, hG⟩ : ∃ G, G = outs (objs cs) := ⟨_, rfl⟩
    rw [← hG] at HU2 HIN HND hlen HPS HV2
    clear hG
    by_cases hne : G = []
    · subst hne
      rcases own_pl_empty HU2.out with rfl | ⟨y, c, rfl⟩
      all_goals
        gi_wp2_with fail
        gi_loopw [30] (fun s wr => s = .int .i64 0 ∧ wr = W) (fun _ _ => 0)
        case atStart => exact ⟨rfl, rfl⟩
        case round =>
          obtain ⟨rfl, rfl⟩ := hrel
          gi_wp2
          refine ⟨by simp, .inl ⟨_, _, rfl, run_takeDeferred HKK.out, ?_⟩⟩
          refine ⟨_, results_tmp rfl _ _ _, ?_⟩
          exact HPS.out cs1 _ (Gone.zero HS1.out.good) HV2.out HA1.out HF.out HKK.out _
    · obtain ⟨g, cap, rfl, hg1, hg2, hcells⟩ := own_pl HU2.out hne
      have HCE := Lib.hid hcells
      clear hcells
      gi_wp2_with fail
      gi_loopw [30] (fun s wr => ∃ (r : Nat) (cs2 : List Chunk), r ≤ G.length ∧ s = .int .i64 r ∧ At wr a b cs2 ∧ Gone cs1 (G.take r) cs2 ∧ W.grownBy wr (some b)) (fun s _ => G.length - (intOf s).toNat)
      case atStart => exact ⟨0, cs1, by omega, rfl, HA1.out, Gone.zero HS1.out.good, fr_refl _ _⟩
      case round =>
        obtain ⟨r, cs2, hr, rfl, hA2, hG2, hf2⟩ := hrel
        have HA2 := Lib.hid hA2
        have HG2 := Lib.hid hG2
        have HF2 := Lib.hid hf2
        have hB4 := (Array.getElem?_eq_some_iff.1 HKK.out).1
        have hwr : B + 4 < wr.heap.size := Nat.lt_of_lt_of_le hB4 hf2.size
        have hwr0 : B < wr.heap.size := by omega
        clear hA2 hG2 c1 c2
        have c1 : wr.cell? ⟨B + 1, 0, none⟩ = some v := by rw [World.cell?_of_block (w := W) (hf2.block (B + 1) (by omega) (by simp; omega))]; exact HVC.out
        have cb : wr.cell? ⟨B, 0, none⟩ = some (.pointer (some ⟨a, 0, none⟩)) := by rw [World.cell?_of_block (w := W) (hf2.block B (by omega) (by simp; omega))]; exact cell_blk HBX.out 0
        by_cases hlt : r < G.length
        · obtain ⟨o, ho⟩ : ∃ o, G[r]? = some o := ⟨G[r], by simp⟩
          obtain ⟨p0, p1⟩ := HCE.out r o ho
          have d0 : wr.cell? ⟨g, r * 2, none⟩ = some (.int .i64 (placeOf o).1) := by rw [World.cell?_of_block (w := W) (hf2.block g hg2 (by simp; omega))]; exact p0
          have d1 : wr.cell? ⟨g, r * 2 + 1, none⟩ = some (.int .i64 (placeOf o).2) := by rw [World.cell?_of_block (w := W) (hf2.block g hg2 (by simp; omega))]; exact p1
          have hoG : o ∉ G.take r := by
            intro hin
            obtain ⟨j, hj, e⟩ := List.getElem_of_mem hin
            have hj2 : j < r := by simp at hj; omega
            rw [List.getElem_take] at e
            have e2 : G[r] = o := (List.getElem?_eq_some_iff.1 ho).2
            have := (List.getElem_inj (h₀ := by omega) (h₁ := hlt) HND.out).1 (e.trans e2.symm)
            omega
          obtain ⟨c, hpc, hoc⟩ := HG2.out.at_ (HIN.out o (List.mem_of_getElem? ho)) hoG
          have HST := Lib.hid (HG2.out.step hpc hoc)
          have HTK : Hid (G.take (r + 1) = G.take r ++ [o]) := by show _ = _; rw [List.take_add_one, ho]; simp
          have HPC := Lib.hid hpc
          clear p0 p1 ho hoG hpc hoc hf2
          generalize placeOf o = po at *
          obtain ⟨pi, ps⟩ := po
          gi_wp2_with fail
          refine ⟨trivial, rfl, (callsIn_wide.2 (pl_remove (HA2.out.alloc _) HG2.out.good HPC.out)).mono ?_⟩
          rintro e W3 ⟨rfl, hA3, hg3⟩
          have HA3 := Lib.hid hA3
          have HF3 : Hid (W.grownBy W3 (some b)) := fr_trans (fr_alloc HF2.out _) hg3
          clear hA3 hg3 d0 d1 c1 cb
          gi_wp2
          go_roundw
          case rel => exact ⟨r + 1, _, by omega, by go_num, HA3.out, by rw [HTK.out]; exact HST.out, HF3.out⟩
          case measure => simp [intOf]; omega
        · obtain rfl : r = G.length := by omega
          have hv2 : wr.ownsRow (B + 6) 40 4 v G.length (objCells G) := HV2.out.kept hf2 (own_ne HV2.out (by omega))
          have hK2 : wr.heap[B + 4]? = some (.deferred (some [])) := (hf2.block (B + 4) hB4 (by simp; omega)).trans HKK.out
          have HK2 := Lib.hid hK2
          have HVV := Lib.hid hv2
          have hG3 := HG2.out
          rw [List.take_length] at hG3
          have HG3 := Lib.hid hG3
          clear hf2 hK2 hv2 hG3
          gi_wp2
          refine ⟨by simp, .inl ⟨_, _, rfl, run_takeDeferred HK2.out, ?_⟩⟩
          refine ⟨_, results_tmp rfl _ _ _, ?_⟩
          exact HPS.out cs2 _ HG3.out HVV.out HA2.out (fr_trans HF.out HF2.out) HK2.out _
end Go.Proofs.YtdgfnlagbdmniaaDoor.Pl
