/- The pool: its objects. -/
import Derived.Test.YtdgfnlagbdmniaaDoorPh
namespace Go.Proofs.YtdgfnlagbdmniaaDoor.Pl
open Go.RowKit
attribute [local go_sem] Oper.semAt_some

def PObj.cells (o : PObj) : List Value := [.int .i64 o.at_, .int .i64 o.size, .int .i64 o.room, .bool o.marked]
def objCells (l : List PObj) : List Value := l.flatMap PObj.cells
def objs (cs : List Chunk) : List PObj := (places cs).map fun p => objOf (cs.getD p.1 Chunk.zero) p.1 p.2

theorem objCells_length (l : List PObj) : (objCells l).length = l.length * 4 := by
  induction l with
  | nil => rfl
  | cons o l ih => simp only [objCells, List.flatMap_cons, List.length_append] at ih ⊢; rw [ih]; simp [PObj.cells]; omega
theorem objCells_snoc (l : List PObj) (o : PObj) : objCells (l ++ [o]) = objCells l ++ o.cells := by simp [objCells]

theorem walk_any (p : Option Addr) (w : World) : Calls Tryd.prog 31 #[.pointer p] w fun e w' => e = .returned (.func (.func 47) #[] #[.pointer (some ⟨w.heap.size, 0, none⟩)]) ∧ w' = w.alloc (.cells #[.pointer p] 24) := by
  go_enter Tryd.func31, Tryd.ntmps31
  go_wp2
  go_ret
  exact ⟨rfl, rfl⟩

theorem item_obj (cs : List Chunk) (k : Nat) (hk : k < (places cs).length) : ∃ p o, (places cs)[k]? = some p ∧ (objs cs)[k]? = some o ∧ itemAt cs k = #[.agg #[.int .i64 p.1, .int .i64 p.2], o.val] := by
  refine ⟨(places cs)[k], _, by simp [hk], by simp [objs, hk]; rfl, ?_⟩
  simp [itemAt, hk]
theorem item_size (cs : List Chunk) (k : Nat) : (itemAt cs k).size = 2 := by
  unfold itemAt; split <;> rfl

theorem info40 : (Tryd.prog.info? 40).map (fun i => (i.zero, i.size, i.bytes)) = some (some (.agg #[.int .i64 0, .int .i64 0, .int .i64 0, .bool false]), 4, 32) := by kernel_rfl

theorem Like.refl {cs : List Chunk} (h : ∀ c ∈ cs, Rd c) (k : Nat) : Like cs cs k := ⟨rfl, h, fun _ => rfl, fun _ => rfl, fun _ => rfl, fun _ _ _ _ => rfl⟩

theorem ownsRow_base {W : World} {base base' : Nat} {e : TypeId} {size : Nat} {v : Value} {n : Nat} {xs : List Value} (h : W.ownsRow base e size v n xs) (hb : base' ≤ base) : W.ownsRow base' e size v n xs := by
  refine ⟨h.1, ?_⟩
  rcases h.2 with h | ⟨g, cap, cur, h1, h2, h3⟩
  · exact .inl h
  · exact .inr ⟨g, cap, cur, h1, by omega, h3⟩
theorem own_ne {W : World} {base : Nat} {e : TypeId} {size : Nat} {v : Value} {n : Nat} {xs : List Value} (h : W.ownsRow base e size v n xs) {r : Nat} (hr : r < base) : v.ownBlock = none ∨ v.ownBlock ≠ some r := by
  cases hv : v.ownBlock with
  | none => exact .inl rfl
  | some g => right; intro e; cases e; have := h.lt _ hv; omega
theorem own_blk {W W' : World} {base : Nat} {e : TypeId} {size : Nat} {v : Value} {n : Nat} {xs : List Value} (h : W.ownsRow base e size v n xs) (hg : W.grownBy W' v.ownBlock) {r : Nat} (hr : r < base) (hlt : r < W.heap.size) : W'.heap[r]? = W.heap[r]? :=
  hg.block r hlt (fun e => by have := h.lt r e.symm; omega)

set_option maxRecDepth 100000 in
set_option maxHeartbeats 1000000 in
theorem objects_at {w : World} {a b : Nat} {cs : List Chunk} (h : At w a b cs) (hrd : ∀ c ∈ cs, Rd c) (hN : (places cs).length ≤ 100000) :
    Calls Tryd.prog 15 #[.pointer (some ⟨a, 0, none⟩)] w fun e w' => ∃ v, e = .returned v ∧ w'.ownsRow w.heap.size 40 4 v (objs cs).length (objCells (objs cs)) ∧ Below w.heap.size w w' := by
  obtain ⟨i0, hi, hz0, hz1, hz2⟩ := info_parts info40
  have HI := Lib.hid hi; clear hi
  have HZ0 := Lib.hid hz0; clear hz0
  have HZ1 := Lib.hid hz1; clear hz1
  have HZ2 := Lib.hid hz2; clear hz2
  refine (callsIn_wide (n := 0)).1 ?_
  refine callsIn_of_wp_marks Tryd.func15 rfl trivial ?_ rfl
  simp only [Tryd.ntmps15, List.size_toArray, List.length_cons, List.length_nil, Nat.reduceAdd, Nat.reduceSub, Array.replicate_succ, Array.replicate_zero, List.push_toArray, List.append_toArray, List.nil_append, List.cons_append]
  gi_wp2_with fail
  refine ⟨trivial, rfl, ?_⟩
  refine (callsIn_wide.2 (walk_any _ _)).mono ?_
  rintro e w' ⟨rfl, rfl⟩
  gi_wp2_with fail
  obtain ⟨W0, hW0⟩ : ∃ W0, W0 = (w.alloc (Obj.cells #[Value.slice none 0 0] 37)).alloc (Obj.cells #[Value.pointer (some ⟨a, 0, none⟩)] 24) := ⟨_, rfl⟩
  rw [← hW0]
  obtain ⟨B, hB⟩ : ∃ B, B = w.heap.size := ⟨_, rfl⟩
  have hsz : W0.heap.size = B + 2 := by rw [hW0, hB]; simp
  have hA0 : At W0 a b cs := by rw [hW0]; exact (h.alloc _).alloc _
  have hb0 : Below B w W0 := by rw [hW0, hB]; exact ((Below.refl _ _).alloc (Nat.le_refl _) _).alloc (by simp) _
  have hx0 : W0.heap[B]? = some (.cells #[.slice none 0 0] 37 (0, 0)) := by
    rw [hW0, hB]; show ((w.heap.push _).push _)[_]? = _
    rw [Array.getElem?_push, if_neg (by simp), Array.getElem?_push, if_pos rfl]
  have hp0 : W0.heap[B + 1]? = some (.cells #[.pointer (some ⟨a, 0, none⟩)] 24 (0, 0)) := by
    rw [hW0, hB]; show ((w.heap.push _).push _)[_]? = _
    rw [Array.getElem?_push, if_pos (by simp)]
  have ha := h.lt_a
  have hbb := h.lt_b
  rw [← hB] at ha hbb ⊢
  clear hW0 h
  have HA0 := Lib.hid hA0; clear hA0
  have HB0 := Lib.hid hb0; clear hb0
  have HX0 := Lib.hid hx0; clear hx0
  have HP0 := Lib.hid hp0; clear hp0
  have HBw := Lib.hid hB; clear hB
  have HSZ := Lib.hid hsz; clear hsz
  refine range_idx (gf := 47) (lb := #[.pointer (some ⟨B + 1, 0, none⟩)]) rfl (enters_of Tryd.func47 (by kernel_rfl) rfl) (xs := itemAt cs) (N := (places cs).length) (fun k => item_size cs k) (walk1_seq cs a b (B + 1))
    (fun k W => (∃ v, W.heap[B]? = some (.cells #[v] 37 (0, 0)) ∧ W.ownsRow (B + 4) 40 4 v k (objCells ((objs cs).take k))) ∧ W.heap[B + 1]? = some (.cells #[.pointer (some ⟨a, 0, none⟩)] 24 (0, 0)) ∧ At W a b cs ∧ Below B w W)
    ?hI ?hIP ?h0 ?hround ?hdone
  case hI =>
    rintro k W W' ⟨⟨v, h1, h2⟩, h3, h4, h5⟩ hg
    rw [HSZ.out] at hg
    have l1 : B + 1 < W.heap.size := (Array.getElem?_eq_some_iff.1 h3).1
    refine ⟨⟨v, (hg.block B (by omega) (by first | (simp; done) | (simp; omega))).trans h1, h2.kept hg ?_⟩, (hg.block (B + 1) l1 (by first | (simp; done) | (simp; omega))).trans h3, h4.same (hg.block a h4.lt_a (by first | (simp; done) | (simp; omega))) (hg.block b h4.lt_b (by first | (simp; done) | (simp; omega))), h5.grown hg (by omega) (fun k e => by cases e; omega)⟩
    exact own_ne h2 (by omega)
  case hIP =>
    rintro k W ⟨_, h3, h4, _⟩
    exact ⟨cell_blk h3 0, cs, h4, Like.refl hrd k⟩
  case h0 => exact ⟨⟨_, HX0.out, World.ownsRow_nil _ _ _ _⟩, HP0.out, HA0.out, HB0.out⟩
  case hround =>
    rintro k W ⟨⟨v, h1, h2⟩, h3, h4, h5⟩ hk hlt
    obtain ⟨p, o, hpl, hob, hit⟩ := item_obj cs k hk
    rw [hit, HSZ.out, show o.val = .agg #[.int .i64 o.at_, .int .i64 o.size, .int .i64 o.room, .bool o.marked] from rfl]
    rw [HSZ.out] at hlt
    have H1 := Lib.hid h1; clear h1
    have H2 := Lib.hid h2; clear h2
    have H3 := Lib.hid h3; clear h3
    have H4 := Lib.hid h4; clear h4
    have H5 := Lib.hid h5; clear h5
    have HOB := Lib.hid hob; clear hob
    clear hit hpl
    gi_wp2
    refine ⟨Below.heap_alloc _ _ _ (by omega), Below.heap_alloc _ _ _ (by omega), ?_⟩
    intro W2 hg2 hs2
    have hs2' : W2.heap.size = W.heap.size + 1 := by rw [hs2]; simp
    have hob2 : W2.heap[W.heap.size]? = some (.cells #[.int .i64 o.at_, .int .i64 o.size, .int .i64 o.room, .bool o.marked] 40 (0, 0)) := by
      rw [hg2.block _ (by simp) (by first | (simp; done) | (simp; omega))]; exact (MapKept.heap_alloc W _).1
    have hx2 : W2.heap[B]? = some (.cells #[v] 37 (0, 0)) := by
      rw [hg2.block _ (by first | (simp; done) | (simp; omega)) (by first | (simp; done) | (simp; omega)), Below.heap_alloc _ _ _ (by omega)]; exact H1.out
    have hp2 : W2.heap[B + 1]? = some (.cells #[.pointer (some ⟨a, 0, none⟩)] 24 (0, 0)) := by
      rw [hg2.block _ (by first | (simp; done) | (simp; omega)) (by first | (simp; done) | (simp; omega)), Below.heap_alloc _ _ _ (by omega)]; exact H3.out
    have hA2 : At W2 a b cs := H4.out.same (by rw [hg2.block _ (by first | (simp; done) | (simp; omega)) (by first | (simp; done) | (simp; omega)), Below.heap_alloc _ _ _ (by omega)]) (by rw [hg2.block _ (by first | (simp; done) | (simp; omega)) (by first | (simp; done) | (simp; omega)), Below.heap_alloc _ _ _ (by omega)])
    have hB2 : Below B w W2 := (H5.out.alloc (by omega) _).grown hg2 (by first | (simp; done) | (simp; omega)) (fun k e => by cases e; omega)
    have hw2 : W2.ownsRow (B + 4) 40 4 v k (objCells ((objs cs).take k)) := (H2.out.alloc _).kept hg2 (own_ne H2.out (by omega))
    have q0 : W2.cell? ⟨W.heap.size, 0, none⟩ = some (.int .i64 o.at_) := cell_blk hob2 0
    have q1 : W2.cell? ⟨W.heap.size, 1, none⟩ = some (.int .i64 o.size) := cell_blk hob2 1
    have q2 : W2.cell? ⟨W.heap.size, 2, none⟩ = some (.int .i64 o.room) := cell_blk hob2 2
    have q3 : W2.cell? ⟨W.heap.size, 3, none⟩ = some (.bool o.marked) := cell_blk hob2 3
    have qv : W2.cell? ⟨B, 0, none⟩ = some v := cell_blk hx2 0
    have HX2 := Lib.hid hx2; clear hx2
    have HP2 := Lib.hid hp2; clear hp2
    have HA2 := Lib.hid hA2; clear hA2
    have HB2 := Lib.hid hB2; clear hB2
    have HW2 := Lib.hid hw2; clear hw2
    have HS2 := Lib.hid hs2'; clear hs2' hs2 hob2 hg2
    clear H1 H2 H3 H4 H5
    have hlt2 : B + 4 < W2.heap.size := by rw [HS2.out]; omega
    have hkN : k < 100000 := by omega
    gi_wp2_with (gi_at_builtin; refine wpListIn_append_own _ rfl _ _ 37 rfl (B + 4) 40 i0 (.agg #[.int .i64 0, .int .i64 0, .int .i64 0, .bool false]) 4 32 Tryd.underlying37 HI.out HZ0.out HZ1.out HZ2.out rfl (by decide) _ _ _ rfl (HW2.out.alloc _) ⟨W2.heap.size, 0, none⟩ 1 1 o.cells rfl rfl ?c1 ?c2 ?c3 ?c4 ?c5 ?_)
    case c1 =>
      intro j u hj
      have hb : (W2.alloc (Obj.cells #[.int .i64 o.at_, .int .i64 o.size, .int .i64 o.room, .bool o.marked] 40)).heap[W2.heap.size]? = some (.cells #[.int .i64 o.at_, .int .i64 o.size, .int .i64 o.room, .bool o.marked] 40 (0, 0)) := (MapKept.heap_alloc W2 _).1
      rw [Addr.add_mid, Nat.zero_add, cell_blk hb, List.getElem?_toArray (xs := [_, _, _, _])]
      exact hj
    case c2 => intro u hu; simp only [PObj.cells, List.mem_cons, List.not_mem_nil, or_false] at hu; rcases hu with rfl | rfl | rfl | rfl <;> rfl
    case c3 => unfold maxLen; omega
    case c4 => omega
    case c5 => simp; omega
    intro v1 w1 hown1 hgr _
    obtain ⟨g1, cap1, rfl⟩ := ownsRow_succ hown1
    have l3 : ∀ r, r < B + 4 → w1.heap[r]? = W2.heap[r]? := fun r hr => by
      rw [own_blk (HW2.out.alloc _) hgr hr (by simp; omega), Below.heap_alloc _ _ _ (by omega)]
    have qx : w1.cell? ⟨B, 0, none⟩ = some v := cell_blk ((l3 B (by omega)).trans HX2.out) 0
    have qf : w1.frozen? ⟨B, 0, none⟩ = false := frozen_blk ((l3 B (by omega)).trans HX2.out) 0
    have HG := Lib.hid hgr; clear hgr
    have HO1 := Lib.hid hown1; clear hown1
    have HL3 := Lib.hid l3; clear l3
    clear q0 q1 q2 q3 qv
    gi_wp2
    have hle : w1.heap.size ≥ W2.heap.size := by have := HG.out.size; simp at this; omega
    refine ⟨⟨⟨_, (blk_set ((HL3.out B (by omega)).trans HX2.out) 0 _), ?_⟩, ?_, ?_, ?_⟩, ?_, ?_⟩
    · have e : objCells ((objs cs).take (k + 1)) = objCells ((objs cs).take k) ++ o.cells := by
        rw [List.take_add_one, HOB.out]; simp [objCells]
      rw [e]
      exact ownsRow_setCell_below HO1.out (a := ⟨B, 0, none⟩) (by simp) _
    · rw [Below.heap_setCell _ _ _ _ (by simp), HL3.out _ (by omega)]; exact HP2.out
    · exact HA2.out.same (by rw [Below.heap_setCell _ _ _ _ (by simp; omega), HL3.out _ (by omega)]) (by rw [Below.heap_setCell _ _ _ _ (by simp; omega), HL3.out _ (by omega)])
    · refine Below.setCell ?_ (p := ⟨B, 0, none⟩) (Nat.le_refl _) _
      exact (HB2.out.alloc (by omega) _).grown HG.out (by simp; omega) (fun r hr => by have := HW2.out.lt r hr; omega)
    · rw [Below.heap_setCell _ _ _ _ (by simp; omega), HL3.out _ (by omega)]
    · rw [Below.heap_setCell _ _ _ _ (by simp), HL3.out _ (by omega)]
  case hdone =>
    rintro W ⟨⟨v, h1, h2⟩, h3, h4, h5⟩ hK
    have hc := cell_blk h1 0
    have hl : (objs cs).length = (places cs).length := by simp [objs]
    rw [List.take_of_length_le (by omega)] at h2
    gi_wp2
    refine ⟨by simp, .inl ⟨_, _, rfl, run_takeDeferred hK, ?_⟩⟩
    refine ⟨_, results_tmp rfl _ _ _, v, rfl, ?_, ?_⟩
    · rw [← HBw.out, hl]
      exact ownsRow_base (ownsRow_putObj h2 _ hK rfl) (by omega)
    · rw [← HBw.out]
      exact h5.trans (belowK_b (w := w) (by rw [← HBw.out]; exact Nat.le_refl _) W _ _ _ (by rw [HSZ.out, ← HBw.out]; omega) hK rfl rfl)
end Go.Proofs.YtdgfnlagbdmniaaDoor.Pl
