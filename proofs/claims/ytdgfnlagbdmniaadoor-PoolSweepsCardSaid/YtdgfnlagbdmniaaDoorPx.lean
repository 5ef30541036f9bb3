/- The pool: Find, Free, Mark. -/
import Derived.Test.YtdgfnlagbdmniaaDoorPw
namespace Go.Proofs.YtdgfnlagbdmniaaDoor.Pl
open Go.RowKit

set_option maxRecDepth 100000 in
set_option maxHeartbeats 1000000 in
theorem find_out {w : World} {a b : Nat} {cs : List Chunk} (h : At w a b cs) (ad : Int) (hout : ad < 0 ∨ (cs.length * 1024 : Nat) ≤ ad) :
    Calls Tryd.prog 33 #[.pointer (some ⟨a, 0, none⟩), .int .i64 ad] w fun e w' => e = .returned (.tuple #[pv 0 0, .bool false]) ∧ Below w.heap.size w w' := by
  have hp := h.cell_p
  have hfew := h.few
  have ha := h.lt_a
  clear h
  generalize cs.length = N at *
  by_cases h1 : ad < 0
  · have e1 : decide (ad < 0) = true := decide_eq_true h1
    clear hout
    go_enter Tryd.func33, Tryd.ntmps33
    go_wp2_with fail
    exact bodyPost_ret (v := .tuple #[pv 0 0, .bool false]) (by simp [results, Tryd.results33, go_sem, pv]) rfl
      ⟨rfl, by repeat (first | exact Below.refl _ _ | apply Below.drew | (refine Below.setCell ?_ (by simp) _) | (refine Below.alloc ?_ (by simp) _))⟩
  · have e1 : decide (ad < 0) = false := decide_eq_false h1
    have e2 : decide ((N : Int) * 1024 ≤ ad) = true := decide_eq_true (by omega)
    clear hout
    go_enter Tryd.func33, Tryd.ntmps33
    go_wp2_with fail
    exact bodyPost_ret (v := .tuple #[pv 0 0, .bool false]) (by simp [results, Tryd.results33, go_sem, pv]) rfl
      ⟨rfl, by repeat (first | exact Below.refl _ _ | apply Below.drew | (refine Below.setCell ?_ (by simp) _) | (refine Below.alloc ?_ (by simp) _))⟩

theorem obj_in {cs : List Chunk} (h : Good cs) {o : PObj} (ho : o ∈ objs cs) : OOk o ∧ o.at_ + o.room ≤ cs.length * 1024 := by
  have hr := (good_objs h 0).1
  rw [← objs_eq] at hr
  obtain ⟨_, h2, h3⟩ := hr o ho
  exact ⟨h3, by simpa using h2⟩
theorem pair_any {l : List PObj} (h : Apart l) {x y : PObj} (hx : x ∈ l) (hy : y ∈ l) (hne : x ≠ y) : x.at_ + x.room ≤ y.at_ ∨ y.at_ + y.room ≤ x.at_ := by
  induction l with
  | nil => cases hx
  | cons z l ih =>
    obtain ⟨h1, h2⟩ := List.pairwise_cons.1 h
    rcases List.mem_cons.1 hx with rfl | hx' <;> rcases List.mem_cons.1 hy with rfl | hy'
    · exact absurd rfl hne
    · exact .inl (h1 _ hy')
    · exact .inr (h1 _ hx')
    · exact ih h2 hx' hy'
theorem obj_uniq {cs : List Chunk} (h : Good cs) {o p : PObj} (ho : o ∈ objs cs) (hp : p ∈ objs cs) {ad : Int} (h1 : (o.at_ : Int) ≤ ad) (h2 : ad < o.at_ + o.room) (h3 : (p.at_ : Int) ≤ ad) (h4 : ad < p.at_ + p.room) : o = p := by
  have ha := (good_objs h 0).2
  rw [← objs_eq] at ha
  apply Classical.byContradiction
  intro hne
  have hf : ∀ x ∈ objs cs, ∀ y ∈ objs cs, x ≠ y → (x.at_ + x.room ≤ y.at_ ∨ y.at_ + y.room ≤ x.at_) := by
    intro x hx y hy hxy
    exact pair_any ha hx hy hxy
  rcases hf o ho p hp hne with h | h <;> omega

/-- (*Pool).find -/
theorem find_at {w : World} {a b : Nat} {cs : List Chunk} (h : At w a b cs) (hg : Good cs) (ad : Int) :
    Calls Tryd.prog 33 #[.pointer (some ⟨a, 0, none⟩), .int .i64 ad] w fun e w' => FindL cs ad e ∧ Below w.heap.size w w' := by
  by_cases hin : 0 ≤ ad ∧ ad < (cs.length * 1024 : Nat)
  · obtain ⟨n, rfl⟩ : ∃ n : Nat, ad = n := ⟨ad.toNat, by omega⟩
    obtain ⟨hd, c, h1, h2, h3, h4⟩ := head_of hg (n / 1024) (by omega)
    have hfew := h.few
    refine (find_walk h n hd c (by omega) h1 h4 h2 h3 (hg.rd c (List.mem_of_getElem? h2)) ?_).mono fun e w' hp => ⟨find_good hg h1 h2 h3 h4 hp.1, hp.2⟩
    intro s hs hs32
    have hlt := (List.getElem?_eq_some_iff.1 h2).1
    rcases hs with hw | ⟨hw, hb⟩
    · obtain ⟨size, many, m, a1, a2, a3, rfl, a5, _⟩ := pl_head hg h2 hw
      have e1 : objOf (headM size many m) hd s = ⟨hd * 1024, size, many * 1024, m⟩ := rfl
      rw [e1]
      exact ⟨by simp only; omega, by simp only; omega, by simp only; omega⟩
    · have hso := pl_slots hg h2 hw
      obtain ⟨z1, z2, _⟩ := hso.szs s hb
      rw [obj_slot hw]
      have hc4 := hso.cls
      have hp : 2 ^ c.cls ≤ 2 ^ 4 := Nat.pow_le_pow_right (by decide) hc4
      have hm : s * (32 * 2 ^ c.cls) ≤ 32 * (32 * 16) := Nat.mul_le_mul (by omega) (by omega)
      exact ⟨by simp only; omega, by simp only; omega, by simp only; omega⟩
  · refine (find_out h ad (by omega)).mono fun e w' hp => ⟨.inr ⟨fun o ho hc => ?_, 0, 0, hp.1⟩, hp.2⟩
    obtain ⟨ok, hr⟩ := obj_in hg ho
    have := ok.fit
    omega

theorem pl_object {w : World} {a b : Nat} {cs : List Chunk} (h : At w a b cs) (hg : Good cs) {i s : Nat} {c : Chunk} (hp : IsPl cs i s c) :
    Calls Tryd.prog 34 #[.pointer (some ⟨a, 0, none⟩), pv i s] w fun e w' => e = .returned (objOf c i s).val ∧ Below w.heap.size w w' := by
  have hr := hg.rd c (List.mem_of_getElem? hp.1)
  have hs : s < 32 := by
    rcases hp.2 with ⟨_, rfl⟩ | ⟨_, h, _⟩
    · decide
    · exact Nat.lt_of_lt_of_le h (Nat.div_le_self _ _)
  exact object_at h i s c hp.1 hr.cls hs hr.marks hr.many

theorem pl_remove {w : World} {a b : Nat} {cs : List Chunk} (h : At w a b cs) (hg : Good cs) {i s : Nat} {c : Chunk} (hp : IsPl cs i s c) :
    Calls Tryd.prog 35 #[.pointer (some ⟨a, 0, none⟩), pv i s] w fun e w' => e = .returned (.tuple #[]) ∧ At w' a b (removeC cs i s c) ∧ w.grownBy w' (some b) := by
  have hr := hg.rd c (List.mem_of_getElem? hp.1)
  rcases hp.2 with ⟨hw, rfl⟩ | ⟨hw, hs, _⟩
  · obtain ⟨size, many, m, _, _, _, rfl, a5, _⟩ := pl_head hg hp.1 hw
    have e : removeC cs i 0 (headM size many m) = clears cs i (headM size many m).many := by unfold removeC; rw [if_pos hw]
    rw [e]
    exact remove_head h i 0 _ hp.1 hw a5
  · have e : removeC cs i s c = cs.set i (leftC c s) := by unfold removeC; rw [if_neg (by omega)]
    rw [e]
    exact remove_slot h i s c hp.1 (by omega) (Nat.lt_of_lt_of_le hs (Nat.div_le_self _ _)) hr.taken

theorem pl_mark {w : World} {a b : Nat} {cs : List Chunk} (h : At w a b cs) (hg : Good cs) {i s : Nat} {c : Chunk} (hp : IsPl cs i s c) (m : Bool) :
    Calls Tryd.prog 37 #[.pointer (some ⟨a, 0, none⟩), pv i s, .bool m] w fun e w' => e = .returned (.tuple #[]) ∧ At w' a b (setMarkC cs i s c m) ∧ w.grownBy w' (some b) := by
  have hr := hg.rd c (List.mem_of_getElem? hp.1)
  rcases hp.2 with ⟨hw, rfl⟩ | ⟨hw, hs, _⟩
  · have e : setMarkC cs i 0 c m = cs.set i { c with marked := m } := by unfold setMarkC; rw [if_pos hw]
    rw [e]
    exact setMark_head h i 0 m c hp.1 hw
  · have e : setMarkC cs i s c m = cs.set i (markC c s m) := by unfold setMarkC; rw [if_neg (by omega)]
    rw [e]
    exact setMark_slot h i s m c hp.1 (by omega) (Nat.lt_of_lt_of_le hs (Nat.div_le_self _ _)) hr.marks

def FindPost (cs : List Chunk) (ad : Int) (e : Ending) : Prop :=
  (∃ o, o ∈ objs cs ∧ (o.at_ : Int) ≤ ad ∧ ad < o.at_ + o.size ∧ e = .returned (.tuple #[o.val, .int .i64 0])) ∨
  ((∀ o ∈ objs cs, ¬ ((o.at_ : Int) ≤ ad ∧ ad < o.at_ + o.size)) ∧ e = .returned (.tuple #[.agg #[.int .i64 0, .int .i64 0, .int .i64 0, .bool false], .int .i64 5]))

set_option maxRecDepth 100000 in
set_option maxHeartbeats 1000000 in
/-- (*Pool).Find -/
theorem Find_at {w : World} {a b : Nat} {cs : List Chunk} (h : At w a b cs) (hg : Good cs) (ad : Int) :
    Calls Tryd.prog 17 #[.pointer (some ⟨a, 0, none⟩), .int .i64 ad] w fun e w' => FindPost cs ad e ∧ Below w.heap.size w w' := by
  have HA := Lib.hid h; clear h
  have HG := Lib.hid hg; clear hg
  go_enter Tryd.func17, Tryd.ntmps17
  go_wp2_with fail
  obtain ⟨W0, hW0⟩ : ∃ W0, W0 = w.alloc (Obj.cells #[Value.int IntKind.i64 0, Value.int IntKind.i64 0, Value.int IntKind.i64 0, Value.bool false] 40) := ⟨_, rfl⟩
  rw [← hW0]
  obtain ⟨B, hB⟩ : ∃ B, B = w.heap.size := ⟨_, rfl⟩
  have HA0 : Hid (At W0 a b cs) := by rw [hW0]; exact HA.out.alloc _
  have HX0 : Hid (W0.heap[B]? = some (.cells #[Value.int IntKind.i64 0, Value.int IntKind.i64 0, Value.int IntKind.i64 0, Value.bool false] 40 (0, 0))) := by rw [hW0, hB]; exact (MapKept.heap_alloc _ _).1
  have HB0 : Hid (Below B w W0) := by rw [hW0, hB]; exact (Below.refl _ _).alloc (Nat.le_refl _) _
  have HS0 : Hid (W0.heap.size = B + 1) := by show _ = _; rw [hW0, hB]; simp
  rw [← hB]
  have HBw := Lib.hid hB; clear hB hW0
  refine (find_at HA0.out HG.out ad).mono ?_
  rintro e W1 ⟨hf, hb1⟩
  have HX1 : Hid (W1.heap[B]? = some (.cells #[Value.int IntKind.i64 0, Value.int IntKind.i64 0, Value.int IntKind.i64 0, Value.bool false] 40 (0, 0))) := (hb1.block B (by rw [HS0.out]; omega)).trans HX0.out
  have HB1 : Hid (Below B w W1) := HB0.out.trans (hb1.mono (by rw [HS0.out]; omega))
  have HA1 : Hid (At W1 a b cs) := HA0.out.below hb1 HA0.out.lt_a HA0.out.lt_b
  have hsz : B < W1.heap.size := (Array.getElem?_eq_some_iff.1 HX1.out).1
  clear hb1
  have HX2 : Hid (∀ i s : Nat, (W1.alloc (.cells #[.int .i64 i, .int .i64 s] 83)).heap[B]? = some (.cells #[Value.int IntKind.i64 0, Value.int IntKind.i64 0, Value.int IntKind.i64 0, Value.bool false] 40 (0, 0))) := fun i s => (Below.heap_alloc _ _ _ hsz).trans HX1.out
  rcases hf with ⟨i, s, c, hp, h1, h2, rfl⟩ | ⟨hno, i, s, rfl⟩
  · have HF : Hid (FindPost cs ad (.returned (.tuple #[(objOf c i s).val, .int .i64 0]))) := .inl ⟨_, mem_objs.2 ⟨i, s, c, hp, rfl⟩, h1, h2, rfl⟩
    have HP := Lib.hid hp
    clear h1 h2 hp
    rw [pv]
    go_wp2_with fail
    refine (pl_object (HA1.out.alloc _) HG.out HP.out).mono ?_
    rintro e W3 ⟨rfl, hb3⟩
    have hx3 : W3.heap[B]? = some (.cells #[Value.int IntKind.i64 0, Value.int IntKind.i64 0, Value.int IntKind.i64 0, Value.bool false] 40 (0, 0)) := (hb3.block B (by simp; omega)).trans (HX2.out i s)
    have HB3 : Hid (Below B w W3) := (HB1.out.alloc (by omega) _).trans (hb3.mono (by simp; omega))
    have x0 : W3.cell? ⟨B, 0, none⟩ = some (.int .i64 0) := cell_blk hx3 0
    have x1 : W3.cell? ⟨B, 1, none⟩ = some (.int .i64 0) := cell_blk hx3 1
    have x2 : W3.cell? ⟨B, 2, none⟩ = some (.int .i64 0) := cell_blk hx3 2
    have x3 : W3.cell? ⟨B, 3, none⟩ = some (.bool false) := cell_blk hx3 3
    have xf : ∀ o, W3.frozen? ⟨B, o, none⟩ = false := frozen_blk hx3
    have HX3 := Lib.hid hx3
    clear hb3 hx3
    have HV : Hid ((objOf c i s).val = .agg #[.int .i64 (objOf c i s).at_, .int .i64 (objOf c i s).size, .int .i64 (objOf c i s).room, .bool (objOf c i s).marked]) := rfl
    generalize objOf c i s = o at *
    rw [HV.out]
    go_wp2_with fail
    have hrb := blk_set (blk_set (blk_set (blk_set HX3.out 0 (.int .i64 o.at_)) 1 (.int .i64 o.size)) 2 (.int .i64 o.room)) 3 (.bool o.marked)
    have r0 := cell_blk hrb 0
    have r1 := cell_blk hrb 1
    have r2 := cell_blk hrb 2
    have r3 := cell_blk hrb 3
    refine bodyPost_ret (v := .tuple #[o.val, .int .i64 0]) (by rw [HV.out]; simp [results, Tryd.results17, go_sem, r0, r1, r2, r3]) rfl ⟨HF.out, ?_⟩
    rw [← HBw.out]
    exact (((HB3.out.setCell (p := ⟨B, 0, none⟩) (by simp) _).setCell (p := ⟨B, 1, none⟩) (by simp) _).setCell (p := ⟨B, 2, none⟩) (by simp) _).setCell (p := ⟨B, 3, none⟩) (by simp) _
  · have HF : Hid (FindPost cs ad (.returned (.tuple #[.agg #[.int .i64 0, .int .i64 0, .int .i64 0, .bool false], .int .i64 5]))) := .inr ⟨hno, rfl⟩
    clear hno
    rw [pv]
    have hx2 := HX2.out i s
    have y0 : W1.cell? ⟨B, 0, none⟩ = some (.int .i64 0) := cell_blk HX1.out 0
    have y1 : W1.cell? ⟨B, 1, none⟩ = some (.int .i64 0) := cell_blk HX1.out 1
    have y2 : W1.cell? ⟨B, 2, none⟩ = some (.int .i64 0) := cell_blk HX1.out 2
    have y3 : W1.cell? ⟨B, 3, none⟩ = some (.bool false) := cell_blk HX1.out 3
    have yf : ∀ o, W1.frozen? ⟨B, o, none⟩ = false := frozen_blk HX1.out
    have HB2 : Hid (Below B w (W1.alloc (.cells #[.int .i64 i, .int .i64 s] 83))) := HB1.out.alloc (by omega) _
    go_wp2_with fail
    have hrb0 := blk_set (blk_set (blk_set (blk_set HX1.out 0 (.int .i64 0)) 1 (.int .i64 0)) 2 (.int .i64 0)) 3 (.bool false)
    have hrb := (Below.heap_alloc _ (.cells #[.int .i64 i, .int .i64 s] 83) _ (Array.getElem?_eq_some_iff.1 hrb0).1).trans hrb0
    have r0 := cell_blk hrb 0
    have r1 := cell_blk hrb 1
    have r2 := cell_blk hrb 2
    have r3 := cell_blk hrb 3
    refine bodyPost_ret (v := .tuple #[.agg #[.int .i64 0, .int .i64 0, .int .i64 0, .bool false], .int .i64 5]) (by simp [results, Tryd.results17, go_sem, r0, r1, r2, r3]) rfl ⟨HF.out, ?_⟩
    rw [← HBw.out]
    exact ((((HB1.out.setCell (p := ⟨B, 0, none⟩) (by simp) _).setCell (p := ⟨B, 1, none⟩) (by simp) _).setCell (p := ⟨B, 2, none⟩) (by simp) _).setCell (p := ⟨B, 3, none⟩) (by simp) _).alloc (by simp; omega) _

theorem fld0 (x y z u : Value) (w : World) : (Instr.field 40 (.agg #[x, y, z, u]) 0).run Tryd.prog w = .ok x w := by kernel_rfl
theorem fld3 (x y z u : Value) (w : World) : (Instr.field 40 (.agg #[x, y, z, u]) 3).run Tryd.prog w = .ok u w := by kernel_rfl

def FreePost (cs : List Chunk) (ad : Int) (a b : Nat) (w : World) (e : Ending) (w' : World) : Prop :=
  (∃ i s c, IsPl cs i s c ∧ ((objOf c i s).at_ : Int) = ad ∧ e = .returned (.int .i64 0) ∧ At w' a b (removeC cs i s c) ∧ w.grownBy w' (some b)) ∨
  ((∀ o ∈ objs cs, (o.at_ : Int) ≠ ad) ∧ e = .returned (.int .i64 5) ∧ At w' a b cs ∧ w.grownBy w' (some b))

set_option maxRecDepth 100000 in
set_option maxHeartbeats 1000000 in
/-- (*Pool).Free -/
theorem Free_at {w : World} {a b : Nat} {cs : List Chunk} (h : At w a b cs) (hg : Good cs) (ad : Int) :
    Calls Tryd.prog 18 #[.pointer (some ⟨a, 0, none⟩), .int .i64 ad] w (FreePost cs ad a b w) := by
  have HA := Lib.hid h; clear h
  have HG := Lib.hid hg; clear hg
  go_enter Tryd.func18, Tryd.ntmps18
  go_wp2_with fail
  refine (find_at HA.out HG.out ad).mono ?_
  rintro e W1 ⟨hf, hb1⟩
  have HA1 : Hid (At W1 a b cs) := HA.out.below hb1 HA.out.lt_a HA.out.lt_b
  have HG1 : Hid (w.grownBy W1 (some b)) := fr_of_below hb1 (Nat.le_refl _) _
  clear hb1
  rcases hf with ⟨i, s, c, hp, h1, h2, rfl⟩ | ⟨hno, i, s, rfl⟩
  · have HP := Lib.hid hp
    have hok := obj_in HG.out (pl_ok HG.out hp).2.2.2
    have HU : Hid ((objOf c i s).at_ ≠ ad → ∀ o ∈ objs cs, (o.at_ : Int) ≠ ad) := by
      intro hne o ho he
      have ok := (obj_in HG.out ho).1
      have e := obj_uniq HG.out (pl_ok HG.out hp).2.2.2 ho (ad := ad) h1 (by have := hok.1.fit; omega) (by omega) (by have := ok.fit; have := ok.pos; omega)
      rw [e] at hne; exact hne he
    clear h1 h2 hp hok
    rw [pv]
    go_wp2_with fail
    refine (pl_object (HA1.out.alloc _) HG.out HP.out).mono ?_
    rintro e W3 ⟨rfl, hb3⟩
    have HA3 : Hid (At W3 a b cs) := (HA1.out.alloc _).below hb3 (HA1.out.alloc _).lt_a (HA1.out.alloc _).lt_b
    have HG3 : Hid (w.grownBy W3 (some b)) := fr_trans (fr_alloc HG1.out _) (fr_of_below hb3 (Nat.le_refl _) _)
    have hx3 : W3.heap[W1.heap.size]? = some (.cells #[Value.int IntKind.i64 i, Value.int IntKind.i64 s] 83 (0, 0)) := (hb3.block _ (by simp)).trans (MapKept.heap_alloc _ _).1
    have x0 : W3.cell? ⟨W1.heap.size, 0, none⟩ = some (.int .i64 i) := cell_blk hx3 0
    have x1 : W3.cell? ⟨W1.heap.size, 1, none⟩ = some (.int .i64 s) := cell_blk hx3 1
    clear hb3 hx3
    have HV : Hid ((objOf c i s).val = .agg #[.int .i64 (objOf c i s).at_, .int .i64 (objOf c i s).size, .int .i64 (objOf c i s).room, .bool (objOf c i s).marked]) := rfl
    have HO : Hid ((objOf c i s).at_ = (objOf c i s).at_) := rfl
    by_cases he : ((objOf c i s).at_ : Int) = ad
    · have e1 : (((objOf c i s).at_ : Int) != ad) = false := by simp [he]
      have HE := Lib.hid he; clear he
      rw [HV.out]
      have hfl := fld0
      clear HU HV HO
      generalize hO : objOf c i s = o at *
      have HO := Lib.hid hO; clear hO
      go_wp2_with fail
      refine (pl_remove HA3.out HG.out HP.out).mono ?_
      rintro e W4 ⟨rfl, hA4, hg4⟩
      have HA4 := Lib.hid hA4; clear hA4
      have HG4 : Hid (w.grownBy W4 (some b)) := fr_trans HG3.out hg4
      clear hg4
      go_wp2_with fail
      go_ret
      exact .inl ⟨i, s, c, HP.out, by rw [HO.out]; exact HE.out, rfl, HA4.out, HG4.out⟩
    · have e1 : (((objOf c i s).at_ : Int) != ad) = true := by simp [he]
      have HE := Lib.hid (HU.out he); clear he
      rw [HV.out]
      have hfl := fld0
      clear HU HV HO
      generalize objOf c i s = o at *
      go_wp2_with fail
      go_ret
      exact .inr ⟨HE.out, rfl, HA3.out, HG3.out⟩
  · have HN : Hid (∀ o ∈ objs cs, (o.at_ : Int) ≠ ad) := by
      intro o ho he
      have ok := (obj_in HG.out ho).1
      exact hno o ho ⟨by omega, by have := ok.pos; omega⟩
    clear hno
    rw [pv]
    go_wp2_with fail
    go_ret
    exact .inr ⟨HN.out, rfl, HA1.out.alloc _, fr_alloc HG1.out _⟩

def MarkPost (cs : List Chunk) (ad : Int) (a b : Nat) (w : World) (e : Ending) (w' : World) : Prop :=
  (∃ i s c, IsPl cs i s c ∧ ((objOf c i s).at_ : Int) ≤ ad ∧ ad < (objOf c i s).at_ + (objOf c i s).size ∧ e = .returned (.tuple #[.bool (!(objOf c i s).marked), .int .i64 0]) ∧ At w' a b (setMarkC cs i s c true) ∧ w.grownBy w' (some b)) ∨
  ((∀ o ∈ objs cs, ¬ ((o.at_ : Int) ≤ ad ∧ ad < o.at_ + o.size)) ∧ e = .returned (.tuple #[.bool false, .int .i64 5]) ∧ At w' a b cs ∧ w.grownBy w' (some b))

set_option maxRecDepth 100000 in
set_option maxHeartbeats 1000000 in
/-- (*Pool).Mark -/
theorem Mark_at {w : World} {a b : Nat} {cs : List Chunk} (h : At w a b cs) (hg : Good cs) (ad : Int) :
    Calls Tryd.prog 23 #[.pointer (some ⟨a, 0, none⟩), .int .i64 ad] w (MarkPost cs ad a b w) := by
  have HA := Lib.hid h; clear h
  have HG := Lib.hid hg; clear hg
  go_enter Tryd.func23, Tryd.ntmps23
  go_wp2_with fail
  refine (find_at HA.out HG.out ad).mono ?_
  rintro e W1 ⟨hf, hb1⟩
  have HA1 : Hid (At W1 a b cs) := HA.out.below hb1 HA.out.lt_a HA.out.lt_b
  have HG1 : Hid (w.grownBy W1 (some b)) := fr_of_below hb1 (Nat.le_refl _) _
  clear hb1
  rcases hf with ⟨i, s, c, hp, h1, h2, rfl⟩ | ⟨hno, i, s, rfl⟩
  · have HP := Lib.hid hp
    have H1 := Lib.hid h1
    have H2 := Lib.hid h2
    clear h1 h2 hp
    rw [pv]
    go_wp2_with fail
    refine (pl_object (HA1.out.alloc _) HG.out HP.out).mono ?_
    rintro e W3 ⟨rfl, hb3⟩
    have HA3 : Hid (At W3 a b cs) := (HA1.out.alloc _).below hb3 (HA1.out.alloc _).lt_a (HA1.out.alloc _).lt_b
    have HG3 : Hid (w.grownBy W3 (some b)) := fr_trans (fr_alloc HG1.out _) (fr_of_below hb3 (Nat.le_refl _) _)
    have hx3 : W3.heap[W1.heap.size]? = some (.cells #[Value.int IntKind.i64 i, Value.int IntKind.i64 s] 83 (0, 0)) := (hb3.block _ (by simp)).trans (MapKept.heap_alloc _ _).1
    have x0 : W3.cell? ⟨W1.heap.size, 0, none⟩ = some (.int .i64 i) := cell_blk hx3 0
    have x1 : W3.cell? ⟨W1.heap.size, 1, none⟩ = some (.int .i64 s) := cell_blk hx3 1
    clear hb3 hx3
    have HV : Hid ((objOf c i s).val = .agg #[.int .i64 (objOf c i s).at_, .int .i64 (objOf c i s).size, .int .i64 (objOf c i s).room, .bool (objOf c i s).marked]) := rfl
    rw [HV.out]
    have hfl := fld3
    clear HV
    generalize hO : objOf c i s = o at *
    have HO := Lib.hid hO; clear hO
    go_wp2_with fail
    refine (pl_mark HA3.out HG.out HP.out true).mono ?_
    rintro e W4 ⟨rfl, hA4, hg4⟩
    have HA4 := Lib.hid hA4; clear hA4
    have HG4 : Hid (w.grownBy W4 (some b)) := fr_trans HG3.out hg4
    clear hg4
    go_wp2_with fail
    go_ret2
    exact .inl ⟨i, s, c, HP.out, by rw [HO.out]; exact H1.out, by rw [HO.out]; exact H2.out, by rw [HO.out]; rfl, HA4.out, HG4.out⟩
  · have HN := Lib.hid hno
    clear hno
    rw [pv]
    go_wp2_with fail
    go_ret2
    exact .inr ⟨HN.out, rfl, HA1.out.alloc _, fr_alloc HG1.out _⟩
end Go.Proofs.YtdgfnlagbdmniaaDoor.Pl
