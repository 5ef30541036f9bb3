/- The pool: a nil pool's methods; the example of the chapter. -/
import Derived.Test.YtdgfnlagbdmniaaDoorPd
namespace Go.Proofs.YtdgfnlagbdmniaaDoor.Pl
open Go.RowKit

set_option maxRecDepth 100000 in
theorem find_nil (n : Int) (w : World) : Calls Tryd.prog 17 #[.pointer none, .int .i64 n] w fun e w' => e = .returned (.tuple #[.agg #[.int .i64 0, .int .i64 0, .int .i64 0, .bool false], .int .i64 1]) ∧ Below w.heap.size w w' := by
  go_enter Tryd.func17, Tryd.ntmps17
  go_wp2
  exact bodyPost_ret (v := .tuple #[.agg #[.int .i64 0, .int .i64 0, .int .i64 0, .bool false], .int .i64 1]) (by simp [results, Tryd.results17, go_sem]) rfl
    ⟨rfl, by repeat (first | exact Below.refl _ _ | (refine Below.setCell ?_ (by simp) _) | (refine Below.alloc ?_ (by simp) _))⟩
set_option maxRecDepth 100000 in
theorem mark_nil (n : Int) (w : World) : Calls Tryd.prog 23 #[.pointer none, .int .i64 n] w fun e w' => e = .returned (.tuple #[.bool false, .int .i64 1]) ∧ w = w' := by
  go_enter Tryd.func23, Tryd.ntmps23
  go_wp2
  go_ret2
  exact ⟨rfl, rfl⟩
set_option maxRecDepth 100000 in
theorem free_nil (n : Int) (w : World) : Calls Tryd.prog 18 #[.pointer none, .int .i64 n] w fun e w' => e = .returned (.int .i64 1) ∧ w = w' := by
  go_enter Tryd.func18, Tryd.ntmps18
  go_wp2
  go_ret
  exact ⟨rfl, rfl⟩
set_option maxRecDepth 100000 in
theorem objects_nil (w : World) : Calls Tryd.prog 15 #[.pointer none] w fun e w' => e = .returned (.slice none 0 0) ∧ Below w.heap.size w w' := by
  go_enter Tryd.func15, Tryd.ntmps15
  go_wp2
  go_ret
  exact ⟨rfl, by repeat (first | exact Below.refl _ _ | (refine Below.alloc ?_ (by simp) _))⟩
set_option maxRecDepth 100000 in
theorem sweep_nil (w : World) : Calls Tryd.prog 24 #[.pointer none] w fun e w' => e = .returned (.slice none 0 0) ∧ Below w.heap.size w w' := by
  go_enter Tryd.func24, Tryd.ntmps24
  go_wp2
  go_ret
  exact ⟨rfl, by repeat (first | exact Below.refl _ _ | (refine Below.alloc ?_ (by simp) _))⟩

def cs0 : List Chunk := List.replicate 4 Chunk.zero
def cs1 : List Chunk := cs0.set 0 (slotC (newC 0) 0 20)
def cs2 : List Chunk := cs1.set 1 (slotC (newC 1) 0 40)
def cs3 : List Chunk := cs2.set 0 (slotC (slotC (newC 0) 0 20) 1 30)
def cs4 : List Chunk := largeAt cs3 2 2 1500

theorem awake1 {a b : Nat} {w w' : World} {e : Ending} (h : AllocPost cs0 20 a b w e w') : e = .returned (.tuple #[.int .i64 0, .int .i64 0]) ∧ At w' a b cs1 ∧ w.grownBy w' (some b) := by
  unfold AllocPost at h
  rw [if_neg (by decide), if_neg (by decide)] at h
  rcases h with ⟨i, c, h1, _⟩ | ⟨i, h1, h2, rfl, h4, h5⟩ | ⟨h1, h2, _⟩
  · exact absurd (h1.symm.trans (show firstRoom cs0 (cls 20) = none by decide +kernel)) (by simp)
  · obtain rfl : i = 0 := by have := h2.symm.trans (show freeOf cs0 cs0.length = 0 by decide +kernel); omega
    exact ⟨rfl, h4, h5⟩
  · exact absurd (h2.symm.trans (show freeOf cs0 cs0.length = 0 by decide +kernel)) (by decide)
theorem awake2 {a b : Nat} {w w' : World} {e : Ending} (h : AllocPost cs1 40 a b w e w') : e = .returned (.tuple #[.int .i64 1024, .int .i64 0]) ∧ At w' a b cs2 ∧ w.grownBy w' (some b) := by
  unfold AllocPost at h
  rw [if_neg (by decide), if_neg (by decide)] at h
  rcases h with ⟨i, c, h1, _⟩ | ⟨i, h1, h2, rfl, h4, h5⟩ | ⟨h1, h2, _⟩
  · exact absurd (h1.symm.trans (show firstRoom cs1 (cls 40) = none by decide +kernel)) (by simp)
  · obtain rfl : i = 1 := by have := h2.symm.trans (show freeOf cs1 cs1.length = 1 by decide +kernel); omega
    exact ⟨rfl, h4, h5⟩
  · exact absurd (h2.symm.trans (show freeOf cs1 cs1.length = 1 by decide +kernel)) (by decide)
theorem awake3 {a b : Nat} {w w' : World} {e : Ending} (h : AllocPost cs2 30 a b w e w') : e = .returned (.tuple #[.int .i64 32, .int .i64 0]) ∧ At w' a b cs3 ∧ w.grownBy w' (some b) := by
  unfold AllocPost at h
  rw [if_neg (by decide), if_neg (by decide)] at h
  rcases h with ⟨i, c, h1, h2, rfl, h4, h5⟩ | ⟨i, h1, h2, _⟩ | ⟨h1, h2, _⟩
  · obtain rfl : i = 0 := Option.some.inj (h1.symm.trans (show firstRoom cs2 (cls 30) = some 0 by decide +kernel))
    obtain rfl : c = slotC (newC 0) 0 20 := Option.some.inj (h2.symm.trans rfl)
    exact ⟨rfl, h4, h5⟩
  · exact absurd (h1.symm.trans (show firstRoom cs2 (cls 30) = some 0 by decide +kernel)) (by simp)
  · exact absurd (h1.symm.trans (show firstRoom cs2 (cls 30) = some 0 by decide +kernel)) (by simp)
theorem awake4 {a b : Nat} {w w' : World} {e : Ending} (h : AllocPost cs3 1500 a b w e w') : e = .returned (.tuple #[.int .i64 2048, .int .i64 0]) ∧ At w' a b cs4 ∧ w.grownBy w' (some b) := by
  unfold AllocPost at h
  rw [if_neg (by decide), if_pos (by decide)] at h
  rcases h with ⟨i, h1, rfl, h4, h5⟩ | ⟨h1, _⟩
  · obtain rfl : i = 2 := Option.some.inj (h1.symm.trans (show findRun cs3 2 = some 2 by decide +kernel))
    exact ⟨rfl, h4, h5⟩
  · exact absurd (h1.symm.trans (show findRun cs3 2 = some 2 by decide +kernel)) (by simp)

theorem Wf.zero : Wf Chunk.zero := ⟨rfl, by decide, by decide, by decide⟩
theorem wfB_of {cs : List Chunk} (h : cs.all (fun c => c.sizes.length == 32 && decide (c.cls ≤ 4) && decide (c.taken < 2 ^ (32 / 2 ^ c.cls)) && decide (c.marks < 4294967296)) = true) : ∀ c ∈ cs, Wf c := by
  intro c hc
  have := List.all_eq_true.1 h c hc
  simp only [Bool.and_eq_true, beq_iff_eq, decide_eq_true_eq] at this
  exact ⟨this.1.1.1, this.1.1.2, this.1.2, this.2⟩
theorem wf0 : ∀ c ∈ cs0, Wf c := wfB_of (by decide +kernel)
theorem wf1 : ∀ c ∈ cs1, Wf c := wfB_of (by decide +kernel)
theorem wf2 : ∀ c ∈ cs2, Wf c := wfB_of (by decide +kernel)
theorem wf3 : ∀ c ∈ cs3, Wf c := wfB_of (by decide +kernel)
theorem wf4 : ∀ c ∈ cs4, c.what ≤ 3 ∧ c.cls ≤ 4 := by
  intro c hc
  have := List.all_eq_true.1 (show cs4.all (fun c => decide (c.what ≤ 3) && decide (c.cls ≤ 4)) = true by decide +kernel) c hc
  simpa using this
theorem map4 : mapStr cs4 = ⟨#[48, 49, 76, 108]⟩ := by
  unfold mapStr
  congr 1

set_option maxRecDepth 100000 in
set_option maxHeartbeats 1000000 in
theorem awake_at (w : World) (hT : Tab w) : Calls Tryd.prog 9 #[] w fun e w' => e = .returned (.bool true) ∧ Below w.heap.size w w' := by
  have HT := Lib.hid hT; clear hT
  go_enter Tryd.func9, Tryd.ntmps9
  go_wp2_with fail
  refine (new_ok 4 (by decide) (by decide) _).mono ?_
  rintro e w1 ⟨a, b, rfl, ha, hb, hA, hg⟩
  have hw := HT.out.lt
  have HA : Hid (At w1 a b cs0) := hA; clear hA
  have HB : Hid (Below w.heap.size w w1) := fr_below (fr_none hg (some b)) hb (Nat.le_refl _); clear hg
  have HT1 : Hid (Tab w1) := HT.out.below HB.out hw
  have HL : Hid (w.heap.size ≤ b) := hb
  have HBP : Hid (0 < b) := by show _ < _; omega
  clear ha hb hw
  go_wp2_with fail
  refine (alloc_at HA.out wf0 HT1.out HBP.out 20).mono ?_
  rintro e w2 hP
  obtain ⟨rfl, hA, hg⟩ := awake1 hP
  clear hP
  have HA2 := Lib.hid hA; clear hA
  have HT2 := Lib.hid (HT1.out.grown hg HBP.out)
  have HB2 : Hid (Below w.heap.size w w2) := HB.out.trans (fr_below hg HL.out HB.out.size); clear hg
  go_wp2_with fail
  refine (alloc_at HA2.out wf1 HT2.out HBP.out 40).mono ?_
  rintro e w3 hP
  obtain ⟨rfl, hA, hg⟩ := awake2 hP
  clear hP
  have HA3 := Lib.hid hA; clear hA
  have HT3 := Lib.hid (HT2.out.grown hg HBP.out)
  have HB3 : Hid (Below w.heap.size w w3) := HB2.out.trans (fr_below hg HL.out HB2.out.size); clear hg
  go_wp2_with fail
  refine (alloc_at HA3.out wf2 HT3.out HBP.out 30).mono ?_
  rintro e w4 hP
  obtain ⟨rfl, hA, hg⟩ := awake3 hP
  clear hP
  have HA4 := Lib.hid hA; clear hA
  have HT4 := Lib.hid (HT3.out.grown hg HBP.out)
  have HB4 : Hid (Below w.heap.size w w4) := HB3.out.trans (fr_below hg HL.out HB3.out.size); clear hg
  go_wp2_with fail
  refine (alloc_at HA4.out wf3 HT4.out HBP.out 1500).mono ?_
  rintro e w5 hP
  obtain ⟨rfl, hA, hg⟩ := awake4 hP
  clear hP
  have HA5 := Lib.hid hA; clear hA
  have HB5 : Hid (Below w.heap.size w w5) := HB4.out.trans (fr_below hg HL.out HB4.out.size); clear hg
  go_wp2_with fail
  refine (map_walk HA5.out wf4).mono ?_
  rintro e w6 ⟨rfl, hb6⟩
  rw [map4]
  have HB6 : Hid (Below w.heap.size w w6) := HB5.out.trans (hb6.mono HB5.out.size); clear hb6
  go_wp2_with fail
  go_ret
  exact ⟨rfl, HB6.out⟩

end Go.Proofs.YtdgfnlagbdmniaaDoor.Pl
