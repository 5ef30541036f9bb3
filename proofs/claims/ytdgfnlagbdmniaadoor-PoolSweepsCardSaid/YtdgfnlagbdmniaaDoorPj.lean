/- The pool: Used. -/
import Derived.Test.YtdgfnlagbdmniaaDoorPi
namespace Go.Proofs.YtdgfnlagbdmniaaDoor.Pl
open Go.RowKit

def sumSize (l : List PObj) : Int := (l.map (·.size)).sum
def sumRoom (l : List PObj) : Int := (l.map fun o => (o.room : Int)).sum

theorem objCells_get (l : List PObj) (k j : Nat) (o : PObj) (hk : l[k]? = some o) (hj : j < 4) : (objCells l)[k * 4 + j]? = o.cells[j]? := by
  induction l generalizing k with
  | nil => simp at hk
  | cons d ds ih =>
    have hd : d.cells.length = 4 := rfl
    simp only [objCells, List.flatMap_cons] at ih ⊢
    cases k with
    | zero =>
      simp at hk; subst hk
      rw [List.getElem?_append_left (by omega)]; simp
    | succ k =>
      simp at hk
      rw [List.getElem?_append_right (by omega), hd, show (k + 1) * 4 + j - 4 = k * 4 + j by omega]
      exact ih k hk

theorem own_obj {W : World} {base : Nat} {v : Value} {l : List PObj} (h : W.ownsRow base 40 4 v l.length (objCells l)) (hne : l ≠ []) : ∃ g cap, v = .slice (some ⟨g, 0, none⟩) l.length cap ∧ base ≤ g ∧ g < W.heap.size ∧
    ∀ k o, l[k]? = some o → W.cell? ⟨g, k * 4, none⟩ = some (.int .i64 o.at_) ∧ W.cell? ⟨g, k * 4 + 1, none⟩ = some (.int .i64 o.size) ∧ W.cell? ⟨g, k * 4 + 2, none⟩ = some (.int .i64 o.room) ∧ W.cell? ⟨g, k * 4 + 3, none⟩ = some (.bool o.marked) := by
  rcases h.2 with ⟨_, h0⟩ | ⟨g, cap, cur, rfl, h1, h2, h3, h4, h5, h6⟩
  · exact absurd (List.eq_nil_of_length_eq_zero h0) hne
  · refine ⟨g, cap, rfl, h1, (Array.getElem?_eq_some_iff.1 h2).1, fun k o hk => ?_⟩
    have hc : ∀ j, j < 4 → W.cell? ⟨g, k * 4 + j, none⟩ = o.cells[j]? := by
      intro j hj
      have hg := objCells_get l k j o hk hj
      have hlt : k < l.length := (List.getElem?_eq_some_iff.1 hk).1
      rw [cell_blk h2, ← hg, ← h6, List.getElem?_take_of_lt (by omega)]
      simp
    exact ⟨hc 0 (by omega), hc 1 (by omega), hc 2 (by omega), hc 3 (by omega)⟩

theorem sumSize_snoc (l : List PObj) (k : Nat) (o : PObj) (h : l[k]? = some o) : sumSize (l.take (k + 1)) = sumSize (l.take k) + o.size := by
  rw [List.take_add_one, h]; simp [sumSize]
theorem sumRoom_snoc (l : List PObj) (k : Nat) (o : PObj) (h : l[k]? = some o) : sumRoom (l.take (k + 1)) = sumRoom (l.take k) + o.room := by
  rw [List.take_add_one, h]; simp [sumRoom]

/-- Objects whose numbers are small. -/
def Small (l : List PObj) : Prop := l.length ≤ 100000 ∧ ∀ o ∈ l, 0 ≤ o.size ∧ o.size ≤ 1000000 ∧ o.room ≤ 1000000

theorem sum_bd (l : List PObj) (h : Small l) : ∀ k, k ≤ l.length → 0 ≤ sumSize (l.take k) ∧ sumSize (l.take k) ≤ 1000000 * k ∧ 0 ≤ sumRoom (l.take k) ∧ sumRoom (l.take k) ≤ 1000000 * k := by
  intro k
  induction k with
  | zero => intro _; simp [sumSize, sumRoom]
  | succ k ih =>
    intro hk
    obtain ⟨a, b, c, d⟩ := ih (by omega)
    have he : l[k]? = some l[k] := by simp
    have := h.2 l[k] (List.getElem_mem _)
    rw [sumSize_snoc l k _ he, sumRoom_snoc l k _ he]
    omega

set_option maxRecDepth 100000 in
set_option maxHeartbeats 1000000 in
theorem used_at {w : World} {a b : Nat} {cs : List Chunk} (h : At w a b cs) (hrd : ∀ c ∈ cs, Rd c) (hS : Small (objs cs)) :
    Calls Tryd.prog 12 #[.pointer (some ⟨a, 0, none⟩)] w fun e w' => e = .returned (.tuple #[.int .i64 (objs cs).length, .int .i64 (sumSize (objs cs)), .int .i64 (sumRoom (objs cs))]) ∧ Below w.heap.size w w' := by
  have HO := Lib.hid (objects_at h hrd (by have := hS.1; simpa [objs] using this))
  clear h hrd
  generalize objs cs = l at *
  go_enter Tryd.func12, Tryd.ntmps12
  go_wp2_with fail
  refine HO.out.mono ?_
  rintro e w1 ⟨v, rfl, hown, hb1⟩
  have HB1 := Lib.hid hb1; clear hb1
  have hlen := hS.1
  have HS := Lib.hid hS; clear hS
  by_cases hne : l = []
  · subst hne
    have hv : v = .slice none 0 0 ∨ ∃ x c, v = .slice (some x) 0 c := by
      rcases hown.2 with ⟨rfl, _⟩ | ⟨g, cap, cur, rfl, _⟩
      · exact .inl rfl
      · exact .inr ⟨_, _, rfl⟩
    clear hown
    rcases hv with rfl | ⟨x, c, rfl⟩
    all_goals
      go_wp2_with fail
      go_loop [2, 3, 4, 10] (fun s2 s3 s4 s => s2 = .int .i64 0 ∧ s3 = .int .i64 0 ∧ s4 = .int .i64 0 ∧ s = .int .i64 0) (fun _ _ _ _ => 0)
      case atStart => exact ⟨rfl, rfl, rfl, rfl⟩
      case round =>
        obtain ⟨rfl, rfl, rfl, rfl⟩ := hrel
        go_wp2
        go_ret3
        exact ⟨rfl, HB1.out⟩
  · obtain ⟨g, cap, rfl, hg1, hg2, hcells⟩ := own_obj hown hne
    have HC := Lib.hid hcells; clear hcells hown
    go_wp2_with fail
    go_loopw [2, 3, 4, 10] (fun s2 s3 s4 s10 wr => ∃ k : Nat, k ≤ l.length ∧ s10 = .int .i64 k ∧ s2 = .int .i64 k ∧ s3 = .int .i64 (sumSize (l.take k)) ∧ s4 = .int .i64 (sumRoom (l.take k)) ∧ Below w1.heap.size w1 wr) (fun _ _ _ s10 _ => l.length - (intOf s10).toNat)
    case atStart => exact ⟨0, by omega, rfl, rfl, rfl, rfl, Below.refl _ _⟩
    case round =>
      obtain ⟨k, hk, rfl, rfl, rfl, rfl, hbel⟩ := hrel
      have HBL := Lib.hid hbel; clear hbel
      obtain ⟨s1, s2, s3, s4⟩ := sum_bd l HS.out k hk
      have HSS := Lib.hid (sumSize_snoc l k)
      have HSR := Lib.hid (sumRoom_snoc l k)
      have HFS := Lib.hid (fun h : k = l.length => show sumSize (l.take k) = sumSize l by rw [h, List.take_length])
      have HFR := Lib.hid (fun h : k = l.length => show sumRoom (l.take k) = sumRoom l by rw [h, List.take_length])
      generalize sumSize (l.take k) = SS at *
      generalize sumRoom (l.take k) = SR at *
      by_cases hlt : k < l.length
      · obtain ⟨o, ho⟩ : ∃ o, l[k]? = some o := ⟨l[k], by simp⟩
        obtain ⟨c0, c1, c2, c3⟩ := HC.out k o ho
        have d0 : wr.cell? ⟨g, k * 4, none⟩ = some (.int .i64 o.at_) := (HBL.out.cell (p := ⟨g, k * 4, none⟩) hg2).trans c0
        have d1 : wr.cell? ⟨g, k * 4 + 1, none⟩ = some (.int .i64 o.size) := (HBL.out.cell (p := ⟨g, k * 4 + 1, none⟩) hg2).trans c1
        have d2 : wr.cell? ⟨g, k * 4 + 2, none⟩ = some (.int .i64 o.room) := (HBL.out.cell (p := ⟨g, k * 4 + 2, none⟩) hg2).trans c2
        have d3 : wr.cell? ⟨g, k * 4 + 3, none⟩ = some (.bool o.marked) := (HBL.out.cell (p := ⟨g, k * 4 + 3, none⟩) hg2).trans c3
        obtain ⟨b0, b1, b2⟩ := HS.out.2 o (List.mem_of_getElem? ho)
        have HSS' := Lib.hid (HSS.out o ho)
        have HSR' := Lib.hid (HSR.out o ho)
        clear c0 c1 c2 c3 ho
        go_wp2_with fail
        go_region
        all_goals go_wp2
        go_roundw
        case rel => exact ⟨k + 1, by omega, by go_num, by go_num, by rw [HSS'.out], by rw [HSR'.out], (HBL.out.alloc HBL.out.size _).drew⟩
        case measure => simp [intOf]; omega
      · obtain rfl : k = l.length := by omega
        obtain rfl := HFS.out rfl
        obtain rfl := HFR.out rfl
        go_wp2
        go_ret3
        exact ⟨rfl, HB1.out.trans (HBL.out.mono HB1.out.size)⟩
end Go.Proofs.YtdgfnlagbdmniaaDoor.Pl
