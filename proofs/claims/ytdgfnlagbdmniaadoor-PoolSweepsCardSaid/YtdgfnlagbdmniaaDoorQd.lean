/- Lists of objects in memory: slices.Equal, slices.ContainsFunc. -/
import Derived.Test.YtdgfnlagbdmniaaDoorQa
namespace Go.Proofs.YtdgfnlagbdmniaaDoor.Pl
open Go.RowKit

/-- A list of objects in memory. -/
def ObjS (w : World) (v : Value) (l : List PObj) : Prop :=
  ∃ p cap, v = .slice p l.length cap ∧ (l = [] ∨ ∃ g, p = some ⟨g, 0, none⟩ ∧ g < w.heap.size ∧
    ∀ k o, l[k]? = some o → w.cell? ⟨g, k * 4, none⟩ = some (.int .i64 o.at_) ∧ w.cell? ⟨g, k * 4 + 1, none⟩ = some (.int .i64 o.size) ∧ w.cell? ⟨g, k * 4 + 2, none⟩ = some (.int .i64 o.room) ∧ w.cell? ⟨g, k * 4 + 3, none⟩ = some (.bool o.marked))
theorem objS_of {W : World} {base : Nat} {v : Value} {l : List PObj} (h : W.ownsRow base 40 4 v l.length (objCells l)) : ObjS W v l := by
  by_cases hne : l = []
  · subst hne
    rcases own_empty h with rfl | ⟨y, c, rfl⟩
    · exact ⟨_, _, rfl, .inl rfl⟩
    · exact ⟨_, _, rfl, .inl rfl⟩
  · obtain ⟨g, cap, rfl, _, h2, h3⟩ := own_obj h hne
    exact ⟨_, _, rfl, .inr ⟨g, rfl, h2, h3⟩⟩
theorem ObjS.below {w w' : World} {v : Value} {l : List PObj} (h : ObjS w v l) (hb : Below w.heap.size w w') : ObjS w' v l := by
  obtain ⟨p, cap, rfl, h⟩ := h
  refine ⟨p, cap, rfl, ?_⟩
  rcases h with h | ⟨g, rfl, h2, h3⟩
  · exact .inl h
  · refine .inr ⟨g, rfl, Nat.lt_of_lt_of_le h2 hb.size, fun k o ho => ?_⟩
    obtain ⟨a, b, c, d⟩ := h3 k o ho
    exact ⟨(hb.cell (p := ⟨g, k * 4, none⟩) h2).trans a, (hb.cell (p := ⟨g, k * 4 + 1, none⟩) h2).trans b, (hb.cell (p := ⟨g, k * 4 + 2, none⟩) h2).trans c, (hb.cell (p := ⟨g, k * 4 + 3, none⟩) h2).trans d⟩

theorem drewN_drewN (w : World) (r n : Nat) : (w.drewN r).drewN n = w.drewN (r + n) := by simp [World.drewN, Nat.add_assoc]

set_option maxRecDepth 100000 in
set_option maxHeartbeats 1000000 in
theorem equal_nil (p q : Option Addr) (c d : Nat) (w : World) : Calls Tryd.prog 21 #[.slice p 0 c, .slice q 0 d] w fun e w' => e = .returned (.bool true) ∧ Below w.heap.size w w' := by
  cases p <;> cases q
  all_goals
    go_enter Tryd.func21, Tryd.ntmps21
    go_wp2_with fail
    go_loop [13] (fun s => s = .int .i64 0) (fun _ => 0)
    case atStart => rfl
    case round =>
      obtain rfl := hrel
      go_wp2
      go_ret
      exact ⟨rfl, Below.refl _ _⟩

set_option maxRecDepth 100000 in
set_option maxHeartbeats 1000000 in
theorem equal_some (l : List PObj) (hl : l.length ≤ 100000) (g q c d : Nat) (w : World)
    (h1 : ∀ k o, l[k]? = some o → w.cell? ⟨g, k * 4, none⟩ = some (.int .i64 o.at_) ∧ w.cell? ⟨g, k * 4 + 1, none⟩ = some (.int .i64 o.size) ∧ w.cell? ⟨g, k * 4 + 2, none⟩ = some (.int .i64 o.room) ∧ w.cell? ⟨g, k * 4 + 3, none⟩ = some (.bool o.marked))
    (h2 : ∀ k o, l[k]? = some o → w.cell? ⟨q, k * 4, none⟩ = some (.int .i64 o.at_) ∧ w.cell? ⟨q, k * 4 + 1, none⟩ = some (.int .i64 o.size) ∧ w.cell? ⟨q, k * 4 + 2, none⟩ = some (.int .i64 o.room) ∧ w.cell? ⟨q, k * 4 + 3, none⟩ = some (.bool o.marked)) :
    Calls Tryd.prog 21 #[.slice (some ⟨g, 0, none⟩) l.length c, .slice (some ⟨q, 0, none⟩) l.length d] w fun e w' => e = .returned (.bool true) ∧ Below w.heap.size w w' := by
  have H1 := Lib.hid h1; clear h1
  have H2 := Lib.hid h2; clear h2
  generalize hn : l.length = n at *
  have HN := Lib.hid hn; clear hn
  go_enter Tryd.func21, Tryd.ntmps21
  go_wp2_with fail
  go_loopw [13] (fun s wr => ∃ k : Nat, k ≤ n ∧ s = .int .i64 k ∧ ∃ r, wr = w.drewN r) (fun s _ => n - (intOf s).toNat)
  case atStart => exact ⟨0, by omega, rfl, 0, rfl⟩
  case round =>
    obtain ⟨k, hk, rfl, r, hr⟩ := hrel
    have HR := Lib.hid hr; clear hr
    by_cases hlt : k < n
    · obtain ⟨o, ho⟩ : ∃ o, l[k]? = some o := ⟨l[k]'(by rw [HN.out]; exact hlt), by simp⟩
      obtain ⟨a0, a1, a2, a3⟩ := H1.out k o ho
      obtain ⟨b0, b1, b2, b3⟩ := H2.out k o ho
      have c0 : wr.cell? ⟨g, k * 4, none⟩ = some (.int .i64 o.at_) := by rw [HR.out]; exact a0
      have c1 : wr.cell? ⟨g, k * 4 + 1, none⟩ = some (.int .i64 o.size) := by rw [HR.out]; exact a1
      have c2 : wr.cell? ⟨g, k * 4 + 2, none⟩ = some (.int .i64 o.room) := by rw [HR.out]; exact a2
      have c3 : wr.cell? ⟨g, k * 4 + 3, none⟩ = some (.bool o.marked) := by rw [HR.out]; exact a3
      have d0 : wr.cell? ⟨q, k * 4, none⟩ = some (.int .i64 o.at_) := by rw [HR.out]; exact b0
      have d1 : wr.cell? ⟨q, k * 4 + 1, none⟩ = some (.int .i64 o.size) := by rw [HR.out]; exact b1
      have d2 : wr.cell? ⟨q, k * 4 + 2, none⟩ = some (.int .i64 o.room) := by rw [HR.out]; exact b2
      have d3 : wr.cell? ⟨q, k * 4 + 3, none⟩ = some (.bool o.marked) := by rw [HR.out]; exact b3
      clear a0 a1 a2 a3 b0 b1 b2 b3 ho
      go_wp2_with fail
      go_quiet (fail)
      go_wp2
      go_roundw
      case rel => exact ⟨k + 1, by omega, by go_num, r + nq, by rw [HR.out]; exact drewN_drewN w r nq⟩
      case measure => simp [intOf]; omega
    · obtain rfl : k = n := by omega
      go_wp2
      go_ret
      exact ⟨rfl, by rw [HR.out]; exact below_drewN (Below.refl _ _) r⟩

/-- slices.Equal, of two lists that are the same. -/
theorem equal_at {l : List PObj} (hl : l.length ≤ 100000) {v u : Value} {w : World} (h1 : ObjS w v l) (h2 : ObjS w u l) : Calls Tryd.prog 21 #[v, u] w fun e w' => e = .returned (.bool true) ∧ Below w.heap.size w w' := by
  obtain ⟨p, c, rfl, h1⟩ := h1
  obtain ⟨q, d, rfl, h2⟩ := h2
  rcases h1 with rfl | ⟨g, rfl, _, h1⟩
  · exact equal_nil p q c d w
  · rcases h2 with rfl | ⟨g', rfl, _, h2⟩
    · exact equal_nil _ q c d w
    · exact equal_some l hl g g' c d w h1 h2

set_option maxRecDepth 100000 in
set_option maxHeartbeats 1000000 in
theorem near_at (y x : PObj) (X : Nat) (w : World) (hy : y.at_ ≤ 1000000) (hx : x.at_ ≤ 1000000) (hX : w.cell? ⟨X, 0, none⟩ = some (.int .i64 x.at_)) :
    Calls Tryd.prog 20 #[y.val, .pointer (some ⟨X, 0, none⟩)] w fun e w' => e = .returned (.bool (y.at_ / 1024 == x.at_ / 1024)) ∧ Below w.heap.size w w' := by
  have hlt := World.block_lt_of_cell? _ _ hX
  have hv : y.val = .agg #[.int .i64 y.at_, .int .i64 y.size, .int .i64 y.room, .bool y.marked] := rfl
  rw [hv]
  have HE : Hid ((((y.at_ : Int) / 1024) == ((x.at_ : Int) / 1024)) = (y.at_ / 1024 == x.at_ / 1024)) := by
    show _ = _
    rw [Bool.eq_iff_iff]; simp; omega
  clear hv
  go_enter Tryd.func20, Tryd.ntmps20
  go_wp2
  go_ret
  exact ⟨by rw [← HE.out]; rfl, by repeat (first | exact Below.refl _ _ | (refine Below.alloc ?_ (by simp) _))⟩

set_option maxRecDepth 100000 in
set_option maxHeartbeats 1000000 in
theorem index_nil (p : Option Addr) (c : Nat) (f : Value) (w : World) : Calls Tryd.prog 36 #[.slice p 0 c, f] w fun e w' => e = .returned (.int .i64 (-1)) ∧ Below w.heap.size w w' := by
  cases p
  all_goals
    go_enter Tryd.func36, Tryd.ntmps36
    go_wp2_with fail
    go_loop [8] (fun s => s = .int .i64 0) (fun _ => 0)
    case atStart => rfl
    case round =>
      obtain rfl := hrel
      go_wp2
      go_ret
      exact ⟨rfl, Below.refl _ _⟩

def IndexPost (b : Bool) (w : World) (e : Ending) (w' : World) : Prop := (∃ n : Int, e = .returned (.int .i64 n) ∧ (decide (0 ≤ n) = b)) ∧ Below w.heap.size w w'

set_option maxRecDepth 100000 in
set_option maxHeartbeats 1000000 in
theorem index_some (l : List PObj) (hl : l.length ≤ 100000) (hla : ∀ o ∈ l, o.at_ ≤ 1000000) (g c X : Nat) (x : PObj) (hx : x.at_ ≤ 1000000) (w : World) (hg : g < w.heap.size)
    (h1 : ∀ k o, l[k]? = some o → w.cell? ⟨g, k * 4, none⟩ = some (.int .i64 o.at_) ∧ w.cell? ⟨g, k * 4 + 1, none⟩ = some (.int .i64 o.size) ∧ w.cell? ⟨g, k * 4 + 2, none⟩ = some (.int .i64 o.room) ∧ w.cell? ⟨g, k * 4 + 3, none⟩ = some (.bool o.marked))
    (hX : w.cell? ⟨X, 0, none⟩ = some (.int .i64 x.at_)) :
    Calls Tryd.prog 36 #[.slice (some ⟨g, 0, none⟩) l.length c, .func (.func 20) #[] #[.pointer (some ⟨X, 0, none⟩)]] w (IndexPost (l.any fun y => y.at_ / 1024 == x.at_ / 1024) w) := by
  have H1 := Lib.hid h1; clear h1
  have hXl := World.block_lt_of_cell? _ _ hX
  have HX := Lib.hid hX; clear hX
  have HLA := Lib.hid hla; clear hla
  obtain ⟨B, hB⟩ : ∃ B, B = l.any fun y => y.at_ / 1024 == x.at_ / 1024 := ⟨_, rfl⟩
  rw [← hB]
  have HBB := Lib.hid hB; clear hB
  generalize hn : l.length = n at *
  have HN := Lib.hid hn; clear hn
  go_enter Tryd.func36, Tryd.ntmps36
  go_wp2_with fail
  go_loopw [8] (fun s wr => ∃ k : Nat, k ≤ n ∧ s = .int .i64 k ∧ (∀ (j : Nat) (o : PObj), j < k → l[j]? = some o → (o.at_ / 1024 == x.at_ / 1024) = false) ∧ Below w.heap.size w wr) (fun s _ => n - (intOf s).toNat)
  case atStart => exact ⟨0, by omega, rfl, fun j o hj => by omega, Below.refl _ _⟩
  case round =>
    obtain ⟨k, hk, rfl, hno, hb⟩ := hrel
    have HNO := Lib.hid hno; clear hno
    have HB := Lib.hid hb; clear hb
    by_cases hlt : k < n
    · obtain ⟨o, ho⟩ : ∃ o, l[k]? = some o := ⟨l[k]'(by rw [HN.out]; exact hlt), by simp⟩
      obtain ⟨a0, a1, a2, a3⟩ := H1.out k o ho
      have c0 : wr.cell? ⟨g, k * 4, none⟩ = some (.int .i64 o.at_) := (HB.out.cell (p := ⟨g, k * 4, none⟩) hg).trans a0
      have c1 : wr.cell? ⟨g, k * 4 + 1, none⟩ = some (.int .i64 o.size) := (HB.out.cell (p := ⟨g, k * 4 + 1, none⟩) hg).trans a1
      have c2 : wr.cell? ⟨g, k * 4 + 2, none⟩ = some (.int .i64 o.room) := (HB.out.cell (p := ⟨g, k * 4 + 2, none⟩) hg).trans a2
      have c3 : wr.cell? ⟨g, k * 4 + 3, none⟩ = some (.bool o.marked) := (HB.out.cell (p := ⟨g, k * 4 + 3, none⟩) hg).trans a3
      have HX' : Hid (wr.cell? ⟨X, 0, none⟩ = some (.int .i64 x.at_)) := (HB.out.cell (p := ⟨X, 0, none⟩) hXl).trans HX.out
      have HO := Lib.hid ho
      have HC := Lib.hid (fun w h => near_at o x X w (HLA.out o (List.mem_of_getElem? ho)) hx h)
      clear a0 a1 a2 a3 ho
      go_wp2_with fail
      refine (HC.out _ HX'.out).mono ?_
      rintro e w2 ⟨rfl, hb2⟩
      have HB2 : Hid (Below w.heap.size w w2) := HB.out.trans (hb2.mono HB.out.size)
      clear hb2 c0 c1 c2 c3
      cases hn : (o.at_ / 1024 == x.at_ / 1024) with
      | true =>
        have hany : B = true := by
          rw [HBB.out, List.any_eq_true]
          exact ⟨o, List.mem_of_getElem? HO.out, hn⟩
        clear hn
        go_wp2
        go_ret
        exact ⟨⟨_, rfl, by rw [hany]; simp⟩, HB2.out⟩
      | false =>
        have HF := Lib.hid hn; clear hn
        go_wp2
        go_roundw
        case rel =>
          refine ⟨k + 1, by omega, by go_num, fun j o' hj ho' => ?_, HB2.out⟩
          by_cases e : j = k
          · subst e; rw [HO.out] at ho'; cases ho'; exact HF.out
          · exact HNO.out j o' (by omega) ho'
        case measure => simp [intOf]; omega
    · obtain rfl : k = n := by omega
      have hany : B = false := by
        rw [HBB.out, Bool.eq_false_iff]
        intro h
        rw [List.any_eq_true] at h
        obtain ⟨o, ho, h⟩ := h
        obtain ⟨j, hj, e⟩ := List.getElem_of_mem ho
        rw [HN.out] at hj
        rw [HNO.out j o hj (by rw [← e]; simp)] at h
        cases h
      go_wp2
      go_ret
      exact ⟨⟨_, rfl, by rw [hany]; rfl⟩, HB.out⟩

theorem index_at {l : List PObj} (hl : l.length ≤ 100000) (hla : ∀ o ∈ l, o.at_ ≤ 1000000) {v : Value} {X : Nat} {x : PObj} (hx : x.at_ ≤ 1000000) {w : World} (h1 : ObjS w v l) (hX : w.cell? ⟨X, 0, none⟩ = some (.int .i64 x.at_)) :
    Calls Tryd.prog 36 #[v, .func (.func 20) #[] #[.pointer (some ⟨X, 0, none⟩)]] w (IndexPost (l.any fun y => y.at_ / 1024 == x.at_ / 1024) w) := by
  obtain ⟨p, c, rfl, h1⟩ := h1
  rcases h1 with rfl | ⟨g, rfl, hg, h1⟩
  · exact (index_nil p c _ w).mono fun e w' h => ⟨⟨_, h.1, rfl⟩, h.2⟩
  · exact index_some l hl hla g c X x hx w hg h1 hX

set_option maxRecDepth 100000 in
set_option maxHeartbeats 1000000 in
/-- slices.ContainsFunc, of PoolFirst's closure. -/
theorem contains_at {l : List PObj} (hl : l.length ≤ 100000) (hla : ∀ o ∈ l, o.at_ ≤ 1000000) {v : Value} {X : Nat} {x : PObj} (hx : x.at_ ≤ 1000000) {w : World} (h1 : ObjS w v l) (hX : w.cell? ⟨X, 0, none⟩ = some (.int .i64 x.at_)) :
    Calls Tryd.prog 19 #[v, .func (.func 20) #[] #[.pointer (some ⟨X, 0, none⟩)]] w fun e w' => e = .returned (.bool (l.any fun y => y.at_ / 1024 == x.at_ / 1024)) ∧ Below w.heap.size w w' := by
  have HI := Lib.hid (index_at hl hla hx h1 hX)
  clear h1 hX hla
  generalize (l.any fun y => y.at_ / 1024 == x.at_ / 1024) = b at *
  go_enter Tryd.func19, Tryd.ntmps19
  go_wp2_with fail
  refine HI.out.mono ?_
  rintro e w' ⟨⟨n, rfl, hn⟩, hb⟩
  have HB := Lib.hid hb; clear hb
  go_wp2_with fail
  go_ret
  exact ⟨rfl, HB.out⟩
end Go.Proofs.YtdgfnlagbdmniaaDoor.Pl
