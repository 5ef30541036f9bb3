/- PoolRuns: the reference's lists in memory; equal. -/
import Derived.Test.YtdgfnlagbdmniaaDoorNRa
import Derived.Test.YtdgfnlagbdmniaaDoorPf
namespace Go.Proofs.YtdgfnlagbdmniaaDoor.Pl
open Go.RowKit

/-- The reference's list of the same objects. -/
def RefS (w : World) (v : Value) (l : List PObj) : Prop :=
  ∃ p cap, v = .slice p l.length cap ∧ (l = [] ∨ ∃ g off, p = some ⟨g, off, none⟩ ∧ g < w.heap.size ∧
    ∀ k o, l[k]? = some o → w.cell? ⟨g, off + k * 3, none⟩ = some (.int .i64 o.at_) ∧ w.cell? ⟨g, off + k * 3 + 1, none⟩ = some (.int .i64 o.size) ∧ w.cell? ⟨g, off + k * 3 + 2, none⟩ = some (.bool o.marked))
theorem RefS.below {w w' : World} {v : Value} {l : List PObj} (h : RefS w v l) (hb : Below w.heap.size w w') : RefS w' v l := by
  obtain ⟨p, cap, rfl, h⟩ := h
  refine ⟨p, cap, rfl, ?_⟩
  rcases h with h | ⟨g, off, rfl, h2, h3⟩
  · exact .inl h
  · refine .inr ⟨g, off, rfl, Nat.lt_of_lt_of_le h2 hb.size, fun k o ho => ?_⟩
    obtain ⟨a, b, c⟩ := h3 k o ho
    exact ⟨(hb.cell (p := ⟨g, off + k * 3, none⟩) h2).trans a, (hb.cell (p := ⟨g, off + k * 3 + 1, none⟩) h2).trans b, (hb.cell (p := ⟨g, off + k * 3 + 2, none⟩) h2).trans c⟩

set_option maxRecDepth 100000 in
set_option maxHeartbeats 1000000 in
theorem eqf_nil (p q : Option Addr) (c d : Nat) (f : Value) (w : World) : Calls Tryd.prog 52 #[.slice p 0 c, .slice q 0 d, f] w fun e w' => e = .returned (.bool true) ∧ Below w.heap.size w w' := by
  go_enter Tryd.func52, Tryd.ntmps52
  go_wp2_with fail
  go_loop [17] (fun s => s = .int .i64 0) (fun _ => 0)
  case atStart => rfl
  case round =>
    obtain rfl := hrel
    go_wp2
    go_ret
    exact ⟨rfl, Below.refl _ _⟩

set_option maxRecDepth 100000 in
set_option maxHeartbeats 1000000 in
theorem eqf_some (l : List PObj) (hl : l.length ≤ 100000) (hok : ∀ o ∈ l, OOk o) (g h off c d : Nat) (w : World) (hg : g < w.heap.size) (hh : h < w.heap.size)
    (h1 : ∀ k o, l[k]? = some o → w.cell? ⟨g, k * 4, none⟩ = some (.int .i64 o.at_) ∧ w.cell? ⟨g, k * 4 + 1, none⟩ = some (.int .i64 o.size) ∧ w.cell? ⟨g, k * 4 + 2, none⟩ = some (.int .i64 o.room) ∧ w.cell? ⟨g, k * 4 + 3, none⟩ = some (.bool o.marked))
    (h2 : ∀ k o, l[k]? = some o → w.cell? ⟨h, off + k * 3, none⟩ = some (.int .i64 o.at_) ∧ w.cell? ⟨h, off + k * 3 + 1, none⟩ = some (.int .i64 o.size) ∧ w.cell? ⟨h, off + k * 3 + 2, none⟩ = some (.bool o.marked)) :
    Calls Tryd.prog 52 #[.slice (some ⟨g, 0, none⟩) l.length c, .slice (some ⟨h, off, none⟩) l.length d, .func (.func 53) #[] #[]] w fun e w' => e = .returned (.bool true) ∧ Below w.heap.size w w' := by
  have H1 := Lib.hid h1; clear h1
  have H2 := Lib.hid h2; clear h2
  have HOK := Lib.hid hok; clear hok
  generalize hn : l.length = n at *
  have HN := Lib.hid hn; clear hn
  go_enter Tryd.func52, Tryd.ntmps52
  go_wp2_with fail
  go_loopw [17] (fun s wr => ∃ k : Nat, k ≤ n ∧ s = .int .i64 k ∧ Below w.heap.size w wr) (fun s _ => n - (intOf s).toNat)
  case atStart => exact ⟨0, by omega, rfl, Below.refl _ _⟩
  case round =>
    obtain ⟨k, hk, rfl, hb⟩ := hrel
    have HB := Lib.hid hb; clear hb
    by_cases hlt : k < n
    · obtain ⟨o, ho⟩ : ∃ o, l[k]? = some o := ⟨l[k]'(by rw [HN.out]; exact hlt), by simp⟩
      obtain ⟨a0, a1, a2, a3⟩ := H1.out k o ho
      obtain ⟨b0, b1, b2⟩ := H2.out k o ho
      have c0 : wr.cell? ⟨g, k * 4, none⟩ = some (.int .i64 o.at_) := (HB.out.cell (p := ⟨g, k * 4, none⟩) hg).trans a0
      have c1 : wr.cell? ⟨g, k * 4 + 1, none⟩ = some (.int .i64 o.size) := (HB.out.cell (p := ⟨g, k * 4 + 1, none⟩) hg).trans a1
      have c2 : wr.cell? ⟨g, k * 4 + 2, none⟩ = some (.int .i64 o.room) := (HB.out.cell (p := ⟨g, k * 4 + 2, none⟩) hg).trans a2
      have c3 : wr.cell? ⟨g, k * 4 + 3, none⟩ = some (.bool o.marked) := (HB.out.cell (p := ⟨g, k * 4 + 3, none⟩) hg).trans a3
      have d0 : wr.cell? ⟨h, off + k * 3, none⟩ = some (.int .i64 o.at_) := (HB.out.cell (p := ⟨h, off + k * 3, none⟩) hh).trans b0
      have d1 : wr.cell? ⟨h, off + k * 3 + 1, none⟩ = some (.int .i64 o.size) := (HB.out.cell (p := ⟨h, off + k * 3 + 1, none⟩) hh).trans b1
      have d2 : wr.cell? ⟨h, off + k * 3 + 2, none⟩ = some (.bool o.marked) := (HB.out.cell (p := ⟨h, off + k * 3 + 2, none⟩) hh).trans b2
      have hlg : g < wr.heap.size := Nat.lt_of_lt_of_le hg HB.out.size
      have hlh : h < wr.heap.size := Nat.lt_of_lt_of_le hh HB.out.size
      have ok := HOK.out o (List.mem_of_getElem? ho)
      have HE := Lib.hid (eq1_at o ok.pos ok.le ok.room (fun w => rclass_ok o.size ok.pos ok.le w))
      clear a0 a1 a2 a3 b0 b1 b2 ho ok
      go_wp2_with fail
      refine (HE.out _).mono ?_
      rintro e w5 ⟨rfl, hb5⟩
      have HB5 : Hid (Below w.heap.size w w5) := ((HB.out.alloc HB.out.size _).alloc (by have := HB.out.size; simp; omega) _).trans (hb5.mono (by have := HB.out.size; simp; omega))
      clear hb5 c0 c1 c2 c3 d0 d1 d2
      go_wp2
      go_roundw
      case rel => exact ⟨k + 1, by omega, by go_num, HB5.out⟩
      case measure => simp [intOf]; omega
    · obtain rfl : k = n := by omega
      go_wp2
      go_ret
      exact ⟨rfl, HB.out⟩
end Go.Proofs.YtdgfnlagbdmniaaDoor.Pl
