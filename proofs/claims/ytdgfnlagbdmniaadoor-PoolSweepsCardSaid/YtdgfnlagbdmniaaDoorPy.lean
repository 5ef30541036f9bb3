/- The laws' pool behind allocations and frees: played. -/
import Derived.Test.YtdgfnlagbdmniaaDoorPx
namespace Go.Proofs.YtdgfnlagbdmniaaDoor.Pl
open Go.RowKit

def Clean (cs : List Chunk) : Prop := ∀ o ∈ objs cs, o.marked = false
theorem Put.mem {l m : List PObj} {o x : PObj} (h : Put l m o) : x ∈ m ↔ x = o ∨ x ∈ l := by
  obtain ⟨A, B, rfl, rfl⟩ := h
  simp; constructor
  · rintro (h | h | h) <;> simp [h]
  · rintro (h | h | h) <;> simp [h]

theorem alloc_keep {cs : List Chunk} {sz : Int} {a b : Nat} {w w' : World} {e : Ending} (hP : AllocPost cs sz a b w e w') (hA : At w a b cs) (hG : Good cs) (hU : Clean cs) :
    ∃ v cs', e = .returned v ∧ At w' a b cs' ∧ Good cs' ∧ cs'.length = cs.length ∧ Clean cs' ∧ w.grownBy w' (some b) := by
  by_cases hs : sz < 1 ∨ 262144 < sz
  · unfold AllocPost at hP
    rw [if_pos hs] at hP
    obtain ⟨rfl, rfl⟩ := hP
    exact ⟨_, cs, rfl, hA, hG, rfl, hU, fr_refl _ _⟩
  · have hP' := alloc_fn (by omega) (by omega) hP
    cases hx : allocC cs sz with
    | none =>
      rw [hx] at hP'
      obtain ⟨rfl, n, rfl⟩ := hP'
      exact ⟨_, cs, rfl, hA.drewN n, hG, rfl, hU, fr_drewN (fr_refl _ _) n⟩
    | some r =>
      obtain ⟨cs', x⟩ := r
      rw [hx] at hP'
      obtain ⟨rfl, hA', hg'⟩ := hP'
      obtain ⟨g, l, p⟩ := allocC_put hG (by omega) (by omega) hx
      refine ⟨_, cs', rfl, hA', g, l, fun o ho => ?_, hg'⟩
      rcases p.mem.1 ho with rfl | ho
      · rfl
      · exact hU o ho
theorem free_keep {cs : List Chunk} {ad : Int} {a b : Nat} {w w' : World} {e : Ending} (hP : FreePost cs ad a b w e w') (hG : Good cs) (hU : Clean cs) :
    ∃ v cs', e = .returned v ∧ At w' a b cs' ∧ Good cs' ∧ cs'.length = cs.length ∧ Clean cs' ∧ w.grownBy w' (some b) := by
  rcases hP with ⟨i, s, c, hp, _, rfl, hA', hg'⟩ | ⟨_, rfl, hA', hg'⟩
  · obtain ⟨g, l, p⟩ := remove_put hG hp
    exact ⟨_, _, rfl, hA', g, l, fun o ho => hU o (p.mem.2 (.inr ho)), hg'⟩
  · exact ⟨_, cs, rfl, hA', hG, rfl, hU, hg'⟩

/-- A list of numbers in memory. -/
def Nums (w : World) (v : Value) (xs : List Int) : Prop :=
  ∃ p cap, v = .slice p xs.length cap ∧ (xs = [] ∨ ∃ g off, p = some ⟨g, off, none⟩ ∧ g < w.heap.size ∧ ∀ k x, xs[k]? = some x → w.cell? ⟨g, off + k, none⟩ = some (.int .u16 x))

theorem new_any (N : Nat) (h1 : 1 ≤ N) (h2 : N ≤ 256) (w : World) : Calls Tryd.prog 10 #[.int .i64 N] w fun e w' => ∃ a b, e = .returned (.tuple #[.pointer (some ⟨a, 0, none⟩), .int .i64 0]) ∧ w.heap.size ≤ a ∧ w.heap.size ≤ b ∧ At w' a b (List.replicate N Chunk.zero) ∧ w.grownBy w' none := by
  refine (new_ok N (by omega) (by omega) w).mono ?_
  rintro e w' ⟨a, b, h⟩
  exact ⟨a, b, h⟩

def PlayedPost (N : Nat) (w : World) (e : Ending) (w' : World) : Prop :=
  ∃ a b cs, e = .returned (.tuple #[.pointer (some ⟨a, 0, none⟩), .bool true]) ∧ w.heap.size ≤ a ∧ w.heap.size ≤ b ∧ At w' a b cs ∧ Good cs ∧ cs.length = N ∧ Clean cs ∧ Below w.heap.size w w'

theorem own_empty {W : World} {base : Nat} {v : Value} {xs : List Value} (h : W.ownsRow base 40 4 v 0 xs) : v = .slice none 0 0 ∨ ∃ x c, v = .slice (some x) 0 c := by
  rcases h.2 with ⟨rfl, _⟩ | ⟨g, cap, cur, rfl, _⟩
  · exact .inl rfl
  · exact .inr ⟨_, _, rfl⟩

set_option maxRecDepth 100000 in
set_option maxHeartbeats 2000000 in
theorem played_at (N : Nat) (h1 : 1 ≤ N) (h2 : N ≤ 256) (v : Value) (xs : List Int) (w : World) (hT : Tab w) (hN : Nums w v xs) (hx : ∀ x ∈ xs, 0 ≤ x ∧ x ≤ 65535) (hl : xs.length ≤ 200) :
    Calls Tryd.prog 14 #[.int .i64 N, v] w (PlayedPost N w) := by
  obtain ⟨p, cap, rfl, hp⟩ := hN
  have HT := Lib.hid hT; clear hT
  have HX := Lib.hid hx; clear hx
  have HP := Lib.hid hp; clear hp
  go_enter Tryd.func14, Tryd.ntmps14
  go_wp2_with fail
  refine (new_any N h1 h2 _).mono ?_
  rintro e w2 ⟨a, b, rfl, ha, hb, hA, hg⟩
  have HB2 : Hid (Below w.heap.size w w2) := fr_below (fr_none hg (some b)) hb (Nat.le_refl _)
  have HT2 := Lib.hid (HT.out.below HB2.out HT.out.lt)
  have HBP : Hid (0 < b) := Nat.lt_of_lt_of_le HT.out.lt hb
  have HBL := Lib.hid hb
  have HAL := Lib.hid ha
  have HA2 := Lib.hid hA; clear hA hg ha hb
  have HC2 : Hid (Clean (List.replicate N Chunk.zero)) := by
    intro o ho; rw [objs_eq, objsL_zeros] at ho; cases ho
  have HPs := HP.out
  have hlen : (xs = [] → xs.length = 0) := fun h => by rw [h]; rfl
  rcases HPs with he | ⟨g, off, rfl, hg, hcell⟩
  · rw [he]
    simp only [List.length_nil]
    cases p
    all_goals
      go_wp2_with fail
      go_loop [20] (fun s => s = .int .i64 0) (fun _ => 0)
      case atStart => rfl
      case round =>
        obtain rfl := hrel
        go_wp2
        go_ret2
        exact ⟨a, b, _, rfl, HAL.out, HBL.out, HA2.out, Good.zeros _, List.length_replicate, HC2.out, HB2.out⟩
  · have HCL := Lib.hid hcell
    have HGL := Lib.hid hg
    clear hcell hg hlen HP
    generalize hn : xs.length = n at *
    have HN := Lib.hid hn; clear hn
    go_wp2_with fail
    go_loopw [20] (fun s wr => ∃ (k : Nat) (cs : List Chunk), k ≤ n ∧ s = .int .i64 k ∧ At wr a b cs ∧ Good cs ∧ cs.length = N ∧ Clean cs ∧ Tab wr ∧ Below w.heap.size w wr) (fun s _ => n - (intOf s).toNat)
    case atStart => exact ⟨0, _, by omega, rfl, HA2.out, Good.zeros _, List.length_replicate, HC2.out, HT2.out, HB2.out⟩
    case round =>
      obtain ⟨k, cs, hk, rfl, hA, hG, hL, hC, hT, hB⟩ := hrel
      have HA := Lib.hid hA; clear hA
      have HG := Lib.hid hG; clear hG
      have HL := Lib.hid hL; clear hL
      have HC := Lib.hid hC; clear hC
      have HTr := Lib.hid hT; clear hT
      have HBr := Lib.hid hB; clear hB
      by_cases hlt : k < n
      · obtain ⟨x, hx⟩ : ∃ x, xs[k]? = some x := ⟨xs[k]'(by rw [HN.out]; exact hlt), by simp⟩
        have hc : wr.cell? ⟨g, off + k, none⟩ = some (.int .u16 x) := (HBr.out.cell (p := ⟨g, off + k, none⟩) HGL.out).trans (HCL.out k x hx)
        obtain ⟨x0, x1⟩ := HX.out x (List.mem_of_getElem? hx)
        clear hx
        by_cases hev : x % 2 = 0
        · have e1 : (x % 2 == 0) = true := by simp [hev]
          clear hev
          go_wp2_with fail
          refine (alloc_at HA.out HG.out.wf HTr.out HBP.out (x / 2 % 3000)).mono ?_
          rintro e w3 hP
          obtain ⟨v, cs', rfl, hA', hG', hL', hC', hg'⟩ := alloc_keep hP HA.out HG.out HC.out
          have HA' := Lib.hid hA'; clear hA'
          have HG' := Lib.hid hG'; clear hG'
          have HL' := Lib.hid (hL'.trans HL.out); clear hL'
          have HC' := Lib.hid hC'; clear hC'
          have HT' := Lib.hid (HTr.out.grown hg' HBP.out)
          have HB' : Hid (Below w.heap.size w w3) := HBr.out.trans (fr_below hg' HBL.out HBr.out.size)
          clear hP hg'
          go_wp2
          go_roundw
          case rel => exact ⟨k + 1, cs', by omega, by go_num, HA'.out, HG'.out, HL'.out, HC'.out, HT'.out, HB'.out⟩
          case measure => simp [intOf]; omega
        · have e1 : (x % 2 == 0) = false := by simp [hev]
          clear hev
          have HSM := Lib.hid (HG.out.small (by rw [HL.out]; exact h2))
          have hlen := HSM.out.1
          go_wp2_with fail
          refine (objects_at HA.out HG.out.rd (by simpa [objs] using hlen)).mono ?_
          rintro e w3 ⟨v, rfl, hown, hb3⟩
          have HA3 := Lib.hid (HA.out.below hb3 HA.out.lt_a HA.out.lt_b)
          have HB3 : Hid (Below w.heap.size w w3) := HBr.out.trans (hb3.mono HBr.out.size)
          have HT3 := Lib.hid (HTr.out.below hb3 HTr.out.lt)
          clear hb3
          by_cases hne : objs cs = []
          · rw [hne] at hown
            rcases own_empty hown with rfl | ⟨y, c, rfl⟩
            all_goals
              clear hown hne
              go_wp2
              go_roundw
              case rel => exact ⟨k + 1, cs, by omega, by go_num, HA3.out, HG.out, HL.out, HC.out, HT3.out, HB3.out⟩
              case measure => simp [intOf]; omega
          · obtain ⟨q, cap2, rfl, hq1, hq2, hcells⟩ := own_obj hown hne
            have hpos : 0 < (objs cs).length := List.length_pos_iff.2 hne
            have HCE := Lib.hid hcells; clear hcells hown hne
            obtain ⟨L, hL⟩ : ∃ L, L = (objs cs).length := ⟨_, rfl⟩
            rw [← hL] at hpos hlen ⊢
            obtain ⟨d, hd⟩ : ∃ d : Nat, (d : Int) = x / 2 % (L : Int) := ⟨(x / 2 % (L : Int)).toNat, Int.toNat_of_nonneg (Int.emod_nonneg _ (by omega))⟩
            have hdl : d < L := by have := Int.emod_lt_of_pos (x / 2) (show (0 : Int) < L by omega); omega
            obtain ⟨o, ho⟩ : ∃ o, (objs cs)[d]? = some o := ⟨(objs cs)[d]'(by rw [← hL]; exact hdl), by simp⟩
            have c0 := (HCE.out d o ho).1
            have hd2 : x / 2 % (L : Int) = (d : Int) := hd.symm
            clear hd hL ho
            go_wp2_with fail
            refine (Free_at HA3.out HG.out (o.at_ : Int)).mono ?_
            rintro e w4 hP
            obtain ⟨v, cs', rfl, hA', hG', hL', hC', hg'⟩ := free_keep hP HG.out HC.out
            have HA' := Lib.hid hA'; clear hA'
            have HG' := Lib.hid hG'; clear hG'
            have HL' := Lib.hid (hL'.trans HL.out); clear hL'
            have HC' := Lib.hid hC'; clear hC'
            have HT' := Lib.hid (HT3.out.grown hg' HBP.out)
            have HB' : Hid (Below w.heap.size w w4) := HB3.out.trans (fr_below hg' HBL.out HB3.out.size)
            clear hP hg' c0 hd2
            go_wp2
            go_roundw
            case rel => exact ⟨k + 1, cs', by omega, by go_num, HA'.out, HG'.out, HL'.out, HC'.out, HT'.out, HB'.out⟩
            case measure => simp [intOf]; omega
      · obtain rfl : k = n := by omega
        go_wp2
        go_ret2
        exact ⟨a, b, _, rfl, HAL.out, HBL.out, HA.out, HG.out, HL.out, HC.out, HBr.out⟩
end Go.Proofs.YtdgfnlagbdmniaaDoor.Pl
