/- Numeric: the program's Twiddles. -/
import Derived.Test.YtlbgpfddmkpakaaCc
namespace Go.Proofs.Ytlbgpfddmkpakaa.Nu
open Go.RowKit
set_option linter.unusedVariables false
set_option linter.unusedSimpArgs false

set_option maxRecDepth 100000 in
set_option maxHeartbeats 4000000 in
theorem twiddles_gen {n re im r s : Nat} (h64 : n ≤ 64) (hp : (n : Int) ∈ pts) (HT0 : ∀ w, Calls Try.prog 45 #[.int .i64 n] w fun e w' => e = .returned (.tuple #[.float .f64 re, .float .f64 im]) ∧ w' = w)
    (k1 : ∀ w, (convert 83 31 (.float .f64 re)).run Try.prog w = .ok (.float .f32 r) w) (k2 : ∀ w, (convert 83 31 (.float .f64 (Op.negFloat .f64 im))).run Try.prog w = .ok (.float .f32 s) w)
    (hr : canon r = some r) (hs : canon s = some s) (w : World) :
    Calls Try.prog 18 #[.int .i64 n] w fun e w' => ∃ v, e = .returned (.tuple #[v, .int .i64 0]) ∧ w'.ownsRow w.heap.size 26 2 v n (cellsN (upto (tw (r, s)) n)) ∧ Below w.heap.size w w' := by
  have HT := Lib.hid HT0
  clear HT0
  have HP := Lib.hid hp
  have h1 : 1 ≤ n := by simp only [pts, List.mem_cons, List.not_mem_nil, or_false] at hp; omega
  have tp : decide ((n : Int) ∈ pts) = true := decide_eq_true hp
  clear hp
  obtain ⟨i0, hi, hz0, hz1, hz2⟩ := info_parts info26
  have HI := Lib.hid hi; clear hi
  have HZ0 := Lib.hid hz0; clear hz0
  have HZ1 := Lib.hid hz1; clear hz1
  have HZ2 := Lib.hid hz2; clear hz2
  have HR := Lib.hid hr; clear hr
  have HS := Lib.hid hs; clear hs
  have kn : ∀ w, (Op.unary UnOp.neg (.float .f64 im)).run Try.prog w = .ok (.float .f64 (Op.negFloat .f64 im)) w := fun w => rfl
  go_enter Try.func18, Try.ntmps18
  go_wp2_with fail
  refine (points_at _ _).mono ?_
  rintro e w' ⟨rfl, rfl⟩
  rw [tp]
  clear tp
  go_wp2_with fail
  refine (of_at _ _ _).mono ?_
  rintro e W1 ⟨rfl, hb1⟩
  rw [canon_one, canon_zero]
  simp only [cb, Option.getD_some]
  go_wp2_with fail
  have HO := Lib.hid (own_one (w := W1) w'.heap.size (.int .u32 (1065353216 : Nat)) (.int .u32 (0 : Nat)) hb1.size)
  have HB := Lib.hid (hb1.alloc hb1.size (.cells #[.int .u32 (1065353216 : Nat), .int .u32 (0 : Nat)] 26))
  have hgl : W1.heap.size < (W1.alloc (.cells #[.int .u32 (1065353216 : Nat), .int .u32 (0 : Nat)] 26)).heap.size := by simp
  generalize W1.alloc (.cells #[.int .u32 (1065353216 : Nat), .int .u32 (0 : Nat)] 26) = W2 at *
  obtain ⟨G, hG⟩ : ∃ G, G = W1.heap.size := ⟨_, rfl⟩
  rw [← hG] at HO hgl ⊢
  clear hG hb1
  refine (HT.out _).mono ?_
  rintro e w2 ⟨rfl, hw2⟩
  rw [hw2]
  clear hw2
  go_wp2_with fail
  refine (of_at _ _ _).mono ?_
  rintro e W3 ⟨rfl, hb3⟩
  rw [HR.out, HS.out]
  simp only [cb, Option.getD_some]
  have HO3 := Lib.hid (show W3.ownsRow w'.heap.size 26 2 (.slice (some ⟨G, 0, none⟩) 1 1) 1 (cellsN (upto (tw (r, s)) 1)) by
    rcases HO.out.2 with ⟨e, _⟩ | ⟨g, cap, cur, e, h1, h2, h3⟩
    · cases e
    · injection e with e1 _ e3
      injection e1 with e1
      injection e1 with e1
      subst e1
      exact ⟨rfl, .inr ⟨_, cap, cur, by rw [e3], h1, (hb3.block _ hgl).trans h2, h3⟩⟩)
  have HB3 := Lib.hid (HB.out.trans (hb3.mono HB.out.size))
  have hgl3 : G < W3.heap.size := Nat.lt_of_lt_of_le hgl hb3.size
  clear hb3 hgl HO HB
  go_upto_region 6 with fail
  have HX := Lib.hid (B2.made W3 (.int .u32 (r : Nat)) (.int .u32 (s : Nat)) 26)
  have HO4 := Lib.hid (HO3.out.alloc (.cells #[.int .u32 (r : Nat), .int .u32 (s : Nat)] 26))
  have HB4 := Lib.hid (HB3.out.alloc HB3.out.size (.cells #[.int .u32 (r : Nat), .int .u32 (s : Nat)] 26))
  have hne : W3.heap.size ≠ G := Nat.ne_of_gt hgl3
  obtain ⟨X, hX⟩ : ∃ X, X = W3.heap.size := ⟨_, rfl⟩
  rw [← hX] at HX hne ⊢
  generalize W3.alloc (.cells #[.int .u32 (r : Nat), .int .u32 (s : Nat)] 26) = W4 at *
  clear hX hgl3 HO3 HB3
  go_wp2_with fail
  go_loopw [4, 8] (fun s4 s8 wr => ∃ k g cap : Nat, 1 ≤ k ∧ k ≤ n ∧ s8 = .int .i64 k ∧ s4 = .slice (some ⟨g, 0, none⟩) k cap ∧ X ≠ g ∧ wr.ownsRow w'.heap.size 26 2 (.slice (some ⟨g, 0, none⟩) k cap) k (cellsN (upto (tw (r, s)) k)) ∧ B2 wr X 26 (.int .u32 r) (.int .u32 s) ∧ Below w'.heap.size w' wr) (fun s4 s8 _ => n - (intOf s8).toNat)
  case atStart => exact ⟨1, G, 1, by omega, h1, rfl, rfl, hne, HO4.out, HX.out, HB4.out⟩
  case round =>
    obtain ⟨k, g, cap, hk1, hkn, rfl, rfl, hXg, ho, hx, hb⟩ := hrel
    have HO := Lib.hid ho; clear ho
    have HXX := Lib.hid hx; clear hx
    have HBB := Lib.hid hb; clear hb
    clear HO4 HX HB4 hne
    by_cases hlt : k < n
    · have tl : decide ((k : Int) < (n : Int)) = true := decide_eq_true (by omega)
      have x0 := HXX.out.cells.1
      have x1 := HXX.out.cells.2
      have ek : wrap64 ((k : Int) + 1) = (k : Int) + 1 := by unfold wrap64; omega
      by_cases hk : k = 1
      · have HK := Lib.hid hk
        have tb : ((k : Int) == 1) = true := by simp [hk]
        have HLT := Lib.hid hlt
        have HKN := Lib.hid hkn
        have HK1 := Lib.hid hk1
        have m1 : k + 1 ≤ maxLen := by unfold maxLen; omega
        have m3 : (k + 1) * 8 ≤ 140737488355328 := by omega
        clear hk hlt hkn hk1
        have HOA := Lib.hid (HO.out.alloc (.cells #[.int .u32 (r : Nat), .int .u32 (s : Nat)] 26))
        have m2 : ∀ u ∈ [Value.int .u32 (r : Nat), Value.int .u32 (s : Nat)], u.oneCell' = true := by simp [Value.oneCell']
        have hsz := Nat.le_trans HBB.out.size (show wr.heap.size ≤ (wr.alloc (.cells #[.int .u32 (r : Nat), .int .u32 (s : Nat)] 26)).heap.size by simp)
        go_wp2_with (at_builtin; refine wpList_append_own _ rfl _ _ 39 rfl w'.heap.size 26 i0 (.agg #[.int .u32 0, .int .u32 0]) 2 8 und39 HI.out HZ0.out HZ1.out HZ2.out rfl (by decide) _ _ _ rfl HOA.out ⟨wr.heap.size, 0, none⟩ 1 1 [.int .u32 r, .int .u32 s] rfl rfl (two_new _ _ _ _) m2 m1 m3 hsz ?_)
        intro v8 W8 hown8 hgr8 _
        obtain ⟨g8, cap8, rfl⟩ := ownsRow_succ hown8
        have HG8 := Lib.hid hgr8; clear hgr8
        have HO8 := Lib.hid hown8; clear hown8
        go_wp2_with fail
        go_roundw
        case rel => exact step_rel X (r, s) HXX.out HBB.out hXg HK1.out HLT.out (by rw [HK.out] <;> rfl) HO.out HO8.out HG8.out
        case measure => have := HLT.out; simp [intOf] <;> omega
      · have HK := Lib.hid hk
        have tb : ((k : Int) == 1) = false := by simp; omega
        have HLT := Lib.hid hlt
        have HKN := Lib.hid hkn
        have HK1 := Lib.hid hk1
        have m1 : k + 1 ≤ maxLen := by unfold maxLen; omega
        have m3 : (k + 1) * 8 ≤ 140737488355328 := by omega
        obtain ⟨j, hj⟩ : ∃ j, k = j + 1 := ⟨k - 1, by omega⟩
        have ej : wrap64 ((k : Int) - 1) = (j : Int) := by unfold wrap64; omega
        have ej' : IntKind.i64.wrap ((k : Int) - 1) = (j : Int) := (Go.IntWalk.i64_left _).trans ej
        have ejn : ((j : Nat) : Int).toNat = j := rfl
        have ejb : j < k := by omega
        have ejk : ((j : Nat) : Int) < (k : Int) := by omega
        have hget : (upto (tw (r, s)) k)[j]? = some (tw (r, s) j) := by simp [upto, hj]
        obtain ⟨q0, q1⟩ := cellsN_get _ j _ hget
        have p0 := (HO.out.cells rfl _ _ q0)
        have p1 := (HO.out.cells rfl _ _ q1)
        rw [Addr.add_lit] at p0 p1
        simp only [Nat.zero_add] at p0 p1
        have HTW : Hid (mulc (tw (r, s) j) (r, s) = tw (r, s) k) := by
          have : 1 ≤ j := by omega
          obtain ⟨i, rfl⟩ : ∃ i, j = i + 1 := ⟨j - 1, by omega⟩
          show _ = _
          rw [hj]; rfl
        generalize tw (r, s) j = P at *
        obtain ⟨a, b⟩ := P
        have HGET := Lib.hid hget
        have hk64 : k ≤ 64 := by omega
        clear hk hlt hkn hk1 q0 q1 hget hj
        have HT : Hid (TS w' X (r, s) g k cap (upto (tw (r, s)) k) wr) := ⟨HO.out, HXX.out, HBB.out⟩
        go_upto_region 11 with fail
        go_region_held3 (fun W => W.cell? ⟨X, 0, none⟩ = some (.int .u32 r) ∧ W.cell? ⟨X, 1, none⟩ = some (.int .u32 s) ∧ W.cell? ⟨g, j * 2, none⟩ = some (.int .u32 a) ∧ W.cell? ⟨g, j * 2 + 1, none⟩ = some (.int .u32 b))
          (first | (refine ⟨?_, ?_, ?_, ?_⟩ <;> assumption) | with_reducible exact ⟨HT8.out.2.1.cells.1, HT8.out.2.1.cells.2, HC8.out.1, HC8.out.2⟩ | with_reducible exact HT6.out.facts HGET.out | with_reducible exact (HT6.out.alloc _).facts HGET.out | with_reducible exact HT.out.drew.facts HGET.out)
          (first
            | (with_reducible refine (mulc_at a b r s _).mono ?_; rintro e W6 ⟨pa, pb, rfl, hpq, hb6⟩; have HT6 := Lib.hid (HT.out.drew.step hb6); have HPQ := Lib.hid (hpq.trans HTW.out); clear hb6 hpq)
            | (refine step_TS HT6.out rfl (.tmp 36) (.tmp 44) rfl rfl rfl hk64 hXg HK1.out HPQ.out ?_; intro g8 c8 W8 h8 hne8 hcs8; have HC8 : Hid (W8.cell? ⟨g, j * 2, none⟩ = some (.int .u32 a) ∧ W8.cell? ⟨g, j * 2 + 1, none⟩ = some (.int .u32 b)) := ⟨hcs8 _ _ (cellsN_get _ j _ HGET.out).1, hcs8 _ _ (cellsN_get _ j _ HGET.out).2⟩; have y0 : W8.cell? ⟨X, 0, none⟩ = some (.int .u32 r) := h8.2.1.cells.1; have y1 : W8.cell? ⟨X, 1, none⟩ = some (.int .u32 s) := h8.2.1.cells.2; obtain ⟨y2, y3⟩ := HC8.out; have HT8 := Lib.hid h8; have HN8 := Lib.hid hne8; clear h8 hne8 hcs8))
        go_wp2_with fail
        go_roundw
        case rel => exact ⟨k + 1, g8, c8, by omega, by have := HLT.out; omega, rfl, rfl, HN8.out, HT8.out.1, HT8.out.2.1, HT8.out.2.2⟩
        case measure => have := HLT.out; simp [intOf] <;> omega
    · have tl : decide ((k : Int) < (n : Int)) = false := decide_eq_false (by omega)
      have hkk : k = n := by omega
      subst hkk
      go_wp2_with fail
      exact bodyPost_ret (v := .tuple #[.slice (some ⟨g, 0, none⟩) k cap, .int .i64 0]) (by simp [results, Try.results18, go_sem]) rfl ⟨_, rfl, HO.out, HBB.out⟩
end Go.Proofs.Ytlbgpfddmkpakaa.Nu
