/- Numeric: the reference's Twiddles. -/
import Derived.Test.YtlbgpfddmkpakaaCh
namespace Go.Proofs.Ytlbgpfddmkpakaa.Nu.R
open Go.RowKit
set_option linter.unusedVariables false
set_option linter.unusedSimpArgs false

theorem pts_nat {n : Nat} (hp : (n : Int) ∈ pts) : n = 1 ∨ n = 2 ∨ n = 4 ∨ n = 8 ∨ n = 16 ∨ n = 32 ∨ n = 64 := by
  simp only [pts, List.mem_cons, List.not_mem_nil, or_false] at hp; omega
set_option maxRecDepth 100000 in
set_option maxHeartbeats 8000000 in
theorem rtw_4 {n r s : Nat} (h4 : 4 ≤ n) (hp : (n : Int) ∈ pts)
    (k1 : ∀ w, (convert 83 31 (.float .f64 (tOf (n * 2)).1)).run Try.prog w = .ok (.float .f32 r) w) {s0 : Nat} (k2 : ∀ w, (convert 83 31 (.float .f64 (tOf (n * 2)).2)).run Try.prog w = .ok (.float .f32 s0) w)
    (kn : ∀ w, (Op.unary UnOp.neg (.float .f32 s0)).run Try.prog w = .ok (.float .f32 s) w)
    (hr : canon r = some r) (hs : canon s = some s) (hone : 2 ≤ n → mulc (1065353216, 0) (r, s) = (r, s)) (w : World) :
    Calls Try.prog 19 #[.int .i64 n] w fun e w' => ∃ v, e = .returned (.tuple #[v, .int .i64 0]) ∧ w'.ownsRow w.heap.size 57 2 v n (cellsN (upto (tw (r, s)) n)) ∧ Below w.heap.size w w' := by
  have HP := Lib.hid (pts_nat hp)
  have tp : decide ((n : Int) ∈ pts) = true := decide_eq_true hp
  have t2 : ((n : Int) == 2) = false := by simp; omega
  have t4 : decide (4 ≤ (n : Int)) = true := decide_eq_true (by omega)
  have H4 := Lib.hid h4
  clear h4
  have HR := Lib.hid hr
  have HS := Lib.hid hs
  have H1 := Lib.hid hone
  clear hp hr hs hone
  go_enter Try.func19, Try.ntmps19
  go_wp2_with fail
  refine (rpoints_at _ _).mono ?_
  rintro e w' ⟨rfl, rfl⟩
  rw [tp]
  clear tp
  go_wp2_with fail
  go_loopw [4, 5, 6] (fun s4 s5 s6 wr => ∃ i : Nat, (i = 8 ∨ i = 16 ∨ i = 32 ∨ i = 64 ∨ i = 128) ∧ i ≤ n * 2 ∧ s6 = .int .i64 i ∧ s4 = .float .f64 (tOf i).1 ∧ s5 = .float .f64 (tOf i).2 ∧ w' = wr) (fun _ _ s6 _ => 129 - (intOf s6).toNat)
  case atStart => exact ⟨8, .inl rfl, by have := H4.out; omega, rfl, rfl, rfl, rfl⟩
  case round =>
    obtain ⟨i, hi, hin, rfl, rfl, rfl, rfl⟩ := hrel
    by_cases hle : i ≤ n
    · have tl : decide ((i : Int) ≤ (n : Int)) = true := decide_eq_true (by omega)
      have hi4 : i = 8 ∨ i = 16 ∨ i = 32 ∨ i = 64 := by have := HP.out; omega
      obtain ⟨a, b, c, d, f1, f2, f3, f4, f5, f6⟩ := t_step i (by simp only [List.mem_cons, List.not_mem_nil, or_false]; exact hi4)
      have q1 := fun w => run_float_arith (P := Try.prog) w .add 83 .f64 one64 _ a f1
      have q2 := fun w => run_float_arith (P := Try.prog) w .sub 83 .f64 one64 _ b f2
      have q3 := fun w => run_float_arith (P := Try.prog) w .quo 83 .f64 a two64 c f3
      have q4 := fun w => run_float_arith (P := Try.prog) w .quo 83 .f64 b two64 d f4
      have F5 := Lib.hid f5
      have F6 := Lib.hid f6
      have ek : wrap64 ((i : Int) * 2) = (i : Int) * 2 := by unfold wrap64; omega
      have HI4 := Lib.hid hi4
      have HLE := Lib.hid hle
      clear f1 f2 f3 f4 f5 f6 hi hin hle hi4
      generalize (tOf i).1 = x at *
      generalize (tOf i).2 = y at *
      go_wp2_with fail
      refine (sqrt_at F5.out _).mono ?_
      rintro e w'' ⟨rfl, rfl⟩
      go_wp2_with fail
      refine (sqrt_at F6.out _).mono ?_
      rintro e w'' ⟨rfl, rfl⟩
      go_wp2_with fail
      go_roundw
      case rel => exact ⟨i * 2, by have := HI4.out; omega, by have := HLE.out; omega, by rw [ek, Int.natCast_mul]; rfl, rfl, rfl, trivial⟩
      case measure =>
        have h := HI4.out
        rw [ek]
        show 129 - ((i : Int) * 2).toNat < 129 - (i : Int).toNat
        clear F5 F6 HR HS HP
        omega
    · have tl : decide ((i : Int) ≤ (n : Int)) = false := decide_eq_false (by omega)
      have tl' : decide (i ≤ n) = false := decide_eq_false hle
      have hin2 : i = n * 2 := by have := HP.out; have := H4.out; omega
      rw [← hin2] at k1 k2
      clear hi hin hle hin2
      generalize (tOf i).1 = x at *
      generalize (tOf i).2 = y at *
      go_wp2_with fail
      refine (rof_at _ _ _).mono ?_
      rintro e W1 ⟨rfl, hb1⟩
      rw [canon_one, canon_zero]
      simp only [cb, Option.getD_some]
      rw [show ((1065353216 : Nat) : Int) = 1065353216 from rfl, show ((0 : Nat) : Int) = 0 from rfl]
      go_wp2_with fail
      have HO := Lib.hid (own_one (w := W1) w'.heap.size (.int .u32 1065353216) (.int .u32 0) hb1.size)
      have HB := Lib.hid (hb1.alloc hb1.size (.cells #[.int .u32 1065353216, .int .u32 0] 57))
      have hgl : W1.heap.size < (W1.alloc (.cells #[.int .u32 1065353216, .int .u32 0] 57)).heap.size := by simp
      generalize W1.alloc (.cells #[.int .u32 1065353216, .int .u32 0] 57) = W2 at *
      obtain ⟨G, hG⟩ : ∃ G, G = W1.heap.size := ⟨_, rfl⟩
      rw [← hG] at HO hgl ⊢
      clear hG hb1
      refine (rof_at _ _ _).mono ?_
      rintro e W3 ⟨rfl, hb3⟩
      rw [HR.out, HS.out]
      simp only [cb, Option.getD_some]
      have HO3 := Lib.hid (show W3.ownsRow w'.heap.size 57 2 (.slice (some ⟨G, 0, none⟩) 1 1) 1 (cellsN (upto (tw (r, s)) 1)) from own_step HO.out hb3)
      have HB3 := Lib.hid (HB.out.trans (hb3.mono HB.out.size))
      have hgl3 : G < W3.heap.size := Nat.lt_of_lt_of_le hgl hb3.size
      clear hb3 hgl HO HB
      go_upto_region 18 with fail
      have HX := Lib.hid (B2.made W3 (.int .u32 (r : Nat)) (.int .u32 (s : Nat)) 57)
      have HO4 := Lib.hid (HO3.out.alloc (.cells #[.int .u32 (r : Nat), .int .u32 (s : Nat)] 57))
      have HB4 := Lib.hid (HB3.out.alloc HB3.out.size (.cells #[.int .u32 (r : Nat), .int .u32 (s : Nat)] 57))
      have hne : W3.heap.size ≠ G := Nat.ne_of_gt hgl3
      obtain ⟨X, hX⟩ : ∃ X, X = W3.heap.size := ⟨_, rfl⟩
      rw [← hX] at HX hne ⊢
      generalize W3.alloc (.cells #[.int .u32 (r : Nat), .int .u32 (s : Nat)] 57) = W4 at *
      clear hX hgl3 HO3 HB3
      go_wp2_with fail
      go_loopw [9, 11] (fun s4 s8 wr => ∃ k g cap : Nat, 1 ≤ k ∧ k ≤ n ∧ s8 = .int .i64 k ∧ s4 = .slice (some ⟨g, 0, none⟩) k cap ∧ X ≠ g ∧ wr.ownsRow w'.heap.size 57 2 (.slice (some ⟨g, 0, none⟩) k cap) k (cellsN (upto (tw (r, s)) k)) ∧ B2 wr X 57 (.int .u32 r) (.int .u32 s) ∧ Below w'.heap.size w' wr) (fun s4 s8 _ => n - (intOf s8).toNat)
      case atStart => exact ⟨1, G, 1, by omega, by have := HP.out; omega, rfl, rfl, hne, HO4.out, HX.out, HB4.out⟩
      case round =>
        obtain ⟨k, g, cap, hk1, hkn, rfl, rfl, hXg, ho, hx, hb⟩ := hrel
        have HO := Lib.hid ho; clear ho
        have HXX := Lib.hid hx; clear hx
        have HBB := Lib.hid hb; clear hb
        clear HO4 HX HB4 hne
        have hn64 : n ≤ 64 := by have := HP.out; omega
        by_cases hlt : k < n
        · have tl : decide ((k : Int) < (n : Int)) = true := decide_eq_true (by omega)
          have x0 := HXX.out.cells.1
          have x1 := HXX.out.cells.2
          have ek : wrap64 ((k : Int) + 1) = (k : Int) + 1 := by unfold wrap64; omega
          have HLT := Lib.hid hlt
          have HKN := Lib.hid hkn
          have HK1 := Lib.hid hk1
          obtain ⟨j, hj⟩ : ∃ j, k = j + 1 := ⟨k - 1, by omega⟩
          have ej : wrap64 ((k : Int) - 1) = (j : Int) := by unfold wrap64; omega
          have ej' : IntKind.i64.wrap ((k : Int) - 1) = (j : Int) := (Go.IntWalk.i64_left _).trans ej
          have ejn : ((j : Nat) : Int).toNat = j := rfl
          have ejb : j < k := by omega
          have ejk : ((j : Nat) : Int) < (k : Int) := by omega
          have hget : (upto (tw (r, s)) k)[j]? = some (tw (r, s) j) := by simp [upto, hj]
          obtain ⟨q0, q1⟩ := cellsN_get _ j _ hget
          have p0 := (HO.out.cells rfl _ _ q0)
          have p1 := (HO.out.cells rfl _ _ q1)
          rw [Addr.add_lit] at p0 p1
          simp only [Nat.zero_add] at p0 p1
          have HTW : Hid (mulc (tw (r, s) j) (r, s) = tw (r, s) k) := by
            show _ = _
            rw [hj]
            cases j with
            | zero => exact H1.out (by omega)
            | succ i => rfl
          generalize tw (r, s) j = P at *
          obtain ⟨a, b⟩ := P
          have HGET := Lib.hid hget
          have hk64 : k ≤ 64 := by omega
          clear hlt hkn hk1 q0 q1 hget hj hn64
          have HT : Hid (TS w' X (r, s) g k cap (upto (tw (r, s)) k) wr) := ⟨HO.out, HXX.out, HBB.out⟩
          go_upto_region 21 with fail
          go_region_held3 (fun W => W.cell? ⟨X, 0, none⟩ = some (.int .u32 r) ∧ W.cell? ⟨X, 1, none⟩ = some (.int .u32 s) ∧ W.cell? ⟨g, j * 2, none⟩ = some (.int .u32 a) ∧ W.cell? ⟨g, j * 2 + 1, none⟩ = some (.int .u32 b))
            (first | (refine ⟨?_, ?_, ?_, ?_⟩ <;> assumption) | with_reducible exact ⟨HT8.out.2.1.cells.1, HT8.out.2.1.cells.2, HC8.out.1, HC8.out.2⟩ | with_reducible exact HT6.out.facts HGET.out | with_reducible exact (HT6.out.alloc _).facts HGET.out | with_reducible exact HT.out.drew.facts HGET.out)
            (first
              | (with_reducible refine (mulc_at a b r s _).mono ?_; rintro e W6 ⟨pa, pb, rfl, hpq, hb6⟩; have HT6 := Lib.hid (HT.out.drew.step hb6); have HPQ := Lib.hid (hpq.trans HTW.out); clear hb6 hpq)
              | (refine step_TS HT6.out rfl (.tmp 47) (.tmp 55) rfl rfl rfl hk64 hXg HK1.out HPQ.out ?_; intro g8 c8 W8 h8 hne8 hcs8; have HC8 : Hid (W8.cell? ⟨g, j * 2, none⟩ = some (.int .u32 a) ∧ W8.cell? ⟨g, j * 2 + 1, none⟩ = some (.int .u32 b)) := ⟨hcs8 _ _ (cellsN_get _ j _ HGET.out).1, hcs8 _ _ (cellsN_get _ j _ HGET.out).2⟩; have y0 : W8.cell? ⟨X, 0, none⟩ = some (.int .u32 r) := h8.2.1.cells.1; have y1 : W8.cell? ⟨X, 1, none⟩ = some (.int .u32 s) := h8.2.1.cells.2; obtain ⟨y2, y3⟩ := HC8.out; have HT8 := Lib.hid h8; have HN8 := Lib.hid hne8; clear h8 hne8 hcs8))
          go_wp2_with fail
          go_roundw
          case rel => exact ⟨k + 1, g8, c8, by omega, by have := HLT.out; omega, rfl, rfl, HN8.out, HT8.out.1, HT8.out.2.1, HT8.out.2.2⟩
          case measure => have := HLT.out; simp [intOf] <;> omega
        · have tl : decide ((k : Int) < (n : Int)) = false := decide_eq_false (by omega)
          have hkk : k = n := by omega
          subst hkk
          go_wp2_with fail
          exact bodyPost_ret (v := .tuple #[.slice (some ⟨g, 0, none⟩) k cap, .int .i64 0]) (by simp [results, Try.results19, go_sem]) rfl ⟨_, rfl, HO.out, HBB.out⟩
set_option maxRecDepth 100000 in
set_option maxHeartbeats 8000000 in
theorem rtw_1 {n r s : Nat} (h4 : n = 1) (hp : (n : Int) ∈ pts)
    (k1 : ∀ w, (convert 83 31 (.float .f64 one64)).run Try.prog w = .ok (.float .f32 r) w) {s0 : Nat} (k2 : ∀ w, (convert 83 31 (.float .f64 0)).run Try.prog w = .ok (.float .f32 s0) w)
    (kn : ∀ w, (Op.unary UnOp.neg (.float .f32 s0)).run Try.prog w = .ok (.float .f32 s) w)
    (hr : canon r = some r) (hs : canon s = some s) (hone : 2 ≤ n → mulc (1065353216, 0) (r, s) = (r, s)) (w : World) :
    Calls Try.prog 19 #[.int .i64 n] w fun e w' => ∃ v, e = .returned (.tuple #[v, .int .i64 0]) ∧ w'.ownsRow w.heap.size 57 2 v n (cellsN (upto (tw (r, s)) n)) ∧ Below w.heap.size w w' := by
  have HP := Lib.hid (pts_nat hp)
  have tp : decide ((n : Int) ∈ pts) = true := decide_eq_true hp
  have t2 : ((n : Int) == 2) = false := by simp; omega
  have t4 : decide (4 ≤ (n : Int)) = false := decide_eq_false (by omega)
  have H4 := Lib.hid h4
  clear h4
  have HR := Lib.hid hr
  have HS := Lib.hid hs
  have H1 := Lib.hid hone
  clear hp hr hs hone
  go_enter Try.func19, Try.ntmps19
  go_wp2_with fail
  refine (rpoints_at _ _).mono ?_
  rintro e w' ⟨rfl, rfl⟩
  rw [tp]
  clear tp
  go_wp2_with fail
  go_loopw [4, 5, 6] (fun s4 s5 s6 wr => s6 = .int .i64 8 ∧ s4 = .float .f64 one64 ∧ s5 = .float .f64 0 ∧ w' = wr) (fun _ _ s6 _ => 129 - (intOf s6).toNat)
  case atStart => exact ⟨rfl, rfl, rfl, rfl⟩
  case round =>
    obtain ⟨rfl, rfl, rfl, rfl⟩ := hrel
    have tl : decide ((8 : Int) ≤ (n : Int)) = false := decide_eq_false (by have := H4.out; omega)
    · skip
      go_wp2_with fail
      refine (rof_at _ _ _).mono ?_
      rintro e W1 ⟨rfl, hb1⟩
      rw [canon_one, canon_zero]
      simp only [cb, Option.getD_some]
      rw [show ((1065353216 : Nat) : Int) = 1065353216 from rfl, show ((0 : Nat) : Int) = 0 from rfl]
      go_wp2_with fail
      have HO := Lib.hid (own_one (w := W1) w'.heap.size (.int .u32 1065353216) (.int .u32 0) hb1.size)
      have HB := Lib.hid (hb1.alloc hb1.size (.cells #[.int .u32 1065353216, .int .u32 0] 57))
      have hgl : W1.heap.size < (W1.alloc (.cells #[.int .u32 1065353216, .int .u32 0] 57)).heap.size := by simp
      generalize W1.alloc (.cells #[.int .u32 1065353216, .int .u32 0] 57) = W2 at *
      obtain ⟨G, hG⟩ : ∃ G, G = W1.heap.size := ⟨_, rfl⟩
      rw [← hG] at HO hgl ⊢
      clear hG hb1
      refine (rof_at _ _ _).mono ?_
      rintro e W3 ⟨rfl, hb3⟩
      rw [HR.out, HS.out]
      simp only [cb, Option.getD_some]
      have HO3 := Lib.hid (show W3.ownsRow w'.heap.size 57 2 (.slice (some ⟨G, 0, none⟩) 1 1) 1 (cellsN (upto (tw (r, s)) 1)) from own_step HO.out hb3)
      have HB3 := Lib.hid (HB.out.trans (hb3.mono HB.out.size))
      have hgl3 : G < W3.heap.size := Nat.lt_of_lt_of_le hgl hb3.size
      clear hb3 hgl HO HB
      go_upto_region 18 with fail
      have HX := Lib.hid (B2.made W3 (.int .u32 (r : Nat)) (.int .u32 (s : Nat)) 57)
      have HO4 := Lib.hid (HO3.out.alloc (.cells #[.int .u32 (r : Nat), .int .u32 (s : Nat)] 57))
      have HB4 := Lib.hid (HB3.out.alloc HB3.out.size (.cells #[.int .u32 (r : Nat), .int .u32 (s : Nat)] 57))
      have hne : W3.heap.size ≠ G := Nat.ne_of_gt hgl3
      obtain ⟨X, hX⟩ : ∃ X, X = W3.heap.size := ⟨_, rfl⟩
      rw [← hX] at HX hne ⊢
      generalize W3.alloc (.cells #[.int .u32 (r : Nat), .int .u32 (s : Nat)] 57) = W4 at *
      clear hX hgl3 HO3 HB3
      go_wp2_with fail
      go_loopw [9, 11] (fun s4 s8 wr => ∃ k g cap : Nat, 1 ≤ k ∧ k ≤ n ∧ s8 = .int .i64 k ∧ s4 = .slice (some ⟨g, 0, none⟩) k cap ∧ X ≠ g ∧ wr.ownsRow w'.heap.size 57 2 (.slice (some ⟨g, 0, none⟩) k cap) k (cellsN (upto (tw (r, s)) k)) ∧ B2 wr X 57 (.int .u32 r) (.int .u32 s) ∧ Below w'.heap.size w' wr) (fun s4 s8 _ => n - (intOf s8).toNat)
      case atStart => exact ⟨1, G, 1, by omega, by have := HP.out; omega, rfl, rfl, hne, HO4.out, HX.out, HB4.out⟩
      case round =>
        obtain ⟨k, g, cap, hk1, hkn, rfl, rfl, hXg, ho, hx, hb⟩ := hrel
        have HO := Lib.hid ho; clear ho
        have HXX := Lib.hid hx; clear hx
        have HBB := Lib.hid hb; clear hb
        clear HO4 HX HB4 hne
        have hn64 : n ≤ 64 := by have := HP.out; omega
        by_cases hlt : k < n
        · have tl : decide ((k : Int) < (n : Int)) = true := decide_eq_true (by omega)
          have x0 := HXX.out.cells.1
          have x1 := HXX.out.cells.2
          have ek : wrap64 ((k : Int) + 1) = (k : Int) + 1 := by unfold wrap64; omega
          have HLT := Lib.hid hlt
          have HKN := Lib.hid hkn
          have HK1 := Lib.hid hk1
          obtain ⟨j, hj⟩ : ∃ j, k = j + 1 := ⟨k - 1, by omega⟩
          have ej : wrap64 ((k : Int) - 1) = (j : Int) := by unfold wrap64; omega
          have ej' : IntKind.i64.wrap ((k : Int) - 1) = (j : Int) := (Go.IntWalk.i64_left _).trans ej
          have ejn : ((j : Nat) : Int).toNat = j := rfl
          have ejb : j < k := by omega
          have ejk : ((j : Nat) : Int) < (k : Int) := by omega
          have hget : (upto (tw (r, s)) k)[j]? = some (tw (r, s) j) := by simp [upto, hj]
          obtain ⟨q0, q1⟩ := cellsN_get _ j _ hget
          have p0 := (HO.out.cells rfl _ _ q0)
          have p1 := (HO.out.cells rfl _ _ q1)
          rw [Addr.add_lit] at p0 p1
          simp only [Nat.zero_add] at p0 p1
          have HTW : Hid (mulc (tw (r, s) j) (r, s) = tw (r, s) k) := by
            show _ = _
            rw [hj]
            cases j with
            | zero => exact H1.out (by omega)
            | succ i => rfl
          generalize tw (r, s) j = P at *
          obtain ⟨a, b⟩ := P
          have HGET := Lib.hid hget
          have hk64 : k ≤ 64 := by omega
          clear hlt hkn hk1 q0 q1 hget hj hn64
          have HT : Hid (TS w' X (r, s) g k cap (upto (tw (r, s)) k) wr) := ⟨HO.out, HXX.out, HBB.out⟩
          go_upto_region 21 with fail
          go_region_held3 (fun W => W.cell? ⟨X, 0, none⟩ = some (.int .u32 r) ∧ W.cell? ⟨X, 1, none⟩ = some (.int .u32 s) ∧ W.cell? ⟨g, j * 2, none⟩ = some (.int .u32 a) ∧ W.cell? ⟨g, j * 2 + 1, none⟩ = some (.int .u32 b))
            (first | (refine ⟨?_, ?_, ?_, ?_⟩ <;> assumption) | with_reducible exact ⟨HT8.out.2.1.cells.1, HT8.out.2.1.cells.2, HC8.out.1, HC8.out.2⟩ | with_reducible exact HT6.out.facts HGET.out | with_reducible exact (HT6.out.alloc _).facts HGET.out | with_reducible exact HT.out.drew.facts HGET.out)
            (first
              | (with_reducible refine (mulc_at a b r s _).mono ?_; rintro e W6 ⟨pa, pb, rfl, hpq, hb6⟩; have HT6 := Lib.hid (HT.out.drew.step hb6); have HPQ := Lib.hid (hpq.trans HTW.out); clear hb6 hpq)
              | (refine step_TS HT6.out rfl (.tmp 47) (.tmp 55) rfl rfl rfl hk64 hXg HK1.out HPQ.out ?_; intro g8 c8 W8 h8 hne8 hcs8; have HC8 : Hid (W8.cell? ⟨g, j * 2, none⟩ = some (.int .u32 a) ∧ W8.cell? ⟨g, j * 2 + 1, none⟩ = some (.int .u32 b)) := ⟨hcs8 _ _ (cellsN_get _ j _ HGET.out).1, hcs8 _ _ (cellsN_get _ j _ HGET.out).2⟩; have y0 : W8.cell? ⟨X, 0, none⟩ = some (.int .u32 r) := h8.2.1.cells.1; have y1 : W8.cell? ⟨X, 1, none⟩ = some (.int .u32 s) := h8.2.1.cells.2; obtain ⟨y2, y3⟩ := HC8.out; have HT8 := Lib.hid h8; have HN8 := Lib.hid hne8; clear h8 hne8 hcs8))
          go_wp2_with fail
          go_roundw
          case rel => exact ⟨k + 1, g8, c8, by omega, by have := HLT.out; omega, rfl, rfl, HN8.out, HT8.out.1, HT8.out.2.1, HT8.out.2.2⟩
          case measure => have := HLT.out; simp [intOf] <;> omega
        · have tl : decide ((k : Int) < (n : Int)) = false := decide_eq_false (by omega)
          have hkk : k = n := by omega
          subst hkk
          go_wp2_with fail
          exact bodyPost_ret (v := .tuple #[.slice (some ⟨g, 0, none⟩) k cap, .int .i64 0]) (by simp [results, Try.results19, go_sem]) rfl ⟨_, rfl, HO.out, HBB.out⟩
set_option maxRecDepth 100000 in
set_option maxHeartbeats 8000000 in
theorem rtw_2 {n r s : Nat} (h4 : n = 2) (hp : (n : Int) ∈ pts)
    (k1 : ∀ w, (convert 83 31 (.float .f64 13830554455654793216)).run Try.prog w = .ok (.float .f32 r) w) {s0 : Nat} (k2 : ∀ w, (convert 83 31 (.float .f64 0)).run Try.prog w = .ok (.float .f32 s0) w)
    (kn : ∀ w, (Op.unary UnOp.neg (.float .f32 s0)).run Try.prog w = .ok (.float .f32 s) w)
    (hr : canon r = some r) (hs : canon s = some s) (hone : 2 ≤ n → mulc (1065353216, 0) (r, s) = (r, s)) (w : World) :
    Calls Try.prog 19 #[.int .i64 n] w fun e w' => ∃ v, e = .returned (.tuple #[v, .int .i64 0]) ∧ w'.ownsRow w.heap.size 57 2 v n (cellsN (upto (tw (r, s)) n)) ∧ Below w.heap.size w w' := by
  have HP := Lib.hid (pts_nat hp)
  have tp : decide ((n : Int) ∈ pts) = true := decide_eq_true hp
  have t2 : ((n : Int) == 2) = true := by simp; omega
  have t4 : decide (4 ≤ (n : Int)) = false := decide_eq_false (by omega)
  have H4 := Lib.hid h4
  clear h4
  have HR := Lib.hid hr
  have HS := Lib.hid hs
  have H1 := Lib.hid hone
  clear hp hr hs hone
  go_enter Try.func19, Try.ntmps19
  go_wp2_with fail
  refine (rpoints_at _ _).mono ?_
  rintro e w' ⟨rfl, rfl⟩
  rw [tp]
  clear tp
  go_wp2_with fail
  go_loopw [4, 5, 6] (fun s4 s5 s6 wr => s6 = .int .i64 8 ∧ s4 = .float .f64 13830554455654793216 ∧ s5 = .float .f64 0 ∧ w' = wr) (fun _ _ s6 _ => 129 - (intOf s6).toNat)
  case atStart => exact ⟨rfl, rfl, rfl, rfl⟩
  case round =>
    obtain ⟨rfl, rfl, rfl, rfl⟩ := hrel
    have tl : decide ((8 : Int) ≤ (n : Int)) = false := decide_eq_false (by have := H4.out; omega)
    · skip
      go_wp2_with fail
      refine (rof_at _ _ _).mono ?_
      rintro e W1 ⟨rfl, hb1⟩
      rw [canon_one, canon_zero]
      simp only [cb, Option.getD_some]
      rw [show ((1065353216 : Nat) : Int) = 1065353216 from rfl, show ((0 : Nat) : Int) = 0 from rfl]
      go_wp2_with fail
      have HO := Lib.hid (own_one (w := W1) w'.heap.size (.int .u32 1065353216) (.int .u32 0) hb1.size)
      have HB := Lib.hid (hb1.alloc hb1.size (.cells #[.int .u32 1065353216, .int .u32 0] 57))
      have hgl : W1.heap.size < (W1.alloc (.cells #[.int .u32 1065353216, .int .u32 0] 57)).heap.size := by simp
      generalize W1.alloc (.cells #[.int .u32 1065353216, .int .u32 0] 57) = W2 at *
      obtain ⟨G, hG⟩ : ∃ G, G = W1.heap.size := ⟨_, rfl⟩
      rw [← hG] at HO hgl ⊢
      clear hG hb1
      refine (rof_at _ _ _).mono ?_
      rintro e W3 ⟨rfl, hb3⟩
      rw [HR.out, HS.out]
      simp only [cb, Option.getD_some]
      have HO3 := Lib.hid (show W3.ownsRow w'.heap.size 57 2 (.slice (some ⟨G, 0, none⟩) 1 1) 1 (cellsN (upto (tw (r, s)) 1)) from own_step HO.out hb3)
      have HB3 := Lib.hid (HB.out.trans (hb3.mono HB.out.size))
      have hgl3 : G < W3.heap.size := Nat.lt_of_lt_of_le hgl hb3.size
      clear hb3 hgl HO HB
      go_upto_region 18 with fail
      have HX := Lib.hid (B2.made W3 (.int .u32 (r : Nat)) (.int .u32 (s : Nat)) 57)
      have HO4 := Lib.hid (HO3.out.alloc (.cells #[.int .u32 (r : Nat), .int .u32 (s : Nat)] 57))
      have HB4 := Lib.hid (HB3.out.alloc HB3.out.size (.cells #[.int .u32 (r : Nat), .int .u32 (s : Nat)] 57))
      have hne : W3.heap.size ≠ G := Nat.ne_of_gt hgl3
      obtain ⟨X, hX⟩ : ∃ X, X = W3.heap.size := ⟨_, rfl⟩
      rw [← hX] at HX hne ⊢
      generalize W3.alloc (.cells #[.int .u32 (r : Nat), .int .u32 (s : Nat)] 57) = W4 at *
      clear hX hgl3 HO3 HB3
      go_wp2_with fail
      go_loopw [9, 11] (fun s4 s8 wr => ∃ k g cap : Nat, 1 ≤ k ∧ k ≤ n ∧ s8 = .int .i64 k ∧ s4 = .slice (some ⟨g, 0, none⟩) k cap ∧ X ≠ g ∧ wr.ownsRow w'.heap.size 57 2 (.slice (some ⟨g, 0, none⟩) k cap) k (cellsN (upto (tw (r, s)) k)) ∧ B2 wr X 57 (.int .u32 r) (.int .u32 s) ∧ Below w'.heap.size w' wr) (fun s4 s8 _ => n - (intOf s8).toNat)
      case atStart => exact ⟨1, G, 1, by omega, by have := HP.out; omega, rfl, rfl, hne, HO4.out, HX.out, HB4.out⟩
      case round =>
        obtain ⟨k, g, cap, hk1, hkn, rfl, rfl, hXg, ho, hx, hb⟩ := hrel
        have HO := Lib.hid ho; clear ho
        have HXX := Lib.hid hx; clear hx
        have HBB := Lib.hid hb; clear hb
        clear HO4 HX HB4 hne
        have hn64 : n ≤ 64 := by have := HP.out; omega
        by_cases hlt : k < n
        · have tl : decide ((k : Int) < (n : Int)) = true := decide_eq_true (by omega)
          have x0 := HXX.out.cells.1
          have x1 := HXX.out.cells.2
          have ek : wrap64 ((k : Int) + 1) = (k : Int) + 1 := by unfold wrap64; omega
          have HLT := Lib.hid hlt
          have HKN := Lib.hid hkn
          have HK1 := Lib.hid hk1
          obtain ⟨j, hj⟩ : ∃ j, k = j + 1 := ⟨k - 1, by omega⟩
          have ej : wrap64 ((k : Int) - 1) = (j : Int) := by unfold wrap64; omega
          have ej' : IntKind.i64.wrap ((k : Int) - 1) = (j : Int) := (Go.IntWalk.i64_left _).trans ej
          have ejn : ((j : Nat) : Int).toNat = j := rfl
          have ejb : j < k := by omega
          have ejk : ((j : Nat) : Int) < (k : Int) := by omega
          have hget : (upto (tw (r, s)) k)[j]? = some (tw (r, s) j) := by simp [upto, hj]
          obtain ⟨q0, q1⟩ := cellsN_get _ j _ hget
          have p0 := (HO.out.cells rfl _ _ q0)
          have p1 := (HO.out.cells rfl _ _ q1)
          rw [Addr.add_lit] at p0 p1
          simp only [Nat.zero_add] at p0 p1
          have HTW : Hid (mulc (tw (r, s) j) (r, s) = tw (r, s) k) := by
            show _ = _
            rw [hj]
            cases j with
            | zero => exact H1.out (by omega)
            | succ i => rfl
          generalize tw (r, s) j = P at *
          obtain ⟨a, b⟩ := P
          have HGET := Lib.hid hget
          have hk64 : k ≤ 64 := by omega
          clear hlt hkn hk1 q0 q1 hget hj hn64
          have HT : Hid (TS w' X (r, s) g k cap (upto (tw (r, s)) k) wr) := ⟨HO.out, HXX.out, HBB.out⟩
          go_upto_region 21 with fail
          go_region_held3 (fun W => W.cell? ⟨X, 0, none⟩ = some (.int .u32 r) ∧ W.cell? ⟨X, 1, none⟩ = some (.int .u32 s) ∧ W.cell? ⟨g, j * 2, none⟩ = some (.int .u32 a) ∧ W.cell? ⟨g, j * 2 + 1, none⟩ = some (.int .u32 b))
            (first | (refine ⟨?_, ?_, ?_, ?_⟩ <;> assumption) | with_reducible exact ⟨HT8.out.2.1.cells.1, HT8.out.2.1.cells.2, HC8.out.1, HC8.out.2⟩ | with_reducible exact HT6.out.facts HGET.out | with_reducible exact (HT6.out.alloc _).facts HGET.out | with_reducible exact HT.out.drew.facts HGET.out)
            (first
              | (with_reducible refine (mulc_at a b r s _).mono ?_; rintro e W6 ⟨pa, pb, rfl, hpq, hb6⟩; have HT6 := Lib.hid (HT.out.drew.step hb6); have HPQ := Lib.hid (hpq.trans HTW.out); clear hb6 hpq)
              | (refine step_TS HT6.out rfl (.tmp 47) (.tmp 55) rfl rfl rfl hk64 hXg HK1.out HPQ.out ?_; intro g8 c8 W8 h8 hne8 hcs8; have HC8 : Hid (W8.cell? ⟨g, j * 2, none⟩ = some (.int .u32 a) ∧ W8.cell? ⟨g, j * 2 + 1, none⟩ = some (.int .u32 b)) := ⟨hcs8 _ _ (cellsN_get _ j _ HGET.out).1, hcs8 _ _ (cellsN_get _ j _ HGET.out).2⟩; have y0 : W8.cell? ⟨X, 0, none⟩ = some (.int .u32 r) := h8.2.1.cells.1; have y1 : W8.cell? ⟨X, 1, none⟩ = some (.int .u32 s) := h8.2.1.cells.2; obtain ⟨y2, y3⟩ := HC8.out; have HT8 := Lib.hid h8; have HN8 := Lib.hid hne8; clear h8 hne8 hcs8))
          go_wp2_with fail
          go_roundw
          case rel => exact ⟨k + 1, g8, c8, by omega, by have := HLT.out; omega, rfl, rfl, HN8.out, HT8.out.1, HT8.out.2.1, HT8.out.2.2⟩
          case measure => have := HLT.out; simp [intOf] <;> omega
        · have tl : decide ((k : Int) < (n : Int)) = false := decide_eq_false (by omega)
          have hkk : k = n := by omega
          subst hkk
          go_wp2_with fail
          exact bodyPost_ret (v := .tuple #[.slice (some ⟨g, 0, none⟩) k cap, .int .i64 0]) (by simp [results, Try.results19, go_sem]) rfl ⟨_, rfl, HO.out, HBB.out⟩
end Go.Proofs.Ytlbgpfddmkpakaa.Nu.R
