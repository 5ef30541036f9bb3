/- Numeric: NumericPolynomials, the walk. -/
import Derived.Test.YtlbgpfddmkpakaaJg
import Derived.Test.YtlbgpfddmkpakaaFe
namespace Go.Proofs.Ytlbgpfddmkpakaa.Nu
open Go.RowKit
set_option linter.unusedVariables false
set_option linter.unusedSimpArgs false
attribute [local go_sem high] eqn26 eqn57

/-- The world within a drawn region that reckons a polynomial. -/
structure QL (e : TypeId) (W : World) (v : Value) (l : List (Nat × Nat)) (x : Nat × Nat) (d : Nat → Bool) (y0 y1 y2 y3 y4 y5 y6 y7 z : Value) (Wx : World) : Prop where
  bu : Below W.heap.size W Wx
  d0 : d 0 = true → y0 = v
  d1 : d 1 = true → d 9 = false → Row Wx y1 l
  d2 : d 2 = true → y2 = num x
  d3 : d 3 = true → d 9 = false → Row Wx y3 [x]
  d4 : d 4 = true → d 9 = false → ∃ g cap : Nat, y4 = .slice (some ⟨g, 0, none⟩) (1 : Nat) cap ∧ Rd Wx g 0 [x]
  d5 : d 5 = true → d 9 = false → ∃ g : Nat, y5 = .pointer (some ⟨g, 0, none⟩) ∧ Rd Wx g 0 [x]
  d6 : d 6 = true → y6 = num x
  d7 : d 7 = true → y7 = num (ho x l)
  d8 : d 8 = true → ∃ Y : Nat, z = .pointer (some ⟨Y, 0, none⟩) ∧ W.heap.size ≤ Y ∧ ((d 9 = true ∧ Pt Wx Y e (ho x l)) ∨ (d 9 = false ∧ Pt Wx Y e (0, 0)))
  k9 : d 9 = true → ∀ i, i < 9 → d i = true
section
variable {e : TypeId} {W Wx Wn : World} {v : Value} {l : List (Nat × Nat)} {x : Nat × Nat} {d : Nat → Bool} {y0 y1 y2 y3 y4 y5 y6 y7 z : Value}
theorem QL.start (hd : ∀ i, i < 10 → d i = false) : QL e W v l x d undef undef undef undef undef undef undef undef undef W.drew := by
  have z : ∀ {i : Nat} {P : Prop}, i < 10 → d i = true → P := fun h h' => by rw [hd _ h] at h'; cases h'
  exact ⟨(Below.refl _ _).drew, z (by omega), z (by omega), z (by omega), z (by omega), z (by omega), z (by omega), z (by omega), z (by omega), z (by omega), z (by omega)⟩
theorem QL.walk (h : QL e W v l x d y0 y1 y2 y3 y4 y5 y6 y7 z Wx) (hb : Below Wx.heap.size Wx Wn) : QL e W v l x d y0 y1 y2 y3 y4 y5 y6 y7 z Wn :=
  { h with
    bu := h.bu.trans (hb.mono h.bu.size)
    d1 := fun t t9 => (h.d1 t t9).below hb
    d3 := fun t t9 => (h.d3 t t9).below hb
    d4 := fun t t9 => by obtain ⟨g, cap, e1, r⟩ := h.d4 t t9; exact ⟨g, cap, e1, r.step hb r.1⟩
    d5 := fun t t9 => by obtain ⟨g, e1, r⟩ := h.d5 t t9; exact ⟨g, e1, r.step hb r.1⟩
    d8 := fun t => by
      obtain ⟨Y, e1, e2, e3⟩ := h.d8 t
      refine ⟨Y, e1, e2, ?_⟩
      rcases e3 with ⟨a, b⟩ | ⟨a, b⟩
      · exact .inl ⟨a, B2.step b hb⟩
      · exact .inr ⟨a, B2.step b hb⟩ }
theorem QL.no9 (h : QL e W v l x d y0 y1 y2 y3 y4 y5 y6 y7 z Wx) {i : Nat} (hi : i < 9) (hs : d i = false) : d 9 = false := by
  cases h9 : d 9 with
  | false => rfl
  | true => have := h.k9 h9 i hi; rw [hs] at this; cases this
theorem QL.s0 (h : QL e W v l x d y0 y1 y2 y3 y4 y5 y6 y7 z Wx) : QL e W v l x (fun j => j == 0 || d j) v y1 y2 y3 y4 y5 y6 y7 z Wx := ⟨h.bu, fun _ => rfl, h.d1, h.d2, h.d3, h.d4, h.d5, h.d6, h.d7, h.d8, fun t j hj => by show (j == _ || d j) = true; rw [h.k9 t j hj, Bool.or_true]⟩
theorem QL.s1 (h : QL e W v l x d y0 y1 y2 y3 y4 y5 y6 y7 z Wx) {u : Value} (r : Row Wx u l) : QL e W v l x (fun j => j == 1 || d j) y0 u y2 y3 y4 y5 y6 y7 z Wx := ⟨h.bu, h.d0, fun _ _ => r, h.d2, h.d3, h.d4, h.d5, h.d6, h.d7, h.d8, fun t j hj => by show (j == _ || d j) = true; rw [h.k9 t j hj, Bool.or_true]⟩
theorem QL.s2 (h : QL e W v l x d y0 y1 y2 y3 y4 y5 y6 y7 z Wx) : QL e W v l x (fun j => j == 2 || d j) y0 y1 (num x) y3 y4 y5 y6 y7 z Wx := ⟨h.bu, h.d0, h.d1, fun _ => rfl, h.d3, h.d4, h.d5, h.d6, h.d7, h.d8, fun t j hj => by show (j == _ || d j) = true; rw [h.k9 t j hj, Bool.or_true]⟩
theorem QL.s3 (h : QL e W v l x d y0 y1 y2 y3 y4 y5 y6 y7 z Wx) {u : Value} (r : Row Wx u [x]) : QL e W v l x (fun j => j == 3 || d j) y0 y1 y2 u y4 y5 y6 y7 z Wx := ⟨h.bu, h.d0, h.d1, h.d2, fun _ _ => r, h.d4, h.d5, h.d6, h.d7, h.d8, fun t j hj => by show (j == _ || d j) = true; rw [h.k9 t j hj, Bool.or_true]⟩
theorem QL.s4 (h : QL e W v l x d y0 y1 y2 y3 y4 y5 y6 y7 z Wx) {u : Value} (r : ∃ g cap : Nat, u = .slice (some ⟨g, 0, none⟩) (1 : Nat) cap ∧ Rd Wx g 0 [x]) : QL e W v l x (fun j => j == 4 || d j) y0 y1 y2 y3 u y5 y6 y7 z Wx := ⟨h.bu, h.d0, h.d1, h.d2, h.d3, fun _ _ => r, h.d5, h.d6, h.d7, h.d8, fun t j hj => by show (j == _ || d j) = true; rw [h.k9 t j hj, Bool.or_true]⟩
theorem QL.s5 (h : QL e W v l x d y0 y1 y2 y3 y4 y5 y6 y7 z Wx) {g : Nat} (r : Rd Wx g 0 [x]) : QL e W v l x (fun j => j == 5 || d j) y0 y1 y2 y3 y4 (.pointer (some ⟨g, 0, none⟩)) y6 y7 z Wx := ⟨h.bu, h.d0, h.d1, h.d2, h.d3, h.d4, fun _ _ => ⟨g, rfl, r⟩, h.d6, h.d7, h.d8, fun t j hj => by show (j == _ || d j) = true; rw [h.k9 t j hj, Bool.or_true]⟩
theorem QL.s6 (h : QL e W v l x d y0 y1 y2 y3 y4 y5 y6 y7 z Wx) : QL e W v l x (fun j => j == 6 || d j) y0 y1 y2 y3 y4 y5 (num x) y7 z Wx := ⟨h.bu, h.d0, h.d1, h.d2, h.d3, h.d4, h.d5, fun _ => rfl, h.d7, h.d8, fun t j hj => by show (j == _ || d j) = true; rw [h.k9 t j hj, Bool.or_true]⟩
theorem QL.s7 (h : QL e W v l x d y0 y1 y2 y3 y4 y5 y6 y7 z Wx) : QL e W v l x (fun j => j == 7 || d j) y0 y1 y2 y3 y4 y5 y6 (num (ho x l)) z Wx := ⟨h.bu, h.d0, h.d1, h.d2, h.d3, h.d4, h.d5, h.d6, fun _ => rfl, h.d8, fun t j hj => by show (j == _ || d j) = true; rw [h.k9 t j hj, Bool.or_true]⟩
theorem QL.s8 (h : QL e W v l x d y0 y1 y2 y3 y4 y5 y6 y7 z Wx) (h8 : d 8 = false) : QL e W v l x (fun j => j == 8 || d j) y0 y1 y2 y3 y4 y5 y6 y7 (.pointer (some ⟨Wx.heap.size, 0, none⟩)) (Wx.alloc (Obj.cells #[.int .u32 0, .int .u32 0] e)) := by
  have h9 : d 9 = false := h.no9 (by omega) h8
  have hw := h.walk (Wn := Wx.alloc (Obj.cells #[.int .u32 0, .int .u32 0] e)) ((Below.refl _ _).alloc (Nat.le_refl _) _)
  exact ⟨hw.bu, hw.d0, hw.d1, hw.d2, hw.d3, hw.d4, hw.d5, hw.d6, hw.d7, fun _ => ⟨_, rfl, h.bu.size, .inr ⟨h9, B2.made Wx _ _ e⟩⟩, fun t => by have : d 9 = true := t; rw [h9] at this; cases this⟩
theorem QL.at9 (h : QL e W v l x d y0 y1 y2 y3 y4 y5 y6 y7 z Wx) (h8 : d 8 = true) (h9 : d 9 = false) : ∃ Y : Nat, z = .pointer (some ⟨Y, 0, none⟩) ∧ W.heap.size ≤ Y ∧ Pt Wx Y e (0, 0) := by
  obtain ⟨Y, e1, e2, e3⟩ := h.d8 h8
  rcases e3 with ⟨a, b⟩ | ⟨a, b⟩
  · rw [h9] at a; cases a
  · exact ⟨Y, e1, e2, b⟩
theorem QL.end9 (h : QL e W v l x d y0 y1 y2 y3 y4 y5 y6 y7 z Wx) (hd : ∀ i, i < 10 → d i = true) : ∃ Y : Nat, z = .pointer (some ⟨Y, 0, none⟩) ∧ Pt Wx Y e (ho x l) := by
  obtain ⟨Y, e1, e2, e3⟩ := h.d8 (hd 8 (by omega))
  rcases e3 with ⟨a, b⟩ | ⟨a, b⟩
  · exact ⟨Y, e1, b⟩
  · rw [hd 9 (by omega)] at a; cases a
end
theorem all9 {d : Nat → Bool} (e0 : d 0 = true) (e1 : d 1 = true) (e2 : d 2 = true) (e3 : d 3 = true) (e4 : d 4 = true) (e5 : d 5 = true) (e6 : d 6 = true) (e7 : d 7 = true) (e8 : d 8 = true) : ∀ i, i < 9 → d i = true := by
  intro i hi
  obtain rfl | rfl | rfl | rfl | rfl | rfl | rfl | rfl | rfl : i = 0 ∨ i = 1 ∨ i = 2 ∨ i = 3 ∨ i = 4 ∨ i = 5 ∨ i = 6 ∨ i = 7 ∨ i = 8 := by omega
  all_goals assumption
/-- A row of one number, just made. -/
theorem row_one (W : World) (t : TypeId) (a b : Nat) : Row (W.alloc (Obj.cells #[.int .u32 a, .int .u32 b] t)) (.slice (some ⟨W.heap.size, 0, none⟩) (1 : Nat) (1 : Nat)) [(a, b)] := by
  refine ⟨_, 1, rfl, Nat.le_refl _, .inr ⟨W.heap.size, 0, rfl, by simp, fun k x hx => ?_⟩⟩
  have hk : k = 0 := by have := (List.getElem?_eq_some_iff.1 hx).1; simpa using this
  subst hk
  simp at hx
  subst hx
  exact (B2.made W (.int .u32 a) (.int .u32 b) t).cells
theorem own_1 {e : TypeId} {B : Nat} {W : World} {v : Value} {x : Nat × Nat} (h : Own e B W v [x]) : ∃ g cap : Nat, v = .slice (some ⟨g, 0, none⟩) (1 : Nat) cap ∧ Rd W g 0 [x] := by
  obtain ⟨g, cap, e1, _, _, r⟩ := Own.rd h (by simp)
  exact ⟨g, cap, e1, r⟩

theorem QL.s9 {e : TypeId} {W Wx Wn : World} {v : Value} {l : List (Nat × Nat)} {x : Nat × Nat} {d : Nat → Bool} {y0 y1 y2 y3 y4 y5 y6 y7 : Value} {Y : Nat} (h : QL e W v l x d y0 y1 y2 y3 y4 y5 y6 y7 (.pointer (some ⟨Y, 0, none⟩)) Wx) (hall : ∀ i, i < 9 → d i = true) (hY : W.heap.size ≤ Y) (hP : Pt Wx Y e (0, 0)) {a b : Nat} (hab : (a, b) = ho x l)
    (hW : Wn = (Wx.setCell ⟨Y, 0, none⟩ (.int .u32 a)).setCell ⟨Y, 1, none⟩ (.int .u32 b)) : QL e W v l x (fun j => j == 9 || d j) y0 y1 y2 y3 y4 y5 y6 y7 (.pointer (some ⟨Y, 0, none⟩)) Wn := by
  obtain ⟨e1, e2, _⟩ := B2.put hP hW
  have no : ∀ {P : Prop}, ((fun j => j == 9 || d j) 9 = false) → P := fun t => by cases t
  refine ⟨e2 _ _ hY h.bu, h.d0, fun _ t => no t, h.d2, fun _ t => no t, fun _ t => no t, fun _ t => no t, h.d6, h.d7, fun _ => ⟨Y, rfl, hY, .inl ⟨rfl, ?_⟩⟩, fun _ j hj => by show (j == 9 || d j) = true; rw [hall j hj, Bool.or_true]⟩
  rw [← hab]
  exact e1

theorem pOf_len (l m : List (Nat × Nat)) (hl : l.length ≤ 70) (hm : m.length ≤ 70) : (pOf l m).1.length ≤ 1000 := by
  unfold pOf
  split
  · exact Nat.zero_le _
  · show (prod l m).length ≤ _
    unfold prod
    split
    · exact Nat.zero_le _
    · rw [upto_length]; omega

set_option maxRecDepth 100000 in
set_option maxHeartbeats 16000000 in
theorem polynomials_walk (v u : Value) (l m : List (Nat × Nat)) (x0 x1 : Nat) (w : World) (hr : Row w v l) (hs : Row w u m) :
    Calls Try.prog 5 #[v, u, .agg #[.int .u32 x0, .int .u32 x1]] w fun e w' => e = .returned (.bool true) ∧ Below w.heap.size w w' := by
  have HR := Lib.hid hr
  have HS := Lib.hid hs
  obtain ⟨p, cap, rfl, _⟩ := hr
  obtain ⟨q, cap2, rfl, _⟩ := hs
  obtain ⟨N, hN⟩ : ∃ N, N = l.length := ⟨_, rfl⟩
  obtain ⟨M, hM⟩ : ∃ M, M = m.length := ⟨_, rfl⟩
  rw [← hN] at HR ⊢
  rw [← hM] at HS ⊢
  have HN := Lib.hid hN
  have HM := Lib.hid hM
  clear hN hM
  have hb0 : Below w.heap.size w (w.alloc (Obj.cells #[.int .u32 x0, .int .u32 x1] 55)) := (Below.refl _ _).alloc (Nat.le_refl _) _
  have HB0 := Lib.hid hb0
  have HX0 : Hid (B2 _ w.heap.size 55 (.int .u32 x0) (.int .u32 x1)) := B2.made w _ _ 55
  have HRa := Lib.hid (HR.out.below hb0)
  have HSa := Lib.hid (HS.out.below hb0)
  clear hb0
  by_cases h1 : 70 < N
  · have t1 : decide (70 < (N : Int)) = true := decide_eq_true (by omega)
    clear h1
    go_enter Try.func5, Try.ntmps5
    go_wp2_with fail
    refine (awake_at _).mono ?_
    rintro e w1 ⟨rfl, hb⟩
    have HB := Lib.hid (HB0.out.trans (hb.mono HB0.out.size))
    clear hb
    go_wp2_with fail
    go_ret
    exact ⟨rfl, HB.out⟩
  · have t1 : decide (70 < (N : Int)) = false := decide_eq_false (by omega)
    by_cases h2 : 70 < M
    · have t2 : decide (70 < (M : Int)) = true := decide_eq_true (by omega)
      clear h1 h2
      go_enter Try.func5, Try.ntmps5
      go_wp2_with fail
      refine (awake_at _).mono ?_
      rintro e w1 ⟨rfl, hb⟩
      have HB := Lib.hid (HB0.out.trans (hb.mono HB0.out.size))
      clear hb
      go_wp2_with fail
      go_ret
      exact ⟨rfl, HB.out⟩
    · have t2 : decide (70 < (M : Int)) = false := decide_eq_false (by omega)
      have HN70 : Hid (l.length ≤ 70) := by have := HN.out; show _ ≤ _; omega
      have HM70 : Hid (m.length ≤ 70) := by have := HM.out; show _ ≤ _; omega
      clear h1 h2
      go_enter Try.func5, Try.ntmps5
      go_upto_region 3 with fail
      generalize w.alloc (Obj.cells #[.int .u32 x0, .int .u32 x1] 55) = W0 at *
      obtain ⟨X, hX⟩ : ∃ X, X = w.heap.size := ⟨_, rfl⟩
      rw [← hX]
      rw [← hX] at HX0
      clear hX

      refine (wpIn_wide (n := 20)).1 ?_
      refine wpIn_region_inv (by kernel_rfl) (back_of (by kernel_rfl)) (fun d act Wx => ∃ y0 y1 y2 y3 y4 y5 y6 y7 z1 : Value, act = { tmps := #[.slice p N cap, .slice q M cap2, .agg #[.int .u32 x0, .int .u32 x1], undef, undef, .pointer (some ⟨X, 0, none⟩), .bool false, z1, undef, undef, undef, undef, undef, .slice p N cap, .int .i64 N, .bool false, .bool false, .slice q M cap2, .int .i64 M, .bool false, .bool false, undef, y0, y1, y2, y3, y4, y5, y6, y7, undef, undef, undef, undef, undef, undef, undef, undef, undef, undef, undef, undef, undef, undef, undef, undef, undef, undef, undef, undef, undef, undef, undef, undef, undef, undef, undef, undef, undef, undef, undef, undef, undef, undef, undef, undef, undef, undef, undef, undef], defers := [] } ∧ QL 26 W0 (.slice p N cap) l (x0, x1) d y0 y1 y2 y3 y4 y5 y6 y7 z1 Wx) ?r7 ?s7 ?f7
      case r7 => exact fun d hd => ⟨_, _, _, _, _, _, _, _, _, rfl, QL.start hd⟩
      case s7 =>
        rintro i oi hop d act Wx ⟨y0, y1, y2, y3, y4, y5, y6, y7, z1, rfl, hR⟩ hSi hdep
        have hi : i < 10 := (Array.getElem?_eq_some_iff.1 hop).1
        have HQ := Lib.hid hR
        have HD := Lib.hid hdep
        have HSI := Lib.hid hSi
        clear hR hdep hSi
        obtain rfl | rfl | rfl | rfl | rfl | rfl | rfl | rfl | rfl | rfl : i = 0 ∨ i = 1 ∨ i = 2 ∨ i = 3 ∨ i = 4 ∨ i = 5 ∨ i = 6 ∨ i = 7 ∨ i = 8 ∨ i = 9 := by omega
        · have hoo := hop
          obtain rfl := Option.some.inj hop
          clear HD
          refine wpOpIn_step hoo fun K hK => ?_
          clear hoo
          go_simp
          exact hK _ _ ⟨_, _, _, _, _, _, _, _, _, rfl, HQ.out.s0⟩
        · have hoo := hop
          obtain rfl := Option.some.inj hop
          have e0 : d 0 = true := HD.out ⟨0, .data⟩ (by simp) rfl
          obtain rfl := HQ.out.d0 e0
          clear e0
          clear HD
          refine wpOpIn_step hoo fun K hK => ?_
          clear hoo
          go_simp
          refine ⟨trivial, ?_⟩
          refine (callsIn_wide.2 (given_at _ l _ ((HRa.out).below HQ.out.bu) (Nat.le_trans HN70.out (by omega)))).mono ?_
          rintro e Wn ⟨va, rfl, ho1, hb⟩
          exact hK _ _ ⟨_, _, _, _, _, _, _, _, _, rfl, (HQ.out.walk hb).s1 ho1.row⟩
        · have hoo := hop
          obtain rfl := Option.some.inj hop
          obtain ⟨c0, c1⟩ := B2.cells ((HQ.out.bu.block _ (blk_lt HX0.out)).trans HX0.out)
          clear HD
          refine wpOpIn_step hoo fun K hK => ?_
          clear hoo
          go_simp
          exact hK _ _ ⟨_, _, _, _, _, _, _, _, _, rfl, HQ.out.s2⟩
        · have hoo := hop
          obtain rfl := Option.some.inj hop
          have e2 : d 2 = true := HD.out ⟨2, .data⟩ (by simp) rfl
          obtain rfl := HQ.out.d2 e2
          clear e2
          clear HD
          refine wpOpIn_step hoo fun K hK => ?_
          clear hoo
          go_simp
          exact hK _ _ ⟨_, _, _, _, _, _, _, _, _, rfl, (HQ.out.walk ((Below.refl _ _).alloc (Nat.le_refl _) _)).s3 (row_one Wx 55 x0 x1)⟩
        · have hoo := hop
          obtain rfl := Option.some.inj hop
          have e3 : d 3 = true := HD.out ⟨3, .data⟩ (by simp) rfl
          have r3 := Lib.hid (HQ.out.d3 e3 (HQ.out.no9 (by omega) HSI.out))
          clear e3
          clear HD
          refine wpOpIn_step hoo fun K hK => ?_
          clear hoo
          go_simp
          refine ⟨trivial, ?_⟩
          refine (callsIn_wide.2 (given_at _ [(x0, x1)] _ r3.out (by simp))).mono ?_
          rintro e Wn ⟨va, rfl, ho1, hb⟩
          exact hK _ _ ⟨_, _, _, _, _, _, _, _, _, rfl, (HQ.out.walk hb).s4 (own_1 ho1)⟩
        · have hoo := hop
          obtain rfl := Option.some.inj hop
          have e4 : d 4 = true := HD.out ⟨4, .data⟩ (by simp) rfl
          obtain ⟨ga, ca, rfl, ra⟩ := HQ.out.d4 e4 (HQ.out.no9 (by omega) HSI.out)
          have RA := Lib.hid ra
          clear e4 ra
          clear HD
          refine wpOpIn_step hoo fun K hK => ?_
          clear hoo
          go_simp
          exact hK _ _ ⟨_, _, _, _, _, _, _, _, _, rfl, HQ.out.s5 RA.out⟩
        · have hoo := hop
          obtain rfl := Option.some.inj hop
          have e5 : d 5 = true := HD.out ⟨5, .data⟩ (by simp) rfl
          obtain ⟨ga, rfl, ra⟩ := HQ.out.d5 e5 (HQ.out.no9 (by omega) HSI.out)
          obtain ⟨c0, c1⟩ := ra.get0 (j := 0) (p := (x0, x1)) rfl
          have c0' : Wx.cell? ⟨ga, 0, none⟩ = some (.int .u32 x0) := c0
          have c1' : Wx.cell? ⟨ga, 1, none⟩ = some (.int .u32 x1) := c1
          clear e5 ra c0 c1
          clear HD
          refine wpOpIn_step hoo fun K hK => ?_
          clear hoo
          go_simp
          exact hK _ _ ⟨_, _, _, _, _, _, _, _, _, rfl, HQ.out.s6⟩
        · have hoo := hop
          obtain rfl := Option.some.inj hop
          have e1 : d 1 = true := HD.out ⟨1, .data⟩ (by simp) rfl
          have e6 : d 6 = true := HD.out ⟨6, .data⟩ (by simp) rfl
          obtain rfl := HQ.out.d6 e6
          have r1 := Lib.hid (HQ.out.d1 e1 (HQ.out.no9 (by omega) HSI.out))
          clear e6 e1
          clear HD
          refine wpOpIn_step hoo fun K hK => ?_
          clear hoo
          go_simp
          refine ⟨trivial, ?_⟩
          refine (callsIn_wide.2 (ppoly_all _ l x0 x1 _ r1.out (Nat.le_trans HN70.out (by omega)))).mono ?_
          rintro e Wn ⟨ma, mb, rfl, hpq, hb⟩
          have he : (Value.agg #[.int .u32 (ma : Int), .int .u32 (mb : Int)]) = num (ho (x0, x1) l) := by rw [← hpq]
          refine hK _ _ ⟨_, _, _, _, _, _, _, _, _, rfl, ?_⟩
          rw [he]
          exact (HQ.out.walk hb).s7
        · have hoo := hop
          obtain rfl := Option.some.inj hop
          clear HD
          refine wpOpIn_step hoo fun K hK => ?_
          clear hoo
          go_simp
          exact hK _ _ ⟨_, _, _, _, _, _, _, _, _, rfl, HQ.out.s8 HSI.out⟩
        · have hoo := hop
          obtain rfl := Option.some.inj hop
          have e0 : d 0 = true := HD.out ⟨0, .phase⟩ (by simp) rfl
          have e1 : d 1 = true := HD.out ⟨1, .phase⟩ (by simp) rfl
          have e2 : d 2 = true := HD.out ⟨2, .phase⟩ (by simp) rfl
          have e3 : d 3 = true := HD.out ⟨3, .phase⟩ (by simp) rfl
          have e4 : d 4 = true := HD.out ⟨4, .phase⟩ (by simp) rfl
          have e5 : d 5 = true := HD.out ⟨5, .phase⟩ (by simp) rfl
          have e6 : d 6 = true := HD.out ⟨6, .phase⟩ (by simp) rfl
          have e7 : d 7 = true := HD.out ⟨7, .phase⟩ (by simp) rfl
          have e8 : d 8 = true := HD.out ⟨8, .phase⟩ (by simp) rfl
          obtain rfl := HQ.out.d7 e7
          obtain ⟨Y, rfl, hY, hP⟩ := HQ.out.at9 e8 HSI.out
          have HP := Lib.hid hP
          have HE8 := Lib.hid (all9 e0 e1 e2 e3 e4 e5 e6 e7 e8)
          obtain ⟨c0, c1⟩ := hP.cells
          obtain ⟨z0, z1⟩ := hP.frz
          obtain ⟨ra, rb, hab⟩ : ∃ ra rb, (ra, rb) = ho (x0, x1) l := ⟨_, _, rfl⟩
          rw [← hab]
          have HAB := Lib.hid hab
          have HY := Lib.hid hY
          clear hab hP e0 e1 e2 e3 e4 e5 e6 e7 e8 hY
          clear HD
          refine wpOpIn_step hoo fun K hK => ?_
          clear hoo
          go_simp
          refine hK _ _ ⟨_, _, _, _, _, _, _, _, _, rfl, ?_⟩
          have := QL.s9 HQ.out HE8.out HY.out HP.out HAB.out rfl
          rw [← HAB.out] at this
          exact this
      case f7 =>
        rintro d act Wx ⟨y0, y1, y2, y3, y4, y5, y6, y7, z1, rfl, hR⟩ hall
        obtain ⟨Y7, rfl, hP7⟩ := hR.end9 (fun i hi => hall i hi)
        have HBa := Lib.hid (HB0.out.trans (hR.bu.mono HB0.out.size))
        have HX1 : Hid (B2 Wx X 55 (.int .u32 x0) (.int .u32 x1)) := B2.step HX0.out hR.bu
        have HR1 := Lib.hid (HRa.out.below hR.bu)
        have HS1 := Lib.hid (HSa.out.below hR.bu)
        have HPa := Lib.hid hP7
        clear hR hall hP7 HB0 HX0 HRa HSa
        go_wp2_with fail
        obtain ⟨W1, hW1⟩ : ∃ W1, W1 = Wx := ⟨_, rfl⟩
        rw [← hW1] at HBa HX1 HR1 HS1 HPa ⊢
        clear hW1 Wx d
        refine (wpIn_wide (n := 20)).1 ?_
        refine wpIn_region_inv (by kernel_rfl) (back_of (by kernel_rfl)) (fun d act Wx => ∃ b0 b1 b2 b3 b4 b5 b6 b7 z2 : Value, act = { tmps := #[.slice p N cap, .slice q M cap2, .agg #[.int .u32 x0, .int .u32 x1], undef, undef, .pointer (some ⟨X, 0, none⟩), .bool false, .pointer (some ⟨Y7, 0, none⟩), z2, undef, undef, undef, undef, .slice p N cap, .int .i64 N, .bool false, .bool false, .slice q M cap2, .int .i64 M, .bool false, .bool false, undef, y0, y1, y2, y3, y4, y5, y6, y7, b0, b1, b2, b3, b4, b5, b6, b7, undef, undef, undef, undef, undef, undef, undef, undef, undef, undef, undef, undef, undef, undef, undef, undef, undef, undef, undef, undef, undef, undef, undef, undef, undef, undef, undef, undef, undef, undef, undef, undef], defers := [] } ∧ QL 57 W1 (.slice p N cap) l (x0, x1) d b0 b1 b2 b3 b4 b5 b6 b7 z2 Wx) ?r8 ?s8 ?f8
        case r8 => exact fun d hd => ⟨_, _, _, _, _, _, _, _, _, rfl, QL.start hd⟩
        case s8 =>
          rintro i oi hop d act Wx ⟨b0, b1, b2, b3, b4, b5, b6, b7, z2, rfl, hR⟩ hSi hdep
          have hi : i < 10 := (Array.getElem?_eq_some_iff.1 hop).1
          have HQ := Lib.hid hR
          have HD := Lib.hid hdep
          have HSI := Lib.hid hSi
          clear hR hdep hSi
          obtain rfl | rfl | rfl | rfl | rfl | rfl | rfl | rfl | rfl | rfl : i = 0 ∨ i = 1 ∨ i = 2 ∨ i = 3 ∨ i = 4 ∨ i = 5 ∨ i = 6 ∨ i = 7 ∨ i = 8 ∨ i = 9 := by omega
          · have hoo := hop
            obtain rfl := Option.some.inj hop
            clear HD
            refine wpOpIn_step hoo fun K hK => ?_
            clear hoo
            go_simp
            exact hK _ _ ⟨_, _, _, _, _, _, _, _, _, rfl, HQ.out.s0⟩
          · have hoo := hop
            obtain rfl := Option.some.inj hop
            have e0 : d 0 = true := HD.out ⟨0, .data⟩ (by simp) rfl
            obtain rfl := HQ.out.d0 e0
            clear e0
            clear HD
            refine wpOpIn_step hoo fun K hK => ?_
            clear hoo
            go_simp
            refine ⟨trivial, ?_⟩
            refine (callsIn_wide.2 (own_at _ l _ ((HR1.out).below HQ.out.bu) (Nat.le_trans HN70.out (by omega)))).mono ?_
            rintro e Wn ⟨va, rfl, ho1, hb⟩
            exact hK _ _ ⟨_, _, _, _, _, _, _, _, _, rfl, (HQ.out.walk hb).s1 ho1.row⟩
          · have hoo := hop
            obtain rfl := Option.some.inj hop
            obtain ⟨c0, c1⟩ := B2.cells ((HQ.out.bu.block _ (blk_lt HX1.out)).trans HX1.out)
            clear HD
            refine wpOpIn_step hoo fun K hK => ?_
            clear hoo
            go_simp
            exact hK _ _ ⟨_, _, _, _, _, _, _, _, _, rfl, HQ.out.s2⟩
          · have hoo := hop
            obtain rfl := Option.some.inj hop
            have e2 : d 2 = true := HD.out ⟨2, .data⟩ (by simp) rfl
            obtain rfl := HQ.out.d2 e2
            clear e2
            clear HD
            refine wpOpIn_step hoo fun K hK => ?_
            clear hoo
            go_simp
            exact hK _ _ ⟨_, _, _, _, _, _, _, _, _, rfl, (HQ.out.walk ((Below.refl _ _).alloc (Nat.le_refl _) _)).s3 (row_one Wx 55 x0 x1)⟩
          · have hoo := hop
            obtain rfl := Option.some.inj hop
            have e3 : d 3 = true := HD.out ⟨3, .data⟩ (by simp) rfl
            have r3 := Lib.hid (HQ.out.d3 e3 (HQ.out.no9 (by omega) HSI.out))
            clear e3
            clear HD
            refine wpOpIn_step hoo fun K hK => ?_
            clear hoo
            go_simp
            refine ⟨trivial, ?_⟩
            refine (callsIn_wide.2 (own_at _ [(x0, x1)] _ r3.out (by simp))).mono ?_
            rintro e Wn ⟨va, rfl, ho1, hb⟩
            exact hK _ _ ⟨_, _, _, _, _, _, _, _, _, rfl, (HQ.out.walk hb).s4 (own_1 ho1)⟩
          · have hoo := hop
            obtain rfl := Option.some.inj hop
            have e4 : d 4 = true := HD.out ⟨4, .data⟩ (by simp) rfl
            obtain ⟨ga, ca, rfl, ra⟩ := HQ.out.d4 e4 (HQ.out.no9 (by omega) HSI.out)
            have RA := Lib.hid ra
            clear e4 ra
            clear HD
            refine wpOpIn_step hoo fun K hK => ?_
            clear hoo
            go_simp
            exact hK _ _ ⟨_, _, _, _, _, _, _, _, _, rfl, HQ.out.s5 RA.out⟩
          · have hoo := hop
            obtain rfl := Option.some.inj hop
            have e5 : d 5 = true := HD.out ⟨5, .data⟩ (by simp) rfl
            obtain ⟨ga, rfl, ra⟩ := HQ.out.d5 e5 (HQ.out.no9 (by omega) HSI.out)
            obtain ⟨c0, c1⟩ := ra.get0 (j := 0) (p := (x0, x1)) rfl
            have c0' : Wx.cell? ⟨ga, 0, none⟩ = some (.int .u32 x0) := c0
            have c1' : Wx.cell? ⟨ga, 1, none⟩ = some (.int .u32 x1) := c1
            clear e5 ra c0 c1
            clear HD
            refine wpOpIn_step hoo fun K hK => ?_
            clear hoo
            go_simp
            exact hK _ _ ⟨_, _, _, _, _, _, _, _, _, rfl, HQ.out.s6⟩
          · have hoo := hop
            obtain rfl := Option.some.inj hop
            have e1 : d 1 = true := HD.out ⟨1, .data⟩ (by simp) rfl
            have e6 : d 6 = true := HD.out ⟨6, .data⟩ (by simp) rfl
            obtain rfl := HQ.out.d6 e6
            have r1 := Lib.hid (HQ.out.d1 e1 (HQ.out.no9 (by omega) HSI.out))
            clear e6 e1
            clear HD
            refine wpOpIn_step hoo fun K hK => ?_
            clear hoo
            go_simp
            refine ⟨trivial, ?_⟩
            refine (callsIn_wide.2 (rpoly_all _ l x0 x1 _ r1.out (Nat.le_trans HN70.out (by omega)))).mono ?_
            rintro e Wn ⟨ma, mb, rfl, hpq, hb⟩
            have he : (Value.agg #[.int .u32 (ma : Int), .int .u32 (mb : Int)]) = num (ho (x0, x1) l) := by rw [← hpq]
            refine hK _ _ ⟨_, _, _, _, _, _, _, _, _, rfl, ?_⟩
            rw [he]
            exact (HQ.out.walk hb).s7
          · have hoo := hop
            obtain rfl := Option.some.inj hop
            clear HD
            refine wpOpIn_step hoo fun K hK => ?_
            clear hoo
            go_simp
            exact hK _ _ ⟨_, _, _, _, _, _, _, _, _, rfl, HQ.out.s8 HSI.out⟩
          · have hoo := hop
            obtain rfl := Option.some.inj hop
            have e0 : d 0 = true := HD.out ⟨0, .phase⟩ (by simp) rfl
            have e1 : d 1 = true := HD.out ⟨1, .phase⟩ (by simp) rfl
            have e2 : d 2 = true := HD.out ⟨2, .phase⟩ (by simp) rfl
            have e3 : d 3 = true := HD.out ⟨3, .phase⟩ (by simp) rfl
            have e4 : d 4 = true := HD.out ⟨4, .phase⟩ (by simp) rfl
            have e5 : d 5 = true := HD.out ⟨5, .phase⟩ (by simp) rfl
            have e6 : d 6 = true := HD.out ⟨6, .phase⟩ (by simp) rfl
            have e7 : d 7 = true := HD.out ⟨7, .phase⟩ (by simp) rfl
            have e8 : d 8 = true := HD.out ⟨8, .phase⟩ (by simp) rfl
            obtain rfl := HQ.out.d7 e7
            obtain ⟨Y, rfl, hY, hP⟩ := HQ.out.at9 e8 HSI.out
            have HP := Lib.hid hP
            have HE8 := Lib.hid (all9 e0 e1 e2 e3 e4 e5 e6 e7 e8)
            obtain ⟨c0, c1⟩ := hP.cells
            obtain ⟨z0, z1⟩ := hP.frz
            obtain ⟨ra, rb, hab⟩ : ∃ ra rb, (ra, rb) = ho (x0, x1) l := ⟨_, _, rfl⟩
            rw [← hab]
            have HAB := Lib.hid hab
            have HY := Lib.hid hY
            clear hab hP e0 e1 e2 e3 e4 e5 e6 e7 e8 hY
            clear HD
            refine wpOpIn_step hoo fun K hK => ?_
            clear hoo
            go_simp
            refine hK _ _ ⟨_, _, _, _, _, _, _, _, _, rfl, ?_⟩
            have := QL.s9 HQ.out HE8.out HY.out HP.out HAB.out rfl
            rw [← HAB.out] at this
            exact this
        case f8 =>
          rintro d act Wx ⟨b0, b1, b2, b3, b4, b5, b6, b7, z2, rfl, hR⟩ hall
          obtain ⟨Y8, rfl, hP8⟩ := hR.end9 (fun i hi => hall i hi)
          have HBb := Lib.hid (HBa.out.trans (hR.bu.mono HBa.out.size))
          have HR2 := Lib.hid (HR1.out.below hR.bu)
          have HS2 := Lib.hid (HS1.out.below hR.bu)
          have HPb : Hid (Pt Wx Y7 26 (Nu.ho (x0, x1) l)) := B2.step HPa.out hR.bu
          have HPc := Lib.hid hP8
          clear hR hall hP8 HBa HX1 HR1 HS1 HPa
          generalize Nu.ho (x0, x1) l = r at *
          obtain ⟨r0, r1⟩ := r
          go_wp2_with fail
          refine (given_at _ l _ HR2.out (Nat.le_trans HN70.out (by omega))).mono ?_
          rintro e w4 ⟨va, rfl, ho1, hb⟩
          have HB4 := Lib.hid (HBb.out.trans (hb.mono HBb.out.size))
          have HA4 := Lib.hid ho1.row
          have HS4 := Lib.hid (HS2.out.below hb)
          have HR4 := Lib.hid (HR2.out.below hb)
          have HPb4 : Hid (Pt w4 Y7 26 (r0, r1)) := B2.step HPb.out hb
          have HPc4 : Hid (Pt w4 Y8 57 (r0, r1)) := B2.step HPc.out hb
          clear hb ho1 HBb HS2 HR2 HPb HPc
          go_wp2_with fail
          refine (given_at _ m _ HS4.out (Nat.le_trans HM70.out (by omega))).mono ?_
          rintro e w5 ⟨vb, rfl, ho1, hb⟩
          have HB5 := Lib.hid (HB4.out.trans (hb.mono HB4.out.size))
          have HA5 := Lib.hid (HA4.out.below hb)
          have HV5 := Lib.hid ho1.row
          have HS5 := Lib.hid (HS4.out.below hb)
          have HR5 := Lib.hid (HR4.out.below hb)
          have HPb5 : Hid (Pt w5 Y7 26 (r0, r1)) := B2.step HPb4.out hb
          have HPc5 : Hid (Pt w5 Y8 57 (r0, r1)) := B2.step HPc4.out hb
          clear hb ho1 HB4 HA4 HS4 HR4 HPb4 HPc4
          go_wp2_with fail
          refine (pproduct_all va vb l m _ HA5.out HV5.out).mono ?_
          rintro e w6 ⟨v6, rfl, ho1, hb⟩
          have HB6 := Lib.hid (HB5.out.trans (hb.mono HB5.out.size))
          have HP6 := Lib.hid ho1.row
          have HS6 := Lib.hid (HS5.out.below hb)
          have HR6 := Lib.hid (HR5.out.below hb)
          have HPb6 : Hid (Pt w6 Y7 26 (r0, r1)) := B2.step HPb5.out hb
          have HPc6 : Hid (Pt w6 Y8 57 (r0, r1)) := B2.step HPc5.out hb
          clear hb ho1 HB5 HA5 HV5 HS5 HR5 HPb5 HPc5
          go_wp2_with fail
          refine (own_at _ l _ HR6.out (Nat.le_trans HN70.out (by omega))).mono ?_
          rintro e w7 ⟨vc, rfl, ho1, hb⟩
          have HB7 := Lib.hid (HB6.out.trans (hb.mono HB6.out.size))
          have HA7 := Lib.hid ho1.row
          have HP7 := Lib.hid (HP6.out.below hb)
          have HS7 := Lib.hid (HS6.out.below hb)
          have HPb7 : Hid (Pt w7 Y7 26 (r0, r1)) := B2.step HPb6.out hb
          have HPc7 : Hid (Pt w7 Y8 57 (r0, r1)) := B2.step HPc6.out hb
          clear hb ho1 HB6 HP6 HS6 HR6 HPb6 HPc6
          go_wp2_with fail
          refine (own_at _ m _ HS7.out (Nat.le_trans HM70.out (by omega))).mono ?_
          rintro e w8 ⟨vd, rfl, ho1, hb⟩
          have HB8 := Lib.hid (HB7.out.trans (hb.mono HB7.out.size))
          have HV8 := Lib.hid ho1.row
          have HA8 := Lib.hid (HA7.out.below hb)
          have HP8 := Lib.hid (HP7.out.below hb)
          have HPb8 : Hid (Pt w8 Y7 26 (r0, r1)) := B2.step HPb7.out hb
          have HPc8 : Hid (Pt w8 Y8 57 (r0, r1)) := B2.step HPc7.out hb
          clear hb ho1 HB7 HA7 HP7 HS7 HPb7 HPc7
          go_wp2_with fail
          refine (rproduct_all vc vd l m _ HA8.out HV8.out).mono ?_
          rintro e w9 ⟨v9, rfl, ho1, hb⟩
          have HB9 := Lib.hid (HB8.out.trans (hb.mono HB8.out.size))
          have HV9 := Lib.hid ho1.row
          have HP9 := Lib.hid (HP8.out.below hb)
          have HPb9 : Hid (Pt w9 Y7 26 (r0, r1)) := B2.step HPb8.out hb
          have HPc9 : Hid (Pt w9 Y8 57 (r0, r1)) := B2.step HPc8.out hb
          clear hb ho1 HB8 HA8 HV8 HP8 HPb8 HPc8
          have hpl := Lib.hid (pOf_len l m HN70.out HM70.out)
          generalize (pOf l m).1 = PL at *
          generalize (pOf l m).2 = pe at *
          have tpe : (pe == pe) = true := by simp
          obtain ⟨c0, c1⟩ := HPb9.out.cells
          obtain ⟨c2, c3⟩ := HPc9.out.cells
          go_wp2_with fail
          refine (alike_at v6 v9 PL PL _ HP9.out HV9.out hpl.out).mono ?_
          rintro e w10 ⟨rfl, hb⟩
          have HB10 := Lib.hid (HB9.out.trans (hb.mono HB9.out.size))
          clear hb c0 c1 c2 c3
          rw [decide_eq_true (rfl : PL = PL)]
          go_wp2_with fail
          refine (awake_at _).mono ?_
          rintro e w11 ⟨rfl, hb⟩
          have HB11 := Lib.hid (HB10.out.trans (hb.mono HB10.out.size))
          clear hb
          go_wp2_with fail
          go_ret
          exact ⟨rfl, HB11.out⟩
end Go.Proofs.Ytlbgpfddmkpakaa.Nu
