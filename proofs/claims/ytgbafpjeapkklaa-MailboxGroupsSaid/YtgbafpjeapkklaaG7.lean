/- Parts Un, Uo, Up of the proof. -/
import Derived.Test.YtgbafpjeapkklaaG0
import Derived.Test.YtgbafpjeapkklaaG6
namespace Go.Proofs.Ytgbafpjeapkklaa.Mb
open Go.RowKit
set_option linter.unusedVariables false
set_option linter.unusedSimpArgs false
structure CS (Pu : Nat → Bool) (V : Nat → Value) (wf : (Nat → Bool) → World) (d : Nat → Bool) (y : Nat → Value) (Wx : World) : Prop where
  val : ∀ i, Pu i = true → d i = true → y i = V i
  mem : Wx = wf d
theorem CS.put {Pu : Nat → Bool} {V : Nat → Value} {wf : (Nat → Bool) → World} {d : Nat → Bool} {y : Nat → Value} {Wx W' : World} (h : CS Pu V wf d y Wx) {i : Nat} (hi : Pu i = true) (hW : W' = wf (fun j => j == i || d j)) : CS Pu V wf (fun j => j == i || d j) (upd y i (V i)) W' := by
  refine ⟨fun j hj hd => ?_, hW⟩
  by_cases hji : j = i
  · subst hji; exact upd_same _ _ _
  · rw [upd_other _ _ hji]
    rw [d_other hji] at hd
    exact h.val j hj hd
theorem CS.skip {Pu : Nat → Bool} {V : Nat → Value} {wf : (Nat → Bool) → World} {d : Nat → Bool} {y : Nat → Value} {Wx W' : World} (h : CS Pu V wf d y Wx) {i : Nat} (hi : Pu i = false) (hW : W' = wf (fun j => j == i || d j)) : CS Pu V wf (fun j => j == i || d j) y W' := by
  refine ⟨fun j hj hd => ?_, hW⟩
  have hji : j ≠ i := fun e => by rw [e, hi] at hj; cases hj
  rw [d_other hji] at hd
  exact h.val j hj hd
structure Keep (B : Nat) (w w' : World) : Prop where
  below : Below B w w'
  blk : ∀ (g : Nat) (x : Obj), w.heap[g]? = some x → (∀ C f, x ≠ .cells C 84 f) → (∀ C f, x ≠ .cells C 72 f) → w'.heap[g]? = some x
theorem Keep.trans {B : Nat} {a b c : World} (h : Keep B a b) (k : Keep B b c) : Keep B a c := ⟨h.below.trans k.below, fun g x hx n1 n2 => k.blk g x (h.blk g x hx n1 n2) n1 n2⟩
theorem Keep.of {B : Nat} {w w' : World} (h : Below w.heap.size w w') (hB : B ≤ w.heap.size) : Keep B w w' := ⟨h.mono hB, fun g x hx _ _ => (h.block g (blk_lt hx)).trans hx⟩
theorem Keep.grown {w w' : World} {B n : Nat} {u : Value} {xs : List Value} (ho : w.ownsRow B 84 1 u n xs) (hg : w.grownBy w' u.ownBlock) (hB : B ≤ w.heap.size) : Keep B w w' := by
  refine ⟨⟨hg.os, hg.tape, hg.output, hg.size, fun k hk => hg.block k (Nat.lt_of_lt_of_le hk hB) fun e => ?_⟩, fun g x hx n1 n2 => (hg.block g (blk_lt hx) fun e => ?_).trans hx⟩
  · rcases ho.2 with ⟨rfl, _⟩ | ⟨g', cap, cur, rfl, hb, _⟩
    · cases e
    · have e' : k = g' := by injection e
      omega
  · rcases ho.2 with ⟨rfl, _⟩ | ⟨g', cap, cur, rfl, _, h3, _⟩
    · cases e
    · have e' : g = g' := by injection e
      subst e'
      rw [hx] at h3
      injection h3 with h3
      exact n1 _ _ h3
theorem Keep.set {B : Nat} {w : World} {G : Nat} {C : Array Value} {f : Nat × Nat} (h : w.heap[G]? = some (.cells C 72 f)) (hB : B ≤ G) (o : Nat) (v : Value) : Keep B w (w.setCell ⟨G, o, none⟩ v) := by
  refine ⟨(Below.refl _ _).setCell (p := ⟨G, o, none⟩) hB _, fun g x hx n1 n2 => blk_set_ne hx ⟨G, o, none⟩ (fun e => ?_) v⟩
  have e' : g = G := e
  subst e'
  rw [hx] at h
  injection h with h
  exact n2 _ _ h
set_option maxRecDepth 100000 in
set_option maxHeartbeats 4000000 in
theorem gjoin_twice {G B p c : Nat} {gv : Value} {l : List Nat} (w : World) (hG : w.heap[G]? = some (.cells #[gv] 72 (0, 0))) (ho : w.ownsRow B 84 1 gv l.length (chs l)) (hp : w.cell? ⟨p, 0, none⟩ = some (.chan (some c))) (hl0 : l.length ≤ 64) {k : Nat} (hi : idx (fun x => x == c) l = (k : Int)) :
    Calls Try.prog 33 #[.pointer (some ⟨G, 0, none⟩), .pointer (some ⟨p, 0, none⟩)] w fun e w' => e = .returned (.int .i64 6) ∧ w' = w := by
  have HIX : Hid (Calls Try.prog 36 #[.pointer (some ⟨G, 0, none⟩), .pointer (some ⟨p, 0, none⟩)] w fun e w' => e = .returned (.int .i64 (idx (fun x => x == c) l)) ∧ w' = w) := gindex w hl0 (cell_blk hG 0) ho hp
  have eqn : (binOp .eql 84 (.chan (some c)) (.chan none)).run Try.prog w = .ok (.bool false) w := eqc _ _ _
  rw [hi] at HIX
  have tk : decide ((0 : Int) ≤ (k : Int)) = true := decide_eq_true (by omega)
  clear hi ho
  go_enter Try.func33, Try.ntmps33
  go_wp2_with fail
  refine HIX.out.mono ?_
  rintro e w' ⟨rfl, hw⟩
  rw [hw]
  clear hw w'
  clear eqn HIX
  go_wp2_with fail
  go_ret
  exact ⟨rfl, by first | rfl | trivial⟩
set_option maxRecDepth 100000 in
set_option maxHeartbeats 4000000 in
theorem gjoin_full {G B p c : Nat} {gv : Value} {l : List Nat} (w : World) (hG : w.heap[G]? = some (.cells #[gv] 72 (0, 0))) (ho : w.ownsRow B 84 1 gv l.length (chs l)) (hp : w.cell? ⟨p, 0, none⟩ = some (.chan (some c))) (hl0 : l.length ≤ 64) (hl : l.length = 64) (hi : idx (fun x => x == c) l = -1) :
    Calls Try.prog 33 #[.pointer (some ⟨G, 0, none⟩), .pointer (some ⟨p, 0, none⟩)] w fun e w' => e = .returned (.int .i64 8) ∧ w' = w := by
  have HIX : Hid (Calls Try.prog 36 #[.pointer (some ⟨G, 0, none⟩), .pointer (some ⟨p, 0, none⟩)] w fun e w' => e = .returned (.int .i64 (idx (fun x => x == c) l)) ∧ w' = w) := gindex w hl0 (cell_blk hG 0) ho hp
  have eqn : (binOp .eql 84 (.chan (some c)) (.chan none)).run Try.prog w = .ok (.bool false) w := eqc _ _ _
  rw [hi] at HIX
  obtain ⟨q, cp, rfl⟩ := own1_slice ho
  have c0 := cell_blk hG 0
  have tg : ((l.length : Int) == 64) = true := by simp [hl]
  clear hi ho hl
  go_enter Try.func33, Try.ntmps33
  go_wp2_with fail
  refine HIX.out.mono ?_
  rintro e w' ⟨rfl, hw⟩
  rw [hw]
  clear hw w'
  clear eqn HIX
  go_wp2_with fail
  go_ret
  exact ⟨rfl, by first | rfl | trivial⟩
set_option maxRecDepth 100000 in
set_option maxHeartbeats 4000000 in
theorem gjoin_yes {G B p c : Nat} {gv : Value} {l : List Nat} (w : World) (hG : w.heap[G]? = some (.cells #[gv] 72 (0, 0))) (ho : w.ownsRow B 84 1 gv l.length (chs l)) (hp : w.cell? ⟨p, 0, none⟩ = some (.chan (some c))) (hBG : B ≤ G) (hl0 : l.length ≤ 64) (hl : l.length < 64) (hi : idx (fun x => x == c) l = -1) :
    Calls Try.prog 33 #[.pointer (some ⟨G, 0, none⟩), .pointer (some ⟨p, 0, none⟩)] w fun e w' => e = .returned (.int .i64 0) ∧ Keep B w w' ∧ ∃ gv', w'.heap[G]? = some (.cells #[gv'] 72 (0, 0)) ∧ w'.ownsRow B 84 1 gv' (l.length + 1) (chs (l ++ [c])) := by
  have HIX : Hid (Calls Try.prog 36 #[.pointer (some ⟨G, 0, none⟩), .pointer (some ⟨p, 0, none⟩)] w fun e w' => e = .returned (.int .i64 (idx (fun x => x == c) l)) ∧ w' = w) := gindex w hl0 (cell_blk hG 0) ho hp
  have eqn : (binOp .eql 84 (.chan (some c)) (.chan none)).run Try.prog w = .ok (.bool false) w := eqc _ _ _
  rw [hi] at HIX
  obtain ⟨q, cp, rfl⟩ := own1_slice ho
  have c0 := cell_blk hG 0
  have tg : ((l.length : Int) == 64) = false := by rw [beq_eq_false_iff_ne]; omega
  have HG := Lib.hid hG
  have HO := Lib.hid ho
  have HP := Lib.hid hp
  have HL := Lib.hid hl0
  have HBB : Hid (B ≤ w.heap.size) := Nat.le_trans hBG (Nat.le_of_lt (blk_lt hG))
  have HBG := Lib.hid hBG
  clear hi ho hl hl0 hBG
  go_enter Try.func33, Try.ntmps33
  go_wp2_with fail
  refine HIX.out.mono ?_
  rintro e w' ⟨rfl, hw⟩
  rw [hw]
  clear hw w'
  clear eqn HIX
  go_upto_region 7 with fail
  clear c0 tg hp
  have hd : Below w.heap.size w w.drew := (Below.refl _ _).drew
  obtain ⟨u2, W2, hr2, ho2, hg2, p2, e2, hs2⟩ := more_row rk70 w.drew 70 (.chan (some c)) (own1_below HO.out hd) rfl (by have := HL.out; omega) HBB.out
  subst hs2
  have HG2 : Hid (W2.heap[G]? = some (.cells #[.slice q l.length cp] 72 (0, 0))) := (hg2.block G (blk_lt HG.out) (fun e => by
    rcases HO.out.2 with ⟨h1, _⟩ | ⟨g', cap, cur, h1, _, h3, _⟩
    · rw [h1] at e; cases e
    · rw [h1] at e
      have e' : G = g' := by injection e
      subst e'
      have h4 := HG.out
      rw [h3] at h4
      injection h4 with h4
      injection h4 with _ h4
      exact absurd h4 (by decide))).trans HG.out
  have HKW : Hid (Keep B w W2) := (Keep.of hd HBB.out).trans (Keep.grown (own1_below HO.out hd) hg2 HBB.out)
  have HR2 := Lib.hid hr2
  have HO2 := Lib.hid ho2
  have XG : Hid (∀ W, Below w.heap.size w W → W.cell? ⟨G, 0, none⟩ = some (.slice q l.length cp)) := fun W h => cell_blk ((h.block _ (blk_lt HG.out)).trans HG.out) 0
  have XP : Hid (w.drew.cell? ⟨p, 0, none⟩ = some (.chan (some c))) := (hd.cell (p := ⟨p, 0, none⟩) (World.block_lt_of_cell? _ _ HP.out)).trans HP.out
  have HA : Hid (Below w.heap.size w w.drew ∧ Below w.heap.size w (w.drew.alloc (Obj.cells #[.chan (some c)] 84))) := ⟨hd, hd.alloc (Nat.le_refl _) _⟩
  clear hd hr2 ho2 hg2
  obtain ⟨V, hV⟩ : ∃ V : Nat → Value, V = fun vv => ([.pointer (some ⟨G, 0, none⟩), .pointer (some ⟨G, 0, none⟩), .pointer (some ⟨G, 0, none⟩), .pointer (some ⟨G, 0, none⟩), .slice q l.length cp, .pointer (some ⟨p, 0, none⟩), .pointer (some ⟨p, 0, none⟩), .pointer (some ⟨p, 0, none⟩), .chan (some c), .slice (some ⟨w.heap.size, 0, none⟩) 1 1, .slice p2 (l.length + 1) e2, .pointer (some ⟨G, 0, none⟩), .pointer (some ⟨G, 0, none⟩), undef] : List Value).getD vv undef := ⟨_, rfl⟩
  have vv0 : Hid (V 0 = .pointer (some ⟨G, 0, none⟩)) := Lib.hid (by rw [hV]; rfl)
  have vv1 : Hid (V 1 = .pointer (some ⟨G, 0, none⟩)) := Lib.hid (by rw [hV]; rfl)
  have vv2 : Hid (V 2 = .pointer (some ⟨G, 0, none⟩)) := Lib.hid (by rw [hV]; rfl)
  have vv3 : Hid (V 3 = .pointer (some ⟨G, 0, none⟩)) := Lib.hid (by rw [hV]; rfl)
  have vv4 : Hid (V 4 = .slice q l.length cp) := Lib.hid (by rw [hV]; rfl)
  have vv5 : Hid (V 5 = .pointer (some ⟨p, 0, none⟩)) := Lib.hid (by rw [hV]; rfl)
  have vv6 : Hid (V 6 = .pointer (some ⟨p, 0, none⟩)) := Lib.hid (by rw [hV]; rfl)
  have vv7 : Hid (V 7 = .pointer (some ⟨p, 0, none⟩)) := Lib.hid (by rw [hV]; rfl)
  have vv8 : Hid (V 8 = .chan (some c)) := Lib.hid (by rw [hV]; rfl)
  have vv9 : Hid (V 9 = .slice (some ⟨w.heap.size, 0, none⟩) 1 1) := Lib.hid (by rw [hV]; rfl)
  have vv10 : Hid (V 10 = .slice p2 (l.length + 1) e2) := Lib.hid (by rw [hV]; rfl)
  have vv11 : Hid (V 11 = .pointer (some ⟨G, 0, none⟩)) := Lib.hid (by rw [hV]; rfl)
  have vv12 : Hid (V 12 = .pointer (some ⟨G, 0, none⟩)) := Lib.hid (by rw [hV]; rfl)
  clear hV
  refine (wpIn_wide (n := 20)).1 ?_
  refine wpIn_region_cl (by kernel_rfl) (back_of (by kernel_rfl)) (fun d act Wn => ∃ y : Nat → Value, act = { tmps := #[.pointer (some ⟨G, 0, none⟩), .pointer (some ⟨p, 0, none⟩), undef, undef, .int .i64 0, .bool false, .pointer (some ⟨G, 0, none⟩), .bool false, .bool false, .pointer (some ⟨p, 0, none⟩), .bool false, .bool false, .bool false, .pointer (some ⟨p, 0, none⟩), .pointer (some ⟨p, 0, none⟩), .pointer (some ⟨p, 0, none⟩), .chan (some c), .bool false, .bool false, .bool false, .pointer (some ⟨G, 0, none⟩), .pointer (some ⟨p, 0, none⟩), .int .i64 (-1), .bool false, .bool false, .pointer (some ⟨G, 0, none⟩), .pointer (some ⟨G, 0, none⟩), .pointer (some ⟨G, 0, none⟩), .slice q l.length cp, .int .i64 l.length, .bool false, y 0, y 1, y 2, y 3, y 4, y 5, y 6, y 7, y 8, y 9, y 10, y 11, y 12], defers := [] } ∧ CS (fun i => [0, 1, 2, 3, 4, 5, 6, 7, 8, 9, 10, 11, 12].contains i) V (fun d => if d 13 = true then (W2.setCell ⟨G, 0, none⟩ (.slice p2 (l.length + 1) e2)) else if d 10 = true then W2 else if d 9 = true then (w.drew.alloc (Obj.cells #[.chan (some c)] 84)) else w.drew) d y Wn) ?r0 ?s0 ?f0
  case r0 => exact fun d hd => ⟨(fun _ => undef), rfl, ⟨fun i hi h => (by have hh := hd i (by simp at hi; show i < 14; omega); rw [hh] at h; cases h), by simp only [hd 9 (by decide), hd 10 (by decide), hd 13 (by decide), Bool.false_eq_true, if_false]; try rfl⟩⟩
  case s0 =>
    rintro ix oi hop d act Wx ⟨y, rfl, hR⟩ hSi hdep hcl
    have hix : ix < 14 := (Array.getElem?_eq_some_iff.1 hop).1
    have HQ := Lib.hid hR
    have HD := Lib.hid hdep
    have HS := Lib.hid hSi
    have HCL := Lib.hid hcl
    clear hR hdep hSi hcl
    obtain rfl | rfl | rfl | rfl | rfl | rfl | rfl | rfl | rfl | rfl | rfl | rfl | rfl | rfl : ix = 0 ∨ ix = 1 ∨ ix = 2 ∨ ix = 3 ∨ ix = 4 ∨ ix = 5 ∨ ix = 6 ∨ ix = 7 ∨ ix = 8 ∨ ix = 9 ∨ ix = 10 ∨ ix = 11 ∨ ix = 12 ∨ ix = 13 := by omega
    all_goals (have hoo := hop; obtain rfl := Option.some.inj hop)
    · refine op_wanted hoo (by kernel_rfl) fun K hK => ?_
      refine wpIn_val (v := .pointer (some ⟨G, 0, none⟩)) (fun _ _ => trivial) (by go_simp) ?_
      exact hK _ _ ⟨upd y 0 (V 0), by rw [vv0.out]; kernel_rfl, HQ.out.put rfl (HQ.out.mem.trans (by simp))⟩
    · refine op_wanted hoo (by kernel_rfl) fun K hK => ?_
      refine wpIn_val (v := .pointer (some ⟨G, 0, none⟩)) (fun _ _ => trivial) (by go_simp) ?_
      exact hK _ _ ⟨upd y 1 (V 1), by rw [vv1.out]; kernel_rfl, HQ.out.put rfl (HQ.out.mem.trans (by simp))⟩
    · have t1 : d 1 = true := HD.out ⟨1, .data⟩ (by simp) rfl
      have q1 : y 1 = .pointer (some ⟨G, 0, none⟩) := (HQ.out.val 1 rfl t1).trans vv1.out
      refine op_wanted hoo (by kernel_rfl) fun K hK => ?_
      refine wpIn_val (v := .pointer (some ⟨G, 0, none⟩)) (fun _ _ => trivial) (by go_simp) ?_
      exact hK _ _ ⟨upd y 2 (V 2), by rw [vv2.out]; kernel_rfl, HQ.out.put rfl (HQ.out.mem.trans (by simp))⟩
    · have t2 : d 2 = true := HD.out ⟨2, .data⟩ (by simp) rfl
      have q2 : y 2 = .pointer (some ⟨G, 0, none⟩) := (HQ.out.val 2 rfl t2).trans vv2.out
      refine op_wanted hoo (by kernel_rfl) fun K hK => ?_
      refine wpIn_val (v := .pointer (some ⟨G, 0, none⟩)) (fun _ _ => trivial) (by go_simp) ?_
      exact hK _ _ ⟨upd y 3 (V 3), by rw [vv3.out]; kernel_rfl, HQ.out.put rfl (HQ.out.mem.trans (by simp))⟩
    · have t3 : d 3 = true := HD.out ⟨3, .data⟩ (by simp) rfl
      have q3 : y 3 = .pointer (some ⟨G, 0, none⟩) := (HQ.out.val 3 rfl t3).trans vv3.out
      have h10 : d 10 = false := (HCL.out.no (i := 4) (j := 10) rfl HS.out (by kernel_rfl))
      have h13 : d 13 = false := (HCL.out.no (i := 4) (j := 13) rfl HS.out (by kernel_rfl))
      have hm := HQ.out.mem
      simp only [h13, h10, Bool.false_eq_true, if_false] at hm
      have c1 : Wx.cell? ⟨G, 0, none⟩ = some (.slice q l.length cp) := XG.out _ (by rw [hm]; split; exact HA.out.2; exact HA.out.1)
      clear hm
      refine op_wanted hoo (by kernel_rfl) fun K hK => ?_
      refine wpIn_val (v := .slice q l.length cp) (fun _ _ => trivial) (by go_simp) ?_
      exact hK _ _ ⟨upd y 4 (V 4), by rw [vv4.out]; kernel_rfl, HQ.out.put rfl (HQ.out.mem.trans (by simp))⟩
    · refine op_wanted hoo (by kernel_rfl) fun K hK => ?_
      refine wpIn_val (v := .pointer (some ⟨p, 0, none⟩)) (fun _ _ => trivial) (by go_simp) ?_
      exact hK _ _ ⟨upd y 5 (V 5), by rw [vv5.out]; kernel_rfl, HQ.out.put rfl (HQ.out.mem.trans (by simp))⟩
    · have t5 : d 5 = true := HD.out ⟨5, .data⟩ (by simp) rfl
      have q5 : y 5 = .pointer (some ⟨p, 0, none⟩) := (HQ.out.val 5 rfl t5).trans vv5.out
      refine op_wanted hoo (by kernel_rfl) fun K hK => ?_
      refine wpIn_val (v := .pointer (some ⟨p, 0, none⟩)) (fun _ _ => trivial) (by go_simp) ?_
      exact hK _ _ ⟨upd y 6 (V 6), by rw [vv6.out]; kernel_rfl, HQ.out.put rfl (HQ.out.mem.trans (by simp))⟩
    · have t6 : d 6 = true := HD.out ⟨6, .data⟩ (by simp) rfl
      have q6 : y 6 = .pointer (some ⟨p, 0, none⟩) := (HQ.out.val 6 rfl t6).trans vv6.out
      refine op_wanted hoo (by kernel_rfl) fun K hK => ?_
      refine wpIn_val (v := .pointer (some ⟨p, 0, none⟩)) (fun _ _ => trivial) (by go_simp) ?_
      exact hK _ _ ⟨upd y 7 (V 7), by rw [vv7.out]; kernel_rfl, HQ.out.put rfl (HQ.out.mem.trans (by simp))⟩
    · have t7 : d 7 = true := HD.out ⟨7, .data⟩ (by simp) rfl
      have q7 : y 7 = .pointer (some ⟨p, 0, none⟩) := (HQ.out.val 7 rfl t7).trans vv7.out
      have h9 : d 9 = false := (HCL.out.no (i := 8) (j := 9) rfl HS.out (by kernel_rfl))
      have h10 : d 10 = false := (HCL.out.no (i := 9) (j := 10) rfl (HCL.out.no (i := 8) (j := 9) rfl HS.out (by kernel_rfl)) (by kernel_rfl))
      have h13 : d 13 = false := (HCL.out.no (i := 8) (j := 13) rfl HS.out (by kernel_rfl))
      have hm := HQ.out.mem
      simp only [h13, h10, h9, Bool.false_eq_true, if_false] at hm
      have c1 : Wx.cell? ⟨p, 0, none⟩ = some (.chan (some c)) := by rw [hm]; exact XP.out
      clear hm
      refine op_wanted hoo (by kernel_rfl) fun K hK => ?_
      refine wpIn_val (v := .chan (some c)) (fun _ _ => trivial) (by go_simp) ?_
      exact hK _ _ ⟨upd y 8 (V 8), by rw [vv8.out]; kernel_rfl, HQ.out.put rfl (HQ.out.mem.trans (by simp))⟩
    · have t8 : d 8 = true := HD.out ⟨8, .data⟩ (by simp) rfl
      have q8 : y 8 = .chan (some c) := (HQ.out.val 8 rfl t8).trans vv8.out
      have h10 : d 10 = false := (HCL.out.no (i := 9) (j := 10) rfl HS.out (by kernel_rfl))
      have h13 : d 13 = false := (HCL.out.no (i := 9) (j := 13) rfl HS.out (by kernel_rfl))
      have hw : Wx = w.drew := HQ.out.mem.trans (by simp [h10, h13, HS.out])
      have HW := Lib.hid hw
      rw [hw] at HQ ⊢
      clear hw HW
      refine op_wanted hoo (by kernel_rfl) fun K hK => ?_
      refine wpIn_new (v := .slice (some ⟨w.heap.size, 0, none⟩) 1 1) (w' := (w.drew.alloc (Obj.cells #[.chan (some c)] 84))) (fun _ _ => trivial) (by go_simp) ?_
      exact hK _ _ ⟨upd y 9 (V 9), by rw [vv9.out]; kernel_rfl, HQ.out.put rfl (by simp [h10, h13])⟩
    · have t4 : d 4 = true := HD.out ⟨4, .data⟩ (by simp) rfl
      have q4 : y 4 = .slice q l.length cp := (HQ.out.val 4 rfl t4).trans vv4.out
      have t9 : d 9 = true := HD.out ⟨9, .data⟩ (by simp) rfl
      have q9 : y 9 = .slice (some ⟨w.heap.size, 0, none⟩) 1 1 := (HQ.out.val 9 rfl t9).trans vv9.out
      have h13 : d 13 = false := (HCL.out.no (i := 10) (j := 13) rfl HS.out (by kernel_rfl))
      have hw : Wx = (w.drew.alloc (Obj.cells #[.chan (some c)] 84)) := HQ.out.mem.trans (by simp [h13, HS.out, t9])
      have HW := Lib.hid hw
      rw [hw] at HQ ⊢
      clear hw HW
      refine op_wanted hoo (by kernel_rfl) fun K hK => ?_
      refine wpIn_app (.tmp 35) (.tmp 40) 70 rfl (u := .slice q l.length cp) (v := .slice (some ⟨w.heap.size, 0, none⟩) 1 1) (by rw [← q4]; rfl) (by rw [← q9]; rfl) HR2.out ?_
      exact hK _ _ ⟨upd y 10 (V 10), by rw [vv10.out]; kernel_rfl, HQ.out.put rfl (by simp [h13])⟩
    · have t0 : d 0 = true := HD.out ⟨0, .data⟩ (by simp) rfl
      have q0 : y 0 = .pointer (some ⟨G, 0, none⟩) := (HQ.out.val 0 rfl t0).trans vv0.out
      refine op_wanted hoo (by kernel_rfl) fun K hK => ?_
      refine wpIn_val (v := .pointer (some ⟨G, 0, none⟩)) (fun _ _ => trivial) (by go_simp) ?_
      exact hK _ _ ⟨upd y 11 (V 11), by rw [vv11.out]; kernel_rfl, HQ.out.put rfl (HQ.out.mem.trans (by simp))⟩
    · have t11 : d 11 = true := HD.out ⟨11, .data⟩ (by simp) rfl
      have q11 : y 11 = .pointer (some ⟨G, 0, none⟩) := (HQ.out.val 11 rfl t11).trans vv11.out
      refine op_wanted hoo (by kernel_rfl) fun K hK => ?_
      refine wpIn_val (v := .pointer (some ⟨G, 0, none⟩)) (fun _ _ => trivial) (by go_simp) ?_
      exact hK _ _ ⟨upd y 12 (V 12), by rw [vv12.out]; kernel_rfl, HQ.out.put rfl (HQ.out.mem.trans (by simp))⟩
    · have t12 : d 12 = true := HD.out ⟨12, .data⟩ (by simp) rfl
      have q12 : y 12 = .pointer (some ⟨G, 0, none⟩) := (HQ.out.val 12 rfl t12).trans vv12.out
      have t10 : d 10 = true := HD.out ⟨10, .data⟩ (by simp) rfl
      have q10 : y 10 = .slice p2 (l.length + 1) e2 := (HQ.out.val 10 rfl t10).trans vv10.out
      have hw : Wx = W2 := HQ.out.mem.trans (by simp [HS.out, t10])
      have HW := Lib.hid hw
      rw [hw] at HQ ⊢
      clear hw HW
      have c1 : W2.cell? ⟨G, 0, none⟩ = some (.slice q l.length cp) := cell_blk HG2.out 0
      have c2 : W2.frozen? ⟨G, 0, none⟩ = false := frozen_blk HG2.out 0
      refine op_wanted hoo (by kernel_rfl) fun K hK => ?_
      refine wpIn_skip (w' := (W2.setCell ⟨G, 0, none⟩ (.slice p2 (l.length + 1) e2))) (fun _ _ => trivial) (by go_simp; try exact rfl) ?_
      exact hK _ _ ⟨y, by kernel_rfl, HQ.out.skip rfl (by simp)⟩
  case f0 =>
    rintro d act Wx ⟨y, rfl, hR⟩ hall
    obtain rfl : Wx = (W2.setCell ⟨G, 0, none⟩ (.slice p2 (l.length + 1) e2)) := hR.mem.trans (by simp [hall 13 (by decide)])
    have q0 : y 0 = .pointer (some ⟨G, 0, none⟩) := (hR.val 0 rfl (hall 0 (by decide))).trans vv0.out
    have q1 : y 1 = .pointer (some ⟨G, 0, none⟩) := (hR.val 1 rfl (hall 1 (by decide))).trans vv1.out
    have q2 : y 2 = .pointer (some ⟨G, 0, none⟩) := (hR.val 2 rfl (hall 2 (by decide))).trans vv2.out
    have q3 : y 3 = .pointer (some ⟨G, 0, none⟩) := (hR.val 3 rfl (hall 3 (by decide))).trans vv3.out
    have q4 : y 4 = .slice q l.length cp := (hR.val 4 rfl (hall 4 (by decide))).trans vv4.out
    have q5 : y 5 = .pointer (some ⟨p, 0, none⟩) := (hR.val 5 rfl (hall 5 (by decide))).trans vv5.out
    have q6 : y 6 = .pointer (some ⟨p, 0, none⟩) := (hR.val 6 rfl (hall 6 (by decide))).trans vv6.out
    have q7 : y 7 = .pointer (some ⟨p, 0, none⟩) := (hR.val 7 rfl (hall 7 (by decide))).trans vv7.out
    have q8 : y 8 = .chan (some c) := (hR.val 8 rfl (hall 8 (by decide))).trans vv8.out
    have q9 : y 9 = .slice (some ⟨w.heap.size, 0, none⟩) 1 1 := (hR.val 9 rfl (hall 9 (by decide))).trans vv9.out
    have q10 : y 10 = .slice p2 (l.length + 1) e2 := (hR.val 10 rfl (hall 10 (by decide))).trans vv10.out
    have q11 : y 11 = .pointer (some ⟨G, 0, none⟩) := (hR.val 11 rfl (hall 11 (by decide))).trans vv11.out
    have q12 : y 12 = .pointer (some ⟨G, 0, none⟩) := (hR.val 12 rfl (hall 12 (by decide))).trans vv12.out
    go_wp2_with fail
    go_ret
    refine ⟨rfl, HKW.out.trans (Keep.set HG2.out HBG.out 0 _), _, blk_set HG2.out 0 _, ?_⟩
    rw [show chs (l ++ [c]) = chs l ++ [.chan (some c)] by simp [chs]]
    exact own_other HO2.out HG2.out (by decide) 0 _
end Go.Proofs.Ytgbafpjeapkklaa.Mb
namespace Go.Proofs.Ytgbafpjeapkklaa.Mb
open Go.RowKit
set_option linter.unusedVariables false
set_option linter.unusedSimpArgs false
theorem info84 : (Try.prog.info? 84).map (fun i => (i.zero, i.size, i.bytes)) = some (some (.chan none), 1, 8) := by kernel_rfl
theorem chs_len (l : List Nat) : (chs l).length = l.length := by simp [chs]
theorem chs_take (l : List Nat) (i : Nat) : (chs l).take i = chs (l.take i) := by simp [chs]
theorem chs_drop (l : List Nat) (i : Nat) : (chs l).drop i = chs (l.drop i) := by simp [chs]
theorem chs_append (l m : List Nat) : chs (l ++ m) = chs l ++ chs m := by simp [chs]
theorem chs_one (l : List Nat) : ∀ u ∈ chs l, u.oneCell' = true := by
  intro u hu
  simp only [chs, List.mem_map] at hu
  obtain ⟨x, _, rfl⟩ := hu
  rfl
theorem clear_last1 (W : World) (ty : TypeId) (g c k : Nat) (cur : Array Value) (hg : W.heap[g]? = some (.cells cur 84 (0, 0))) (hk : k + 1 ≤ cur.size) :
    (Builtin.clear_ #[70] ty #[.slice (some ⟨g, k, none⟩) 1 c]).run Try.prog W = .ok (.tuple #[]) (W.setRow g (cur.toList.take k ++ [Value.chan none] ++ cur.toList.drop (k + 1)).toArray) := by
  have hz : ∀ w, (zeroValue 84).run Try.prog w = .ok (.chan none) w := fun w => by kernel_rfl
  have hzc : (Builtin.zeroCells (Value.cells (.chan none)) 1).toList = [Value.chan none] := by kernel_rfl
  have hst := run_storeCells_at Try.prog g k 84 ([Value.chan none]) 0 cur W hg (by simpa using hk) (by intro v hv; simp at hv; subst hv; rfl)
  simp only [Nat.add_zero] at hst
  simp [Builtin.clear_, run_underlying Try.underlying70, hz, Result.andThen, hzc]
  rw [hst]
  simp
set_option maxRecDepth 100000 in
set_option maxHeartbeats 4000000 in
theorem delete_ch {W : World} {B : Nat} {v : Value} {l : List Nat} (h : W.ownsRow B 84 1 v l.length (chs l)) (hl : l.length ≤ 2000) (i : Nat) (hi : i < l.length) :
    Calls Try.prog 60 #[v, .int .i64 i, .int .i64 ((i : Int) + 1)] W fun e w' => ∃ v', e = .returned v' ∧ w'.ownsRow B 84 1 v' (l.length - 1) (chs (l.eraseIdx i)) ∧ W.grownBy w' v.ownBlock := by
  obtain ⟨i0, hi0, hz0, hz1, hz2⟩ := info_parts info84
  rcases h.2 with ⟨_, h0⟩ | ⟨g, cap, cur, rfl, hBg, hcur, hcap, hmax, hsize, htake⟩
  · omega
  obtain ⟨news, hnews⟩ : ∃ news, news = chs (l.drop (i + 1)) := ⟨_, rfl⟩
  have hlen : news.length = (l.length - (i + 1)) := by rw [hnews, chs_len]; simp
  have hsrc0 : ∀ t u, news[t]? = some u → cur[(i + 1) + t]? = some u := by
    intro t u hu
    have ht : t < (l.length - (i + 1)) := by
      have := (List.getElem?_eq_some_iff.1 hu).1
      rwa [hlen] at this
    rw [hnews, ← chs_drop, List.getElem?_drop, ← htake, List.getElem?_take, if_pos (by omega)] at hu
    simpa using hu
  obtain ⟨A, hA, hsrc⟩ : ∃ A : Addr, (if cap = i + 1 then some (⟨g, 0, none⟩ : Addr) else some ⟨g, (i + 1), none⟩) = some A ∧ Hid (∀ t u, news[t]? = some u → W.drew.cell? (A.add t) = some u) := by
    by_cases hc : cap = i + 1
    · refine ⟨⟨g, 0, none⟩, by simp [hc], fun t u hu => ?_⟩
      have h0 : news.length = 0 := by rw [hlen]; omega
      rw [List.length_eq_zero_iff.1 h0] at hu
      simp at hu
    · refine ⟨⟨g, (i + 1), none⟩, by simp [hc], fun t u hu => ?_⟩
      rw [Addr.add_lit]
      exact (cell_blk (w := W.drew) hcur _).trans (hsrc0 t u hu)
  have H1 : Hid (∀ u ∈ news, u.oneCell' = true) := by rw [hnews]; exact chs_one _
  have hap := fun (ty : TypeId) => run_append_room (P := Try.prog) W.drew 70 ty 84 i0 Try.underlying70 hi0 g i cap cur hcur A (l.length - (i + 1)) (cap - (i + 1)) news (by rw [hz1, Nat.mul_one]; exact hlen) hsrc.out H1.out (by omega) (by rw [hz1, hlen, hsize, Nat.mul_one, Nat.mul_one]; omega)
  rw [hz1, Nat.mul_one, show i + (l.length - (i + 1)) = l.length - 1 by omega] at hap
  obtain ⟨cur1, hcur1⟩ : ∃ cur1, cur1 = (cur.toList.take i ++ news ++ cur.toList.drop (i + news.length)).toArray := ⟨_, rfl⟩
  rw [← hcur1] at hap
  obtain ⟨W1, hW1⟩ : ∃ W1, W1 = W.drew.setRow g cur1 := ⟨_, rfl⟩
  rw [← hW1] at hap
  have hg1 : W1.heap[g]? = some (.cells cur1 84 (0, 0)) := by rw [hW1]; exact setRow_heap W.drew g cur cur1 84 _ hcur
  have hs1 : cur1.size = cur.size := by
    rw [hcur1]
    simp only [List.size_toArray, List.length_append, List.length_take, List.length_drop, Array.length_toList]
    rw [hlen, hsize]
    omega
  have hcl := fun ty => clear_last1 W1 ty g (cap - (l.length - 1)) (l.length - 1) cur1 hg1 (by rw [hs1, hsize]; omega)
  obtain ⟨W2, hW2⟩ : ∃ W2, W2 = W1.setRow g (cur1.toList.take (l.length - 1) ++ [Value.chan none] ++ cur1.toList.drop (l.length - 1 + 1)).toArray := ⟨_, rfl⟩
  rw [← hW2] at hcl
  have HRES : Hid (W2.ownsRow B 84 1 (.slice (some ⟨g, 0, none⟩) (l.length - 1) cap) (l.length - 1) (chs (l.eraseIdx i)) ∧ W.grownBy W2 (some g)) := by
    refine ⟨⟨?_, .inr ⟨g, cap, _, rfl, hBg, by rw [hW2]; exact setRow_heap W1 g cur1 _ 84 _ hg1, by omega, hmax, ?_, ?_⟩⟩, ?_⟩
    · rw [chs_len, List.length_eraseIdx, if_pos hi, Nat.mul_one]
    · simp only [List.size_toArray, List.length_append, List.length_take, List.length_drop, Array.length_toList, List.length_cons, List.length_nil]
      rw [hs1, hsize]
      omega
    · rw [Nat.mul_one]
      have e1 : cur.toList.take i = chs (l.take i) := by
        rw [← chs_take, ← htake, List.take_take, Nat.min_eq_left (by omega)]
      have e2 : (chs (l.take i)).length = i := by rw [chs_len]; simp; omega
      have e3 : cur1.toList.take (l.length - 1) = chs (l.eraseIdx i) := by
        rw [hcur1, e1]
        show (chs (l.take i) ++ news ++ _).take _ = _
        rw [List.eraseIdx_eq_take_drop_succ, chs_append, hnews]
        rw [← hnews]
        refine List.take_left' ?_
        rw [List.length_append, e2, hlen]
        omega
      rw [e3]
      show (chs (l.eraseIdx i) ++ [Value.chan none] ++ _).take _ = _
      rw [List.append_assoc]
      refine List.take_left' ?_
      rw [chs_len, List.length_eraseIdx, if_pos hi]
    · refine ⟨by rw [hW2, hW1]; rfl, by rw [hW2, hW1]; rfl, by rw [hW2, hW1]; rfl, ?_, ?_⟩
      · rw [hW2, hW1]; simp [World.setRow]
      · intro k _ hk
        rw [hW2, hW1, setRow_other _ _ _ _ (fun e => hk (by rw [e])), setRow_other _ _ _ _ (fun e => hk (by rw [e]))]
        rfl
  have HAP := Lib.hid hap
  have HL := Lib.hid hlen
  clear hW1 hW2 hcur1 hs1 hg1 hsrc0 hsrc hnews hlen htake hsize hcur hBg H1 hi0 hz0 hz1 hz2 h hap
  generalize hn : l.length = n at *
  obtain ⟨N, rfl⟩ : ∃ N, n = N + 1 := ⟨n - 1, by omega⟩
  simp only [Nat.add_sub_cancel, Nat.add_sub_add_right] at *
  have hiN : i ≤ N := by omega
  have hcn : ¬ cap = N := by omega
  have hcn' : ¬ N = cap := by omega
  have hNN : (N : Int) ≤ (N : Int) + 1 := by omega
  have hNc : N ≤ cap := by omega
  have hiw : wrap64 ((i : Int) + 1) = (i : Int) + 1 := by unfold wrap64; omega
  have hne : ((i : Int) == (i : Int) + 1) = false := by simp; omega
  have d1 : decide ((i : Int) ≤ (i : Int) + 1) = true := decide_eq_true (by omega)
  have hic : i ≤ cap := by omega
  have hjc : i + 1 ≤ cap := by omega
  have hin' : (i : Int) + 1 ≤ ((N + 1 : Nat) : Int) := by omega
  have hi0' : 0 ≤ (i : Int) + 1 := by omega
  have hi00 : 0 ≤ (i : Int) := by omega
  have hcm : cap ≤ 9223372036854775807 := by unfold maxLen at hmax; omega
  clear hmax
  go_enter Try.func60, Try.ntmps60
  go_upto_region 5 with fail
  go_region_law (refine step_append_run rfl (.tmp 22) (.tmp 25) 70 rfl (.slice (some ⟨g, 0, none⟩) i cap) (.slice (some A) (N - i) (cap - (i + 1))) (by simp [Act.eval, Act.put]) (by simp [Act.eval, Act.put]) (HAP.out _) ?_)
  go_wp2_with fail
  go_ret
  exact ⟨_, rfl, HRES.out.1, HRES.out.2⟩
end Go.Proofs.Ytgbafpjeapkklaa.Mb
namespace Go.Proofs.Ytgbafpjeapkklaa.Mb
open Go.RowKit
set_option linter.unusedVariables false
set_option linter.unusedSimpArgs false
theorem grp_apart {w w' : World} {G B n : Nat} {v : Value} {xs : List Value} {C : Array Value} (h : w.heap[G]? = some (.cells C 72 (0, 0))) (ho : w.ownsRow B 84 1 v n xs) (hg : w.grownBy w' v.ownBlock) : w'.heap[G]? = some (.cells C 72 (0, 0)) := by
  refine (hg.block G (blk_lt h) fun e => ?_).trans h
  rcases ho.2 with ⟨h1, _⟩ | ⟨g', cap, cur, h1, _, h3, _⟩
  · rw [h1] at e; cases e
  · rw [h1] at e
    have e' : G = g' := by injection e
    subst e'
    rw [h3] at h
    injection h with h
    injection h with _ h
    exact absurd h (by decide)
theorem gdrop_gnil (w : World) : Calls Try.prog 35 #[.pointer none, .pointer none] w fun e w' => e = .returned (.int .i64 5) ∧ w' = w := by
  go_enter Try.func35, Try.ntmps35
  go_wp2_with fail
  refine (gindex_nil w _ (.inl rfl)).mono ?_
  rintro e w' ⟨rfl, hw⟩
  rw [hw]
  clear hw w'
  go_wp2_with fail
  go_ret
  exact ⟨rfl, by first | rfl | trivial⟩
theorem gdrop_bnil (w : World) (G : Nat) : Calls Try.prog 35 #[.pointer (some ⟨G, 0, none⟩), .pointer none] w fun e w' => e = .returned (.int .i64 5) ∧ w' = w := by
  go_enter Try.func35, Try.ntmps35
  go_wp2_with fail
  refine (gindex_bnil w G).mono ?_
  rintro e w' ⟨rfl, hw⟩
  rw [hw]
  clear hw w'
  go_wp2_with fail
  go_ret
  exact ⟨rfl, by first | rfl | trivial⟩
theorem gjoin_gnil (w : World) : Calls Try.prog 33 #[.pointer none, .pointer none] w fun e w' => e = .returned (.int .i64 1) ∧ w' = w := by
  go_enter Try.func33, Try.ntmps33
  go_wp2_with fail
  go_ret
  exact ⟨rfl, by first | rfl | trivial⟩
theorem gjoin_bnil (w : World) (G : Nat) : Calls Try.prog 33 #[.pointer (some ⟨G, 0, none⟩), .pointer none] w fun e w' => e = .returned (.int .i64 1) ∧ w' = w := by
  go_enter Try.func33, Try.ntmps33
  go_wp2_with fail
  go_ret
  exact ⟨rfl, by first | rfl | trivial⟩
set_option maxRecDepth 100000 in
set_option maxHeartbeats 4000000 in
theorem gdrop_no {G B p c : Nat} {gv : Value} {l : List Nat} (w : World) (hG : w.heap[G]? = some (.cells #[gv] 72 (0, 0))) (ho : w.ownsRow B 84 1 gv l.length (chs l)) (hp : w.cell? ⟨p, 0, none⟩ = some (.chan (some c))) (hl0 : l.length ≤ 64) (hi : idx (fun x => x == c) l = -1) :
    Calls Try.prog 35 #[.pointer (some ⟨G, 0, none⟩), .pointer (some ⟨p, 0, none⟩)] w fun e w' => e = .returned (.int .i64 5) ∧ w' = w := by
  have HIX : Hid (Calls Try.prog 36 #[.pointer (some ⟨G, 0, none⟩), .pointer (some ⟨p, 0, none⟩)] w fun e w' => e = .returned (.int .i64 (idx (fun x => x == c) l)) ∧ w' = w) := gindex w hl0 (cell_blk hG 0) ho hp
  rw [hi] at HIX
  clear hi ho
  go_enter Try.func35, Try.ntmps35
  go_wp2_with fail
  refine HIX.out.mono ?_
  rintro e w' ⟨rfl, hw⟩
  rw [hw]
  clear hw w' HIX
  go_wp2_with fail
  go_ret
  exact ⟨rfl, by first | rfl | trivial⟩
set_option maxRecDepth 100000 in
set_option maxHeartbeats 4000000 in
theorem gdrop_yes {G B p c : Nat} {gv : Value} {l : List Nat} (w : World) (hG : w.heap[G]? = some (.cells #[gv] 72 (0, 0))) (ho : w.ownsRow B 84 1 gv l.length (chs l)) (hp : w.cell? ⟨p, 0, none⟩ = some (.chan (some c))) (hBG : B ≤ G) (hl0 : l.length ≤ 64) {k : Nat} (hk : k < l.length) (hi : idx (fun x => x == c) l = (k : Int)) :
    Calls Try.prog 35 #[.pointer (some ⟨G, 0, none⟩), .pointer (some ⟨p, 0, none⟩)] w fun e w' => e = .returned (.int .i64 0) ∧ Keep B w w' ∧ ∃ gv', w'.heap[G]? = some (.cells #[gv'] 72 (0, 0)) ∧ w'.ownsRow B 84 1 gv' (l.length - 1) (chs (l.eraseIdx k)) := by
  have HIX : Hid (Calls Try.prog 36 #[.pointer (some ⟨G, 0, none⟩), .pointer (some ⟨p, 0, none⟩)] w fun e w' => e = .returned (.int .i64 (idx (fun x => x == c) l)) ∧ w' = w) := gindex w hl0 (cell_blk hG 0) ho hp
  rw [hi] at HIX
  have c0 := cell_blk hG 0
  have tk : decide ((k : Int) < 0) = false := decide_eq_false (by omega)
  have ew : IntKind.i64.wrap ((k : Int) + 1) = (k : Int) + 1 := by rw [IntKind.wrap_i64]; omega
  have HDL : Hid (Calls Try.prog 60 #[gv, .int .i64 k, .int .i64 ((k : Int) + 1)] w fun e w' => ∃ v', e = .returned v' ∧ w'.ownsRow B 84 1 v' (l.length - 1) (chs (l.eraseIdx k)) ∧ w.grownBy w' gv.ownBlock) := delete_ch ho (by omega) k hk
  have HG := Lib.hid hG
  have HO := Lib.hid ho
  have HBG := Lib.hid hBG
  clear hi hp hG ho hBG
  go_enter Try.func35, Try.ntmps35
  go_wp2_with fail
  refine HIX.out.mono ?_
  rintro e w' ⟨rfl, hw⟩
  rw [hw]
  clear hw w' HIX
  go_wp2_with fail
  have HDL2 := HDL.out
  refine HDL.out.mono ?_
  rintro e W1 ⟨v', rfl, ho1, hg1⟩
  clear c0 tk ew HDL HDL2
  have HG1 : Hid (W1.heap[G]? = some (.cells #[gv] 72 (0, 0))) := grp_apart HG.out HO.out hg1
  have HK : Hid (Keep B w W1) := Keep.grown HO.out hg1 (Nat.le_trans HBG.out (Nat.le_of_lt (blk_lt HG.out)))
  have HO1 := Lib.hid ho1
  obtain ⟨q, cp, rfl⟩ := own1_slice ho1
  obtain ⟨q0, cp0, rfl⟩ := own1_slice HO.out
  clear ho1 hg1
  have c1 := cell_blk HG1.out 0
  have c2 : W1.frozen? ⟨G, 0, none⟩ = false := frozen_blk HG1.out 0
  go_wp2_with fail
  go_ret
  exact ⟨rfl, HK.out.trans (Keep.set HG1.out HBG.out 0 _), _, blk_set HG1.out 0 _, own_other HO1.out HG1.out (by decide) 0 _⟩
end Go.Proofs.Ytgbafpjeapkklaa.Mb
