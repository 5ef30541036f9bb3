/- PoolApart: the walk. -/
import Derived.Test.YtdgfnlagbdmniaaDoorQa
import Derived.Deep.CutRange
namespace Go.Proofs.YtdgfnlagbdmniaaDoor.Pl
open Go.RowKit

set_option maxRecDepth 100000 in
set_option maxHeartbeats 1000000 in
theorem apart_long (x : Int) (p : Option Addr) (n cap : Nat) (hlong : 200 < n) (w : World) (hT : Tab w) :
    Calls Tryd.prog 4 #[.int .u8 x, .slice p n cap] w fun e w' => e = .returned (.bool true) ∧ Below w.heap.size w w' := by
  have HT := Lib.hid hT; clear hT
  have e1 : decide ((200 : Int) < n) = true := decide_eq_true (by omega)
  cases p
  all_goals
    go_enter Tryd.func4, Tryd.ntmps4
    go_wp2_with fail
    refine (awake_at _ HT.out).mono ?_
    rintro e w1 ⟨rfl, hb1⟩
    have HB1 := Lib.hid hb1; clear hb1
    have HT1 := Lib.hid (HT.out.below HB1.out HT.out.lt)
    go_wp2_with fail
    refine (awake_at _ HT1.out).mono ?_
    rintro e w2 ⟨rfl, hb2⟩
    have HB2 := Lib.hid (HB1.out.trans (hb2.mono HB1.out.size)); clear hb2
    go_wp2_with fail
    go_ret
    exact ⟨rfl, HB2.out⟩

set_option maxRecDepth 100000 in
set_option maxHeartbeats 2000000 in
theorem apart_walk (x : Int) (hx0 : 0 ≤ x) (hx1 : x ≤ 255) (v : Value) (xs : List Int) (w : World) (hT : Tab w) (hN : Nums w v xs) (hx : ∀ x ∈ xs, 0 ≤ x ∧ x ≤ 65535) (hl : xs.length ≤ 200) :
    Calls Tryd.prog 4 #[.int .u8 x, v] w fun e w' => e = .returned (.bool true) ∧ Below w.heap.size w w' := by
  obtain ⟨N, hNN⟩ : ∃ N : Nat, (N : Int) = x % 32 + 1 := ⟨(x % 32 + 1).toNat, by omega⟩
  have hN1 : 1 ≤ N := by omega
  have hN2 : N ≤ 32 := by omega
  have hNN2 : x % 32 + 1 = (N : Int) := hNN.symm
  have HNN := Lib.hid hNN2
  obtain ⟨p, cap, rfl, hp⟩ := hN
  have HNU : Hid (∀ w' : World, Below w.heap.size w w' → Nums w' (.slice p xs.length cap) xs) := by
    intro w' hb
    refine ⟨p, cap, rfl, ?_⟩
    rcases hp with h | ⟨g, off, h1, h2, h3⟩
    · exact .inl h
    · exact .inr ⟨g, off, h1, Nat.lt_of_lt_of_le h2 hb.size, fun k y hy => (hb.cell (p := ⟨g, off + k, none⟩) h2).trans (h3 k y hy)⟩
  clear hp hNN hNN2
  have HT := Lib.hid hT; clear hT
  have HX := Lib.hid hx; clear hx
  have HL := Lib.hid hl
  generalize hn : xs.length = n at *
  have HN := Lib.hid hn; clear hn
  have e1 : decide ((200 : Int) < n) = false := decide_eq_false (by omega)
  have HPL : Hid (∀ w' : World, Tab w' → Below w.heap.size w w' → Calls Tryd.prog 14 #[.int .i64 N, .slice p n cap] w' (PlayedPost N w')) := by
    intro w' hT hb
    exact played_at N hN1 (by omega) _ xs w' hT (HNU.out w' hb) HX.out (by rw [HN.out]; exact HL.out)
  rcases p with _ | pa
  all_goals
    go_enter Tryd.func4, Tryd.ntmps4
    go_wp2_with fail
    refine (awake_at _ HT.out).mono ?_
    rintro e w1 ⟨rfl, hb1⟩
    have HB1 := Lib.hid hb1; clear hb1
    have HT1 := Lib.hid (HT.out.below HB1.out HT.out.lt)
    go_wp2_with fail
    rw [HNN.out]
    refine (HPL.out _ HT1.out HB1.out).mono ?_
    rintro e w2 ⟨a, b, cs, rfl, ha, hb, hA, hG, hLn, hC, hB⟩
    have HA2 := Lib.hid hA; clear hA
    have HG := Lib.hid hG; clear hG
    have HLN := Lib.hid hLn; clear hLn
    have HB2 : Hid (Below w.heap.size w w2) := HB1.out.trans (hB.mono HB1.out.size)
    have HSM := Lib.hid (HG.out.small (by rw [HLN.out]; omega))
    have hlen := HSM.out.1
    clear hB hC ha hb HB1 HT1
    go_wp2_with fail
    refine (objects_at HA2.out HG.out.rd (by simpa [objs] using hlen)).mono ?_
    rintro e w3 ⟨v, rfl, hown, hb3⟩
    have HA3 := Lib.hid (HA2.out.below hb3 HA2.out.lt_a HA2.out.lt_b)
    have HB3 : Hid (Below w.heap.size w w3) := HB2.out.trans (hb3.mono HB2.out.size)
    clear hb3 HB2 HA2
    by_cases hne : objs cs = []
    · rw [hne] at hown
      rcases own_empty hown with rfl | ⟨y, c, rfl⟩
      all_goals
        clear hown hne
        go_wp2_with fail
        go_loop [43] (fun s => s = .int .i64 0) (fun _ => 0)
        case atStart => rfl
        case round =>
          obtain rfl := hrel
          go_wp2
          go_ret
          exact ⟨rfl, HB3.out⟩
    · obtain ⟨g, cap2, rfl, hq1, hq2, hcells⟩ := own_obj hown hne
      have HCE := Lib.hid hcells; clear hcells hown hne
      obtain ⟨L, hL⟩ : ∃ L, L = (objs cs).length := ⟨_, rfl⟩
      rw [← hL] at hlen ⊢
      have HLL := Lib.hid hL; clear hL
      go_wp2_with fail
      go_loopw [7, 8, 9, 43] (fun s7 s8 s9 s wr => ∃ (k : Nat) (E La K : Int), k ≤ L ∧ s = .int .i64 k ∧ s7 = .int .i64 E ∧ s8 = .int .i64 La ∧ s9 = .int .i64 K ∧ Seen (objs cs) k E La K ∧ Below w3.heap.size w3 wr) (fun _ _ _ s _ => L - (intOf s).toNat)
      case atStart => exact ⟨0, 0, -1, -1, by omega, rfl, rfl, rfl, rfl, Seen.zero _, Below.refl _ _⟩
      case round =>
        obtain ⟨k, E, La, K, hk, rfl, rfl, rfl, rfl, hS, hB⟩ := hrel
        have HS := Lib.hid hS; clear hS
        have HBr := Lib.hid hB; clear hB
        by_cases hlt : k < L
        · obtain ⟨o, ho⟩ : ∃ o, (objs cs)[k]? = some o := ⟨(objs cs)[k]'(by rw [← HLL.out]; exact hlt), by simp⟩
          obtain ⟨c0, c1, c2, c3⟩ := HCE.out k o ho
          have d0 : wr.cell? ⟨g, k * 4, none⟩ = some (.int .i64 o.at_) := (HBr.out.cell (p := ⟨g, k * 4, none⟩) hq2).trans c0
          have d1 : wr.cell? ⟨g, k * 4 + 1, none⟩ = some (.int .i64 o.size) := (HBr.out.cell (p := ⟨g, k * 4 + 1, none⟩) hq2).trans c1
          have d2 : wr.cell? ⟨g, k * 4 + 2, none⟩ = some (.int .i64 o.room) := (HBr.out.cell (p := ⟨g, k * 4 + 2, none⟩) hq2).trans c2
          have d3 : wr.cell? ⟨g, k * 4 + 3, none⟩ = some (.bool o.marked) := (HBr.out.cell (p := ⟨g, k * 4 + 3, none⟩) hq2).trans c3
          have hm := List.mem_of_getElem? ho
          have HST := Lib.hid (Seen.step HG.out (by rw [HLN.out]; omega) ho)
          obtain ⟨s1, s2⟩ := HS.out.nxt o ho
          obtain ⟨s3, s4⟩ := HS.out.lo
          obtain ⟨ok, hr⟩ := obj_in HG.out hm
          rw [HLN.out] at hr
          have HOK := Lib.hid ok
          have k1 := ok.pos
          have k2 := ok.le
          have k3 := ok.fit
          have HM := Lib.hid hm
          have HLG := Lib.hid (obj_large HG.out hm)
          have HCO := Lib.hid (class_ok o.size k1 k2)
          have hcl5 := cls_le o.size
          clear c0 c1 c2 c3 ho hm ok
          generalize hcl : cls o.size = C at *
          have t1 : decide ((o.at_ : Int) < E) = false := decide_eq_false (by omega)
          have t2 : decide ((o.room : Int) < o.size) = false := decide_eq_false (by omega)
          have t3 : decide ((x % 32 + 1) * 1024 < (o.at_ : Int) + (o.room : Int)) = false := decide_eq_false (by rw [HNN.out]; omega)
          go_wp2_with fail
          obtain ⟨X, hX⟩ : ∃ X, X = wr.heap.size := ⟨_, rfl⟩
          obtain ⟨W1, hW1⟩ : ∃ W1, W1 = wr.alloc (Obj.cells #[Value.int IntKind.i64 o.at_, Value.int IntKind.i64 o.size, Value.int IntKind.i64 o.room, Value.bool o.marked] 40) := ⟨_, rfl⟩
          rw [← hW1, ← hX]
          have HX1 : Hid (W1.heap[X]? = some (.cells #[Value.int IntKind.i64 o.at_, Value.int IntKind.i64 o.size, Value.int IntKind.i64 o.room, Value.bool o.marked] 40 (0, 0))) := by rw [hW1, hX]; exact (MapKept.heap_alloc _ _).1
          have HB1 : Hid (Below w3.heap.size w3 W1) := by rw [hW1]; exact HBr.out.alloc HBr.out.size _
          have HA1 : Hid (At W1 a b cs) := HA3.out.below HB1.out HA3.out.lt_a HA3.out.lt_b
          clear hW1 hX d0 d1 d2 d3
          refine (HCO.out _).mono ?_
          rintro e w' ⟨rfl, rfl⟩
          have x0 : W1.cell? ⟨X, 0, none⟩ = some (.int .i64 o.at_) := cell_blk HX1.out 0
          have x1 : W1.cell? ⟨X, 1, none⟩ = some (.int .i64 o.size) := cell_blk HX1.out 1
          have x2 : W1.cell? ⟨X, 2, none⟩ = some (.int .i64 o.room) := cell_blk HX1.out 2
          have x3 : W1.cell? ⟨X, 3, none⟩ = some (.bool o.marked) := cell_blk HX1.out 3
          go_upto_region 12 with fail
          go_cut [43, 103] from 43 to 168 (fun s43 s103 wx => s43 = .int .i64 k ∧ s103 = .bool false ∧ wx = W1)
          case first =>
            by_cases hdc : (o.at_ : Int) / 1024 = La
            · have hcc : (C : Int) = K := s2 hdc
              have t4 : (((o.at_ : Int) / 1024) == La) = true := by simp [hdc]
              have t5 : ((C : Int) != K) = false := by simp [hcc]
              clear hdc hcc
              by_cases hc5 : C = 5
              · have t6 : ((C : Int) == 5) = true := by simp [hc5]
                have t7 : (((o.at_ : Int) % 1024) != 0) = false := by have := HLG.out hc5; simp; omega
                clear hc5
                go_wp2_with fail
                go_meet
                exact ⟨rfl, rfl, rfl⟩
              · have t6 : ((C : Int) == 5) = false := by simp; omega
                clear hc5
                go_wp2_with fail
                go_meet
                exact ⟨rfl, rfl, rfl⟩
            · have t4 : (((o.at_ : Int) / 1024) == La) = false := by simp [hdc]
              clear hdc
              by_cases hc5 : C = 5
              · have t6 : ((C : Int) == 5) = true := by simp [hc5]
                have t7 : (((o.at_ : Int) % 1024) != 0) = false := by have := HLG.out hc5; simp; omega
                clear hc5
                go_wp2_with fail
                go_meet
                exact ⟨rfl, rfl, rfl⟩
              · have t6 : ((C : Int) == 5) = false := by simp; omega
                clear hc5
                go_wp2_with fail
                go_meet
                exact ⟨rfl, rfl, rfl⟩
          case rest =>
            obtain ⟨rfl, rfl, rfl⟩ := hcut
            have hav : Hid (o.val = .agg #[.int .i64 o.at_, .int .i64 o.size, .int .i64 o.room, .bool o.marked]) := rfl
            clear s1 s2 s3 s4 t1 t2 t3
            go_wp2_with fail
            refine (Find_at HA1.out HG.out (o.at_ : Int)).mono ?_
            rintro e wf1 ⟨hf, hb1⟩
            obtain rfl := find_is HG.out hf HM.out (Int.le_refl _) (by omega)
            have hX := (hb1.block X (Array.getElem?_eq_some_iff.1 HX1.out).1).trans HX1.out
            have HX2 := Lib.hid hX
            have hXl := (Array.getElem?_eq_some_iff.1 hX).1
            have HB2 : Hid (Below w3.heap.size w3 wf1) := HB1.out.trans (hb1.mono HB1.out.size)
            have HA2 : Hid (At wf1 a b cs) := HA3.out.below HB2.out HA3.out.lt_a HA3.out.lt_b
            clear hf hb1 hX x0 x1 x2 x3
            rw [hav.out]
            obtain ⟨Y, hY⟩ : ∃ Y, Y = wf1.heap.size := ⟨_, rfl⟩
            obtain ⟨W2, hW2⟩ : ∃ W2, W2 = wf1.alloc (Obj.cells #[Value.int IntKind.i64 o.at_, Value.int IntKind.i64 o.size, Value.int IntKind.i64 o.room, Value.bool o.marked] 40) := ⟨_, rfl⟩
            have HY1 : Hid (W2.heap[Y]? = some (.cells #[Value.int IntKind.i64 o.at_, Value.int IntKind.i64 o.size, Value.int IntKind.i64 o.room, Value.bool o.marked] 40 (0, 0))) := by rw [hW2, hY]; exact (MapKept.heap_alloc _ _).1
            have HX3 : Hid (W2.heap[X]? = some (.cells #[Value.int IntKind.i64 o.at_, Value.int IntKind.i64 o.size, Value.int IntKind.i64 o.room, Value.bool o.marked] 40 (0, 0))) := by rw [hW2]; exact (Below.heap_alloc _ _ _ hXl).trans HX2.out
            have HB3' : Hid (Below w3.heap.size w3 W2) := by rw [hW2]; exact HB2.out.alloc HB2.out.size _
            have HA3' : Hid (At W2 a b cs) := HA3.out.below HB3'.out HA3.out.lt_a HA3.out.lt_b
            have HYw := Lib.hid hY
            have HW2 := Lib.hid hW2
            clear hY hW2
            have x0 : wf1.cell? ⟨X, 0, none⟩ = some (.int .i64 o.at_) := cell_blk HX2.out 0
            have x1 : wf1.cell? ⟨X, 1, none⟩ = some (.int .i64 o.size) := cell_blk HX2.out 1
            have x2 : wf1.cell? ⟨X, 2, none⟩ = some (.int .i64 o.room) := cell_blk HX2.out 2
            have x3 : wf1.cell? ⟨X, 3, none⟩ = some (.bool o.marked) := cell_blk HX2.out 3
            go_wp2_with fail
            rw [← HYw.out, ← HW2.out]
            refine (Find_at HA3'.out HG.out ((o.at_ : Int) + o.size - 1)).mono ?_
            rintro e wf2 ⟨hf, hb1⟩
            obtain rfl := find_is HG.out hf HM.out (by omega) (by omega)
            have hX := (hb1.block X (Array.getElem?_eq_some_iff.1 HX3.out).1).trans HX3.out
            have hY := (hb1.block Y (Array.getElem?_eq_some_iff.1 HY1.out).1).trans HY1.out
            have HX4 := Lib.hid hX
            have HY4 := Lib.hid hY
            have hXl := (Array.getElem?_eq_some_iff.1 hX).1
            have hYl := (Array.getElem?_eq_some_iff.1 hY).1
            have HB4 : Hid (Below w3.heap.size w3 wf2) := HB3'.out.trans (hb1.mono HB3'.out.size)
            clear hf hb1 hX hY x0 x1 x2 x3
            rw [hav.out]
            go_upto_region 16 with fail
            obtain ⟨Z, hZ⟩ : ∃ Z, Z = wf2.heap.size := ⟨_, rfl⟩
            obtain ⟨W4, hW4⟩ : ∃ W4, W4 = wf2.alloc (Obj.cells #[Value.int IntKind.i64 o.at_, Value.int IntKind.i64 o.size, Value.int IntKind.i64 o.room, Value.bool o.marked] 40) := ⟨_, rfl⟩
            rw [← hW4, ← hZ]
            have HZ5 : Hid (W4.heap[Z]? = some (.cells #[Value.int IntKind.i64 o.at_, Value.int IntKind.i64 o.size, Value.int IntKind.i64 o.room, Value.bool o.marked] 40 (0, 0))) := by rw [hW4, hZ]; exact (MapKept.heap_alloc _ _).1
            have HX5 : Hid (W4.heap[X]? = some (.cells #[Value.int IntKind.i64 o.at_, Value.int IntKind.i64 o.size, Value.int IntKind.i64 o.room, Value.bool o.marked] 40 (0, 0))) := by rw [hW4]; exact (Below.heap_alloc _ _ _ hXl).trans HX4.out
            have HY5 : Hid (W4.heap[Y]? = some (.cells #[Value.int IntKind.i64 o.at_, Value.int IntKind.i64 o.size, Value.int IntKind.i64 o.room, Value.bool o.marked] 40 (0, 0))) := by rw [hW4]; exact (Below.heap_alloc _ _ _ hYl).trans HY4.out
            have HB5 : Hid (Below w3.heap.size w3 W4) := by rw [hW4]; exact HB4.out.alloc HB4.out.size _
            have HA5 : Hid (At W4 a b cs) := HA3.out.below HB5.out HA3.out.lt_a HA3.out.lt_b
            clear hZ hW4 hXl hYl
            have x0 : W4.cell? ⟨X, 0, none⟩ = some (.int .i64 o.at_) := cell_blk HX5.out 0
            have x1 : W4.cell? ⟨X, 1, none⟩ = some (.int .i64 o.size) := cell_blk HX5.out 1
            have x2 : W4.cell? ⟨X, 2, none⟩ = some (.int .i64 o.room) := cell_blk HX5.out 2
            have x3 : W4.cell? ⟨X, 3, none⟩ = some (.bool o.marked) := cell_blk HX5.out 3
            have y0 : W4.cell? ⟨Y, 0, none⟩ = some (.int .i64 o.at_) := cell_blk HY5.out 0
            have y1 : W4.cell? ⟨Y, 1, none⟩ = some (.int .i64 o.size) := cell_blk HY5.out 1
            have y2 : W4.cell? ⟨Y, 2, none⟩ = some (.int .i64 o.room) := cell_blk HY5.out 2
            have y3 : W4.cell? ⟨Y, 3, none⟩ = some (.bool o.marked) := cell_blk HY5.out 3
            have z0 : W4.cell? ⟨Z, 0, none⟩ = some (.int .i64 o.at_) := cell_blk HZ5.out 0
            have z1 : W4.cell? ⟨Z, 1, none⟩ = some (.int .i64 o.size) := cell_blk HZ5.out 1
            have z2 : W4.cell? ⟨Z, 2, none⟩ = some (.int .i64 o.room) := cell_blk HZ5.out 2
            have z3 : W4.cell? ⟨Z, 3, none⟩ = some (.bool o.marked) := cell_blk HZ5.out 3
            by_cases hsr : o.size < (o.room : Int)
            · have t8 : decide (o.size < (o.room : Int)) = true := decide_eq_true hsr
              go_wp2_with fail
              refine (Find_at HA5.out HG.out ((o.at_ : Int) + o.size)).mono ?_
              rintro e wf3 ⟨hf, hb1⟩
              obtain rfl := find_not HG.out hf HM.out (Int.le_refl _) (by omega)
              have hX := (hb1.block X (Array.getElem?_eq_some_iff.1 HX5.out).1).trans HX5.out
              have HX6 := Lib.hid hX
              have hXl := (Array.getElem?_eq_some_iff.1 hX).1
              have HB6 : Hid (Below w3.heap.size w3 wf3) := HB5.out.trans (hb1.mono HB5.out.size)
              clear hf hb1 hX x0 x1 x2 x3 y0 y1 y2 y3 z0 z1 z2 z3
              have HB7 : Hid (Below w3.heap.size w3 (wf3.alloc (.cells #[.int .i64 0, .int .i64 0, .int .i64 0, .bool false] 40))) := HB6.out.alloc HB6.out.size _
              have HX7 : Hid ((wf3.alloc (.cells #[.int .i64 0, .int .i64 0, .int .i64 0, .bool false] 40)).heap[X]? = some (.cells #[Value.int IntKind.i64 o.at_, Value.int IntKind.i64 o.size, Value.int IntKind.i64 o.room, Value.bool o.marked] 40 (0, 0))) := (Below.heap_alloc _ _ _ hXl).trans HX6.out
              go_upto_region 22 with fail
              generalize wf3.alloc (.cells #[.int .i64 0, .int .i64 0, .int .i64 0, .bool false] 40) = W7 at *
              have x0 : W7.cell? ⟨X, 0, none⟩ = some (.int .i64 o.at_) := cell_blk HX7.out 0
              have x2 : W7.cell? ⟨X, 2, none⟩ = some (.int .i64 o.room) := cell_blk HX7.out 2
              go_quiet (fail)
              go_wp2
              go_roundw
              case rel => exact ⟨k + 1, _, _, _, by omega, by go_num, rfl, rfl, rfl, HST.out, below_drewN HB7.out _⟩
              case measure => simp [intOf]; omega
            · have t8 : decide (o.size < (o.room : Int)) = false := decide_eq_false hsr
              go_upto_region 22 with fail
              go_quiet (fail)
              go_wp2
              go_roundw
              case rel => exact ⟨k + 1, _, _, _, by omega, by go_num, rfl, rfl, rfl, HST.out, below_drewN HB5.out _⟩
              case measure => simp [intOf]; omega
        · obtain rfl : k = L := by omega
          go_wp2
          go_ret
          exact ⟨rfl, HB3.out.trans (HBr.out.mono HB3.out.size)⟩
end Go.Proofs.YtdgfnlagbdmniaaDoor.Pl
