/- PoolFirst: the walk. -/
import Derived.Test.YtdgfnlagbdmniaaDoorQd
import Derived.Test.YtdgfnlagbdmniaaDoorQe
import Derived.Deep.Cut
namespace Go.Proofs.YtdgfnlagbdmniaaDoor.Pl
open Go.RowKit

set_option maxRecDepth 100000 in
set_option maxHeartbeats 1000000 in
theorem first_long (x y : Int) (p : Option Addr) (n cap : Nat) (hlong : 200 < n) (w : World) (hT : Tab w) :
    Calls Tryd.prog 5 #[.slice p n cap, .int .u16 x, .int .u16 y] w fun e w' => e = .returned (.bool true) ∧ Below w.heap.size w w' := by
  have HT := Lib.hid hT; clear hT
  have e1 : decide ((200 : Int) < n) = true := decide_eq_true (by omega)
  go_enter Tryd.func5, Tryd.ntmps5
  go_wp2_with fail
  refine (awake_at _ HT.out).mono ?_
  rintro e w1 ⟨rfl, hb1⟩
  have HB1 := Lib.hid hb1; clear hb1
  have HT1 := Lib.hid (HT.out.below HB1.out HT.out.lt)
  go_wp2_with fail
  refine (awake_at _ HT1.out).mono ?_
  rintro e w2 ⟨rfl, hb2⟩
  have HB2 := Lib.hid (HB1.out.trans (hb2.mono HB1.out.size)); clear hb2
  go_wp2_with fail
  go_ret
  exact ⟨rfl, HB2.out⟩

/-- What PoolFirst knows of the pool between its parts. -/
def Mid (w : World) (a b : Nat) (wx : World) : Prop := ∃ cs, At wx a b cs ∧ Good cs ∧ cs.length = 12 ∧ Tab wx ∧ Below w.heap.size w wx

set_option maxRecDepth 100000 in
set_option maxHeartbeats 2000000 in
theorem first_walk (x y : Int) (hx0 : 0 ≤ x) (hx1 : x ≤ 65535) (hy0 : 0 ≤ y) (hy1 : y ≤ 65535) (v : Value) (xs : List Int) (w : World) (hT : Tab w) (hN : Nums w v xs) (hx : ∀ x ∈ xs, 0 ≤ x ∧ x ≤ 65535) (hl : xs.length ≤ 200) :
    Calls Tryd.prog 5 #[v, .int .u16 x, .int .u16 y] w fun e w' => e = .returned (.bool true) ∧ Below w.heap.size w w' := by
  obtain ⟨p, cap, rfl, hp⟩ := hN
  have HNU : Hid (∀ w' : World, Below w.heap.size w w' → Nums w' (.slice p xs.length cap) xs) := by
    intro w' hb
    refine ⟨p, cap, rfl, ?_⟩
    rcases hp with h | ⟨g, off, h1, h2, h3⟩
    · exact .inl h
    · exact .inr ⟨g, off, h1, Nat.lt_of_lt_of_le h2 hb.size, fun k y hy => (hb.cell (p := ⟨g, off + k, none⟩) h2).trans (h3 k y hy)⟩
  clear hp
  have HT := Lib.hid hT; clear hT
  have HX := Lib.hid hx; clear hx
  have HL := Lib.hid hl
  generalize hn : xs.length = n at *
  have HN := Lib.hid hn; clear hn
  have e1 : decide ((200 : Int) < n) = false := decide_eq_false (by omega)
  have HPL : Hid (∀ w' : World, Tab w' → Below w.heap.size w w' → Calls Tryd.prog 14 #[.int .i64 12, .slice p n cap] w' (PlayedPost 12 w')) := by
    intro w' hT hb
    exact played_at 12 (by decide) (by decide) _ xs w' hT (HNU.out w' hb) HX.out (by rw [HN.out]; exact HL.out)
  go_enter Tryd.func5, Tryd.ntmps5
  go_wp2_with fail
  refine (awake_at _ HT.out).mono ?_
  rintro e w1 ⟨rfl, hb1⟩
  have HB1 := Lib.hid hb1; clear hb1
  have HT1 := Lib.hid (HT.out.below HB1.out HT.out.lt)
  go_wp2_with fail
  refine (HPL.out _ HT1.out HB1.out).mono ?_
  rintro e w2 ⟨a, b, cs, rfl, ha, hb, hA, hG, hLn, hC, hB⟩
  have HA2 := Lib.hid hA; clear hA
  have HG := Lib.hid hG; clear hG
  have HLN := Lib.hid hLn; clear hLn
  have HB2 : Hid (Below w.heap.size w w2) := HB1.out.trans (hB.mono HB1.out.size)
  have HBL : Hid (w.heap.size ≤ b) := Nat.le_trans HB1.out.size hb
  have HBP : Hid (0 < b) := Nat.lt_of_lt_of_le HT.out.lt HBL.out
  have HSM := Lib.hid (HG.out.small (by rw [HLN.out]; omega))
  have hlen := HSM.out.1
  clear hB hC ha hb HB1 HT1
  go_wp2_with fail
  refine (objects_at HA2.out HG.out.rd (by simpa [objs] using hlen)).mono ?_
  rintro e w3 ⟨v, rfl, hown, hb3⟩
  have HA3 := Lib.hid (HA2.out.below hb3 HA2.out.lt_a HA2.out.lt_b)
  have HB3 : Hid (Below w.heap.size w w3) := HB2.out.trans (hb3.mono HB2.out.size)
  have HT3 := Lib.hid (HT.out.below HB3.out HT.out.lt)
  obtain ⟨q, cap2, rfl, hq⟩ := objS_of hown
  have HQ := Lib.hid hq
  clear hb3 HB2 HA2 hown hq
  obtain ⟨L, hL⟩ : ∃ L, L = (objs cs).length := ⟨_, rfl⟩
  rw [← hL] at hlen ⊢
  have HLL := Lib.hid hL; clear hL
  go_upto_if 37 with fail
  go_cut [] from 10 (fun wx => Mid w a b wx)
  case first =>
    have HMID : Hid (Mid w a b w3) := ⟨cs, HA3.out, HG.out, HLN.out, HT3.out, HB3.out⟩
    by_cases h0 : L = 0
    · clear HLL
      subst h0
      go_wp2_with fail
      go_meet
      exact HMID.out
    · have hpos : 0 < L := by omega
      have hqs : ∃ g, q = some ⟨g, 0, none⟩ ∧ g < w3.heap.size ∧ ∀ k o, (objs cs)[k]? = some o → w3.cell? ⟨g, k * 4, none⟩ = some (.int .i64 o.at_) ∧ w3.cell? ⟨g, k * 4 + 1, none⟩ = some (.int .i64 o.size) ∧ w3.cell? ⟨g, k * 4 + 2, none⟩ = some (.int .i64 o.room) ∧ w3.cell? ⟨g, k * 4 + 3, none⟩ = some (.bool o.marked) := by
        rcases HQ.out with h | h
        · rw [HLL.out, h] at h0; exact absurd rfl h0
        · exact h
      obtain ⟨g, rfl, hgl, hcells⟩ := hqs
      have HCE := Lib.hid hcells; clear hcells h0
      obtain ⟨d, hd⟩ : ∃ d : Nat, (d : Int) = x % (L : Int) := ⟨(x % (L : Int)).toNat, Int.toNat_of_nonneg (Int.emod_nonneg _ (by omega))⟩
      have hdl : d < L := by have := Int.emod_lt_of_pos x (show (0 : Int) < L by omega); omega
      obtain ⟨o, ho⟩ : ∃ o, (objs cs)[d]? = some o := ⟨(objs cs)[d]'(by rw [← HLL.out]; exact hdl), by simp⟩
      obtain ⟨c0, c1, c2, c3⟩ := HCE.out d o ho
      have hd2 : x % (L : Int) = (d : Int) := hd.symm
      have HO := Lib.hid ho
      have hom := List.mem_of_getElem? ho
      clear hd ho
      go_upto_region 9 with fail
      obtain ⟨X, hX⟩ : ∃ X, X = w3.heap.size := ⟨_, rfl⟩
      obtain ⟨W4, hW4⟩ : ∃ W4, W4 = w3.alloc (Obj.cells #[Value.int IntKind.i64 o.at_, Value.int IntKind.i64 o.size, Value.int IntKind.i64 o.room, Value.bool o.marked] 40) := ⟨_, rfl⟩
      rw [← hW4, ← hX]
      have HX4 : Hid (W4.heap[X]? = some (.cells #[Value.int IntKind.i64 o.at_, Value.int IntKind.i64 o.size, Value.int IntKind.i64 o.room, Value.bool o.marked] 40 (0, 0))) := by rw [hW4, hX]; exact (MapKept.heap_alloc _ _).1
      have HB4 : Hid (Below w.heap.size w W4) := by rw [hW4]; exact HB3.out.alloc HB3.out.size _
      have HA4 : Hid (At W4 a b cs) := by rw [hW4]; exact HA3.out.alloc _
      have hbX : b ≠ X := by have := HA3.out.lt_b; omega
      have HT4 := Lib.hid (HT.out.below HB4.out HT.out.lt)
      clear hW4 hX c0 c1 c2 c3 hd2
      have x0 : W4.cell? ⟨X, 0, none⟩ = some (.int .i64 o.at_) := cell_blk HX4.out 0
      have x1 : W4.cell? ⟨X, 1, none⟩ = some (.int .i64 o.size) := cell_blk HX4.out 1
      go_wp2_with fail
      refine (Free_at HA4.out HG.out (o.at_ : Int)).mono ?_
      rintro e W5 (⟨i, s, c, hpl, hat, rfl, hA5, hg5⟩ | ⟨hno, _⟩)
      rotate_left
      · exact absurd rfl (hno o hom)
      have hoo : objOf c i s = o := by
        have k1 := (obj_in HG.out hom).1
        have hm2 := (pl_ok HG.out hpl).2.2.2
        have k2 := (obj_in HG.out hm2).1
        exact (obj_uniq HG.out hom hm2 (ad := o.at_) (Int.le_refl _) (by have := k1.fit; have := k1.pos; omega) (by omega) (by have := k2.fit; have := k2.pos; omega)).symm
      obtain ⟨hG5, hL5, hput⟩ := remove_put HG.out hpl
      obtain ⟨cs6, x6, hal, hdis⟩ := again HG.out hpl
      rw [hoo] at hal hdis
      have ok := (obj_in HG.out hom).1
      have hor := (obj_in HG.out hom).2
      rw [HLN.out] at hor
      have ho1 := ok.pos
      have ho2 := ok.le
      have hfit := ok.fit
      obtain ⟨g6, l6, p6⟩ := allocC_put hG5 ho1 ho2 hal
      generalize removeC cs i s c = cs5 at *
      rw [HLN.out] at hL5
      have HA5 := Lib.hid hA5
      have HG5 := Lib.hid hG5
      have HL5 := Lib.hid hL5
      have HAL := Lib.hid hal
      have HG6 := Lib.hid g6
      have HL6 := Lib.hid (l6.trans hL5)
      have HDIS := Lib.hid hdis
      have HB5 : Hid (Below w.heap.size w W5) := HB4.out.trans (fr_below hg5 HBL.out HB4.out.size)
      have HX5 : Hid (W5.heap[X]? = some (.cells #[Value.int IntKind.i64 o.at_, Value.int IntKind.i64 o.size, Value.int IntKind.i64 o.room, Value.bool o.marked] 40 (0, 0))) := (hg5.block X (Array.getElem?_eq_some_iff.1 HX4.out).1 (by simpa using fun h => hbX h.symm)).trans HX4.out
      have HSM5 := Lib.hid (HG5.out.small (by rw [HL5.out]; omega))
      have hlen5 := HSM5.out.1
      have HLA5 : Hid (∀ y ∈ objs cs5, y.at_ ≤ 1000000) := fun y hy => by
        have := (obj_in HG5.out hy).2
        rw [HL5.out] at this
        omega
      clear hA5 hG5 hL5 hal g6 l6 p6 hdis hg5 hoo hpl hat hput ok hom x0 x1
      go_wp2_with fail
      refine (objects_at HA5.out HG5.out.rd (by simpa [objs] using hlen5)).mono ?_
      rintro e W6 ⟨v6, rfl, hown, hb6⟩
      have HS6 := Lib.hid (objS_of hown)
      have HA6 := Lib.hid (HA5.out.below hb6 HA5.out.lt_a HA5.out.lt_b)
      have HX6 : Hid (W6.heap[X]? = some (.cells #[Value.int IntKind.i64 o.at_, Value.int IntKind.i64 o.size, Value.int IntKind.i64 o.room, Value.bool o.marked] 40 (0, 0))) := (hb6.block X (Array.getElem?_eq_some_iff.1 HX5.out).1).trans HX5.out
      have HB6 : Hid (Below w.heap.size w W6) := HB5.out.trans (hb6.mono HB5.out.size)
      clear hown hb6
      go_wp2_with fail
      refine (contains_at hlen5 HLA5.out (x := o) (by omega) HS6.out (cell_blk HX6.out 0)).mono ?_
      rintro e W7 ⟨rfl, hb7⟩
      have HA7 := Lib.hid (HA6.out.below hb7 HA6.out.lt_a HA6.out.lt_b)
      have HX7 : Hid (W7.heap[X]? = some (.cells #[Value.int IntKind.i64 o.at_, Value.int IntKind.i64 o.size, Value.int IntKind.i64 o.room, Value.bool o.marked] 40 (0, 0))) := (hb7.block X (Array.getElem?_eq_some_iff.1 HX6.out).1).trans HX6.out
      have HB7 : Hid (Below w.heap.size w W7) := HB6.out.trans (hb7.mono HB6.out.size)
      have HT7 := Lib.hid (HT.out.below HB7.out HT.out.lt)
      clear hb7
      have x0 : W7.cell? ⟨X, 0, none⟩ = some (.int .i64 o.at_) := cell_blk HX7.out 0
      have x1 : W7.cell? ⟨X, 1, none⟩ = some (.int .i64 o.size) := cell_blk HX7.out 1
      have HNB : Hid ((objs cs5).any (fun y => y.at_ / 1024 == o.at_ / 1024) = nearB cs5 o) := rfl
      rw [HNB.out]
      clear HNB
      generalize nearB cs5 o = NB at *
      go_wp2_with fail
      refine (alloc_at HA7.out HG5.out.wf HT7.out HBP.out o.size).mono ?_
      rintro e W8 hP
      have hP' := alloc_fn ho1 ho2 hP
      rw [HAL.out] at hP'
      obtain ⟨rfl, hA8, hg8⟩ := hP'
      have HA8 := Lib.hid hA8
      have HB8 : Hid (Below w.heap.size w W8) := HB7.out.trans (fr_below hg8 HBL.out HB7.out.size)
      have HX8 : Hid (W8.heap[X]? = some (.cells #[Value.int IntKind.i64 o.at_, Value.int IntKind.i64 o.size, Value.int IntKind.i64 o.room, Value.bool o.marked] 40 (0, 0))) := (hg8.block X (Array.getElem?_eq_some_iff.1 HX7.out).1 (by simpa using fun h => hbX h.symm)).trans HX7.out
      have HMID8 : Hid (Mid w a b W8) := ⟨cs6, HA8.out, HG6.out, HL6.out, HT.out.below HB8.out HT.out.lt, HB8.out⟩
      clear hA8 hg8 hP x0 x1
      have x0 : W8.cell? ⟨X, 0, none⟩ = some (.int .i64 o.at_) := cell_blk HX8.out 0
      have x1 : W8.cell? ⟨X, 1, none⟩ = some (.int .i64 o.size) := cell_blk HX8.out 1
      by_cases hle : (o.at_ : Int) < (x6 : Int)
      · have t1 : decide ((o.at_ : Int) < (x6 : Int)) = true := decide_eq_true hle
        have hnb : NB = false ∧ o.size ≤ 512 := by
          rcases HDIS.out with h | h
          · omega
          · exact h
        obtain ⟨rfl, hz⟩ := hnb
        have t2 : decide (512 < o.size) = false := decide_eq_false (by omega)
        go_wp2_with fail
        go_meet
        exact HMID8.out
      · have t1 : decide ((o.at_ : Int) < (x6 : Int)) = false := decide_eq_false hle
        go_wp2_with fail
        go_meet
        exact HMID8.out
  case rest =>
    obtain ⟨cs9, hA, hG, hL9, hT9, hB9⟩ := hcut
    clear HA3 HG HLN HB3 HSM HT3 HQ HLL hlen
    have HA := Lib.hid hA
    have HG := Lib.hid hG
    have HLN := Lib.hid hL9
    have HT9 := Lib.hid hT9
    have HB9 := Lib.hid hB9
    have HSM := Lib.hid (HG.out.small (by rw [HLN.out]; omega))
    have hlen := HSM.out.1
    clear hA hG hL9 hT9 hB9
    go_wp2_with fail
    refine (objects_at HA.out HG.out.rd (by simpa [objs] using hlen)).mono ?_
    rintro e W1 ⟨v1, rfl, hown, hb1⟩
    have HS1 := Lib.hid (objS_of hown)
    have HA1 := Lib.hid (HA.out.below hb1 HA.out.lt_a HA.out.lt_b)
    have HB1 : Hid (Below w.heap.size w W1) := HB9.out.trans (hb1.mono HB9.out.size)
    clear hown hb1
    go_wp2_with fail
    refine (map_walk HA1.out HG.out.what).mono ?_
    rintro e W2 ⟨rfl, hb2⟩
    have HS2 := Lib.hid (HS1.out.below hb2)
    have HA2 := Lib.hid (HA1.out.below hb2 HA1.out.lt_a HA1.out.lt_b)
    have HB2' : Hid (Below w.heap.size w W2) := HB1.out.trans (hb2.mono HB1.out.size)
    have HT2 := Lib.hid (HT.out.below HB2'.out HT.out.lt)
    clear hb2
    go_wp2_with fail
    refine (alloc_at HA2.out HG.out.wf HT2.out HBP.out (y % 20000 + 1)).mono ?_
    rintro e W3 hP
    have hP' := alloc_fn (by omega) (by omega) hP
    obtain ⟨p1, c1, rfl, hs1⟩ := HS2.out
    have HSS := Lib.hid hs1; clear hs1
    cases hal : allocC cs9 (y % 20000 + 1) with
    | some r =>
      obtain ⟨cs3, x3⟩ := r
      rw [hal] at hP'
      obtain ⟨rfl, hA3, hg3⟩ := hP'
      obtain ⟨g3, l3, p3⟩ := allocC_put HG.out (by omega) (by omega) hal
      have HA3 := Lib.hid hA3
      have HG3 := Lib.hid g3
      have HL3 := Lib.hid (l3.trans HLN.out)
      have HPL3 := Lib.hid p3.length
      have HB3 : Hid (Below w.heap.size w W3) := HB2'.out.trans (fr_below hg3 HBL.out HB2'.out.size)
      have HSM3 := Lib.hid (HG3.out.small (by rw [HL3.out]; omega))
      have hlen3 := HSM3.out.1
      clear hP hA3 hg3 g3 l3 p3 hal
      go_wp2_with fail
      refine (objects_at HA3.out HG3.out.rd (by simpa [objs] using hlen3)).mono ?_
      rintro e W4 ⟨v4, rfl, hown, hb4⟩
      have HB4 : Hid (Below w.heap.size w W4) := HB3.out.trans (hb4.mono HB3.out.size)
      obtain ⟨q4, c4, rfl, _⟩ := objS_of hown
      rw [HPL3.out]
      clear hown hb4
      generalize (objs cs9).length = LL at *
      go_wp2_with fail
      go_ret
      exact ⟨rfl, HB4.out⟩
    | none =>
      rw [hal] at hP'
      obtain ⟨rfl, r, hr⟩ := hP'
      have HA3 : Hid (At W3 a b cs9) := by rw [hr]; exact HA2.out.drewN r
      have HB3 : Hid (Below w.heap.size w W3) := by rw [hr]; exact below_drewN HB2'.out r
      have HS3 : Hid (ObjS W3 (.slice p1 (objs cs9).length c1) (objs cs9)) := ObjS.below ⟨p1, c1, rfl, HSS.out⟩ (by rw [hr]; exact below_drewN (Below.refl _ _) r)
      clear hP hr hal
      go_wp2_with fail
      refine (objects_at HA3.out HG.out.rd (by simpa [objs] using hlen)).mono ?_
      rintro e W4 ⟨v4, rfl, hown, hb4⟩
      have HA4 := Lib.hid (HA3.out.below hb4 HA3.out.lt_a HA3.out.lt_b)
      have HB4 : Hid (Below w.heap.size w W4) := HB3.out.trans (hb4.mono HB3.out.size)
      have HS4 := Lib.hid (HS3.out.below hb4)
      have HSN := Lib.hid (objS_of hown)
      clear hown hb4
      go_wp2_with fail
      refine (equal_at hlen HSN.out HS4.out).mono ?_
      rintro e W5 ⟨rfl, hb5⟩
      have HA5 := Lib.hid (HA4.out.below hb5 HA4.out.lt_a HA4.out.lt_b)
      have HB5 : Hid (Below w.heap.size w W5) := HB4.out.trans (hb5.mono HB4.out.size)
      clear hb5
      go_wp2_with fail
      refine (map_walk HA5.out HG.out.what).mono ?_
      rintro e W6 ⟨rfl, hb6⟩
      have HB6 : Hid (Below w.heap.size w W6) := HB5.out.trans (hb6.mono HB5.out.size)
      clear hb6
      generalize mapStr cs9 = S at *
      go_wp2_with fail
      go_ret
      exact ⟨rfl, HB6.out⟩
end Go.Proofs.YtdgfnlagbdmniaaDoor.Pl
