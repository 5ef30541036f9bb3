/- Parts Sf, Sh, Si, Sj of the proof. -/
import Derived.Test.YtgbafpjeapkklaaG12
namespace Go.Proofs.Ytgbafpjeapkklaa.Mb
open Go.RowKit
set_option linter.unusedVariables false
set_option linter.unusedSimpArgs false
structure R2 (w : World) (ns ps : Value) (m d : Int) (b : Bool) (W : World) : Prop where
 below : Below w.heap.size w W
 box : W.heap[w.heap.size]? = some (.cells #[ns, .int .i64 m, .int .i64 d, ps, .bool b] 46 (0, 0))
 out : W.heap[w.heap.size + 1]? = some (.cells #[.slice none 0 0, .int .i64 0, .int .i64 0, .slice none 0 0, .bool false] 46 (0, 0))
section
variable {w : World} {ns ps : Value} {m d : Int} {b : Bool} {W W' : World}
theorem R2.step (h : R2 w ns ps m d b W) (hb : Below W.heap.size W W') : R2 w ns ps m d b W' :=
 ⟨h.below.trans (hb.mono h.below.size), (hb.block _ (blk_lt h.box)).trans h.box, (hb.block _ (blk_lt h.out)).trans h.out⟩
theorem R2.mk' (w : World) (ns ps : Value) (m d : Int) (b : Bool) : R2 w ns ps m d b ((w.alloc (Obj.cells #[ns, .int .i64 m, .int .i64 d, ps, .bool b] 46)).alloc (Obj.cells #[.slice none 0 0, .int .i64 0, .int .i64 0, .slice none 0 0, .bool false] 46)) := by
 have h1 : Below w.heap.size w (w.alloc (Obj.cells #[ns, .int .i64 m, .int .i64 d, ps, .bool b] 46)) := (Below.refl _ _).alloc (Nat.le_refl _) _
 have h2 := (Below.refl (w.alloc (Obj.cells #[ns, .int .i64 m, .int .i64 d, ps, .bool b] 46)).heap.size (w.alloc (Obj.cells #[ns, .int .i64 m, .int .i64 d, ps, .bool b] 46))).alloc (Nat.le_refl _) (Obj.cells #[.slice none 0 0, .int .i64 0, .int .i64 0, .slice none 0 0, .bool false] 46)
 have h3 := (MapKept.heap_alloc w (Obj.cells #[ns, .int .i64 m, .int .i64 d, ps, .bool b] 46)).1
 refine ⟨h1.trans (h2.mono h1.size), (h2.block _ (blk_lt h3)).trans h3, ?_⟩
 have h4 := (MapKept.heap_alloc (w.alloc (Obj.cells #[ns, .int .i64 m, .int .i64 d, ps, .bool b] 46)) (Obj.cells #[.slice none 0 0, .int .i64 0, .int .i64 0, .slice none 0 0, .bool false] 46)).1
 simpa using h4
theorem R2.facts (h : R2 w ns ps m d b W) :
  W.cell? ⟨w.heap.size, 0, none⟩ = some ns ∧ W.cell? ⟨w.heap.size, 1, none⟩ = some (.int .i64 m) ∧ W.cell? ⟨w.heap.size, 2, none⟩ = some (.int .i64 d) ∧ W.cell? ⟨w.heap.size, 3, none⟩ = some ps ∧ W.cell? ⟨w.heap.size, 4, none⟩ = some (.bool b) :=
 ⟨cB h.box 0, cB h.box 1, cB h.box 2, cB h.box 3, cB h.box 4⟩
theorem R2.zero (h : R2 w ns ps m d b W) :
  W.cell? ⟨w.heap.size + 1, 0, none⟩ = some (.slice none 0 0) ∧ W.cell? ⟨w.heap.size + 1, 1, none⟩ = some (.int .i64 0) ∧ W.cell? ⟨w.heap.size + 1, 2, none⟩ = some (.int .i64 0) ∧ W.cell? ⟨w.heap.size + 1, 3, none⟩ = some (.slice none 0 0) ∧ W.cell? ⟨w.heap.size + 1, 4, none⟩ = some (.bool false) :=
 ⟨cB h.out 0, cB h.out 1, cB h.out 2, cB h.out 3, cB h.out 4⟩
theorem R2.frz (h : R2 w ns ps m d b W) (o : Nat) : W.frozen? ⟨w.heap.size, o, none⟩ = false ∧ W.frozen? ⟨w.heap.size + 1, o, none⟩ = false := ⟨frozen_blk h.box o, frozen_blk h.out o⟩
theorem R2.set4 (h : R2 w ns ps m d b W) (c : Bool) : R2 w ns ps m d c (W.setCell ⟨w.heap.size, 4, none⟩ (.bool c)) :=
 ⟨h.below.setCell (p := ⟨w.heap.size, 4, none⟩) (Nat.le_refl _) _, blk_set h.box 4 _, blk_set_ne h.out ⟨w.heap.size, 4, none⟩ (by show w.heap.size + 1 ≠ w.heap.size; omega) _⟩
theorem R2.set2 (h : R2 w ns ps m d b W) (c : Int) : R2 w ns ps m c b (W.setCell ⟨w.heap.size, 2, none⟩ (.int .i64 c)) :=
 ⟨h.below.setCell (p := ⟨w.heap.size, 2, none⟩) (Nat.le_refl _) _, blk_set h.box 2 _, blk_set_ne h.out ⟨w.heap.size, 2, none⟩ (by show w.heap.size + 1 ≠ w.heap.size; omega) _⟩
theorem R2.fin (h : R2 w ns ps m d b W) {v0 v1 v2 v3 v4 : Value}
  (hW : W' = (((((W.setCell ⟨w.heap.size + 1, 0, none⟩ v0).setCell ⟨w.heap.size + 1, 1, none⟩ v1).setCell ⟨w.heap.size + 1, 2, none⟩ v2).setCell ⟨w.heap.size + 1, 3, none⟩ v3).setCell ⟨w.heap.size + 1, 4, none⟩ v4)) :
  Below w.heap.size w W' ∧ W'.cell? ⟨w.heap.size + 1, 0, none⟩ = some v0 ∧ W'.cell? ⟨w.heap.size + 1, 1, none⟩ = some v1 ∧ W'.cell? ⟨w.heap.size + 1, 2, none⟩ = some v2 ∧ W'.cell? ⟨w.heap.size + 1, 3, none⟩ = some v3 ∧ W'.cell? ⟨w.heap.size + 1, 4, none⟩ = some v4 := by
 subst hW
 obtain ⟨f1, f2, _⟩ := five h.out v0 v1 v2 v3 v4
 exact ⟨f2 _ _ (Nat.le_succ _) h.below, cB f1 0, cB f1 1, cB f1 2, cB f1 3, cB f1 4⟩
end
end Go.Proofs.Ytgbafpjeapkklaa.Mb
namespace Go.Proofs.Ytgbafpjeapkklaa.Mb
open Go.RowKit
set_option linter.unusedVariables false
set_option linter.unusedSimpArgs false
theorem R2.put {w : World} {ns ps : Value} {m d : Int} {b : Bool} {W W' : World} (h : R2 w ns ps m d b W) {d' : Int}
  (hW : W' = (((((W.setCell ⟨w.heap.size, 0, none⟩ ns).setCell ⟨w.heap.size, 1, none⟩ (.int .i64 m)).setCell ⟨w.heap.size, 2, none⟩ (.int .i64 d')).setCell ⟨w.heap.size, 3, none⟩ ps).setCell ⟨w.heap.size, 4, none⟩ (.bool b))) : R2 w ns ps m d' b W' := by
 subst hW
 obtain ⟨f1, f2, _⟩ := five h.box ns (.int .i64 m) (.int .i64 d') ps (.bool b)
 refine ⟨f2 _ _ (Nat.le_refl _) h.below, f1, ?_⟩
 have hne : ∀ o, w.heap.size + 1 ≠ (⟨w.heap.size, o, none⟩ : Addr).block := fun o => by show w.heap.size + 1 ≠ w.heap.size; omega
 exact blk_set_ne (blk_set_ne (blk_set_ne (blk_set_ne (blk_set_ne h.out _ (hne 0) _) _ (hne 1) _) _ (hne 2) _) _ (hne 3) _) _ (hne 4) _
theorem R2.grown {w : World} {ns ps : Value} {m d : Int} {b : Bool} {W W' : World} (h : R2 w ns ps m d b W) {v : Value} {n : Nat} {xs : List Value}
  (hv : W.ownsRow w.heap.size 3 1 v n xs) (hg : W.grownBy W' v.ownBlock) : R2 w ns ps m d b W' := by
 have hne : ∀ (k : Nat) (C : Array Value) (t : TypeId) (f : Nat × Nat), W.heap[k]? = some (.cells C t f) → t ≠ 3 → some k ≠ v.ownBlock := by
  intro k C t f hk ht e
  rcases hv.2 with ⟨rfl, _⟩ | ⟨g', cap, cur, rfl, _, hgg, _⟩
  ·simp [Value.ownBlock] at e
  ·simp [Value.ownBlock] at e
   subst e
   rw [hk] at hgg
   injection hgg with hgg
   injection hgg with _ h2 _
   exact ht h2
 have hk : ∀ (k : Nat) (C : Array Value) (t : TypeId) (f : Nat × Nat), W.heap[k]? = some (.cells C t f) → t ≠ 3 → W'.heap[k]? = some (.cells C t f) := fun k C t f h1 h2 => (hg.block k (blk_lt h1) (hne k C t f h1 h2)).trans h1
 exact ⟨h.below.grown hg h.below.size (fun k hk => by have := hv.lt k hk; omega), hk _ _ _ _ h.box (by decide), hk _ _ _ _ h.out (by decide)⟩
end Go.Proofs.Ytgbafpjeapkklaa.Mb
namespace Go.Proofs.Ytgbafpjeapkklaa.Mb
open Go.RowKit
set_option linter.unusedVariables false
set_option linter.unusedSimpArgs false
def Shape (v : Value) : Prop := ∃ p n c m d p' n' c' b, v = .agg #[.slice p n c, .int .i64 m, .int .i64 d, .slice p' n' c', .bool b]
theorem StZ.shape {w : World} {v : Value} (h : StZ w v) : Shape v := by
 obtain ⟨ns, ps, rfl, hn, hp⟩ := h
 obtain ⟨p, c, rfl⟩ := hn.slice
 obtain ⟨p', c', rfl⟩ := hp.slice
 exact ⟨_, _, _, _, _, _, _, _, _, rfl⟩
theorem zv_shape : Shape zv := ⟨_, _, _, _, _, _, _, _, _, rfl⟩
def B5 (W : World) (k : Nat) (t : TypeId) (v0 v1 v2 v3 v4 : Value) : Prop := W.heap[k]? = some (.cells #[v0, v1, v2, v3, v4] t (0, 0))
theorem B5.cells {W : World} {k : Nat} {t : TypeId} {v0 v1 v2 v3 v4 : Value} (h : B5 W k t v0 v1 v2 v3 v4) :
  W.cell? ⟨k, 0, none⟩ = some v0 ∧ W.cell? ⟨k, 1, none⟩ = some v1 ∧ W.cell? ⟨k, 2, none⟩ = some v2 ∧ W.cell? ⟨k, 3, none⟩ = some v3 ∧ W.cell? ⟨k, 4, none⟩ = some v4 :=
 ⟨cB h 0, cB h 1, cB h 2, cB h 3, cB h 4⟩
theorem B5.frz {W : World} {k : Nat} {t : TypeId} {v0 v1 v2 v3 v4 : Value} (h : B5 W k t v0 v1 v2 v3 v4) :
  W.frozen? ⟨k, 0, none⟩ = false ∧ W.frozen? ⟨k, 1, none⟩ = false ∧ W.frozen? ⟨k, 2, none⟩ = false ∧ W.frozen? ⟨k, 3, none⟩ = false ∧ W.frozen? ⟨k, 4, none⟩ = false :=
 ⟨frozen_blk h 0, frozen_blk h 1, frozen_blk h 2, frozen_blk h 3, frozen_blk h 4⟩
theorem B5.step {W W' : World} {k : Nat} {t : TypeId} {v0 v1 v2 v3 v4 : Value} (h : B5 W k t v0 v1 v2 v3 v4) (hb : Below W.heap.size W W') : B5 W' k t v0 v1 v2 v3 v4 := (hb.block _ (blk_lt h)).trans h
theorem B5.put {W W' : World} {k : Nat} {t : TypeId} {v0 v1 v2 v3 v4 u0 u1 u2 u3 u4 : Value} (h : B5 W k t v0 v1 v2 v3 v4)
  (hW : W' = (((((W.setCell ⟨k, 0, none⟩ u0).setCell ⟨k, 1, none⟩ u1).setCell ⟨k, 2, none⟩ u2).setCell ⟨k, 3, none⟩ u3).setCell ⟨k, 4, none⟩ u4)) :
  B5 W' k t u0 u1 u2 u3 u4 ∧ (∀ B w0, B ≤ k → Below B w0 W → Below B w0 W') ∧ (∀ j t v0 v1 v2 v3 v4, j ≠ k → B5 W j t v0 v1 v2 v3 v4 → B5 W' j t v0 v1 v2 v3 v4) := by
 subst hW
 obtain ⟨f1, f2, _⟩ := five h u0 u1 u2 u3 u4
 refine ⟨f1, fun B w0 h1 h2 => f2 B w0 h1 h2, fun j t v0 v1 v2 v3 v4 hj hB => ?_⟩
 exact blk_set_ne (blk_set_ne (blk_set_ne (blk_set_ne (blk_set_ne hB ⟨k, 0, none⟩ hj _) ⟨k, 1, none⟩ hj _) ⟨k, 2, none⟩ hj _) ⟨k, 3, none⟩ hj _) ⟨k, 4, none⟩ hj _
theorem B5.made {W : World} (v0 v1 v2 v3 v4 : Value) (t : TypeId) : B5 (W.alloc (Obj.cells #[v0, v1, v2, v3, v4] t)) W.heap.size t v0 v1 v2 v3 v4 := (MapKept.heap_alloc _ _).1
set_option maxRecDepth 100000 in
set_option maxHeartbeats 8000000 in
theorem keep_yes {a b x y : Value} {w : World} (ha : Shape a) (hb : Shape b) (hx : Shape x) (hy : Shape y) (hal : ∀ W, Below w.heap.size w W → Calls Try.prog 16 #[x, y] W fun e w' => e = .returned (.bool true) ∧ Below W.heap.size W w') :
  Calls Try.prog 47 #[a, b, x, y, .int .i64 0, .bool true] w fun e w' => e = .returned (.tuple #[x, y, .bool true]) ∧ Below w.heap.size w w' := by
 obtain ⟨ap, an, ac, am, ad, ap2, an2, ac2, ab, rfl⟩ := ha
 obtain ⟨bp, bn, bc, bm, bd, bp2, bn2, bc2, bb, rfl⟩ := hb
 obtain ⟨xp, xn, xc, xm, xd, xp2, xn2, xc2, xb, rfl⟩ := hx
 obtain ⟨yp, yn, yc, ym, yd, yp2, yn2, yc2, yb, rfl⟩ := hy
 have HAL := Lib.hid hal
 clear hal
 obtain ⟨G, hG⟩ : ∃ G, G = w.heap.size := ⟨_, rfl⟩
 obtain ⟨W0, hW0⟩ : ∃ W0, W0 = ((((((w.alloc (Obj.cells #[.slice ap an ac, .int .i64 am, .int .i64 ad, .slice ap2 an2 ac2, .bool ab] 28)).alloc (Obj.cells #[.slice bp bn bc, .int .i64 bm, .int .i64 bd, .slice bp2 bn2 bc2, .bool bb] 46)).alloc (Obj.cells #[.slice xp xn xc, .int .i64 xm, .int .i64 xd, .slice xp2 xn2 xc2, .bool xb] 28)).alloc (Obj.cells #[.slice yp yn yc, .int .i64 ym, .int .i64 yd, .slice yp2 yn2 yc2, .bool yb] 46)).alloc (Obj.cells #[.slice none 0 0, .int .i64 0, .int .i64 0, .slice none 0 0, .bool false] 28)).alloc (Obj.cells #[.slice none 0 0, .int .i64 0, .int .i64 0, .slice none 0 0, .bool false] 46)) := ⟨_, rfl⟩
 have HB : Hid (Below w.heap.size w W0 ∧ B5 W0 (w.heap.size) 28 (.slice ap an ac) (.int .i64 am) (.int .i64 ad) (.slice ap2 an2 ac2) (.bool ab) ∧ B5 W0 (w.heap.size + 1) 46 (.slice bp bn bc) (.int .i64 bm) (.int .i64 bd) (.slice bp2 bn2 bc2) (.bool bb) ∧ B5 W0 (w.heap.size + 2) 28 (.slice xp xn xc) (.int .i64 xm) (.int .i64 xd) (.slice xp2 xn2 xc2) (.bool xb) ∧ B5 W0 (w.heap.size + 3) 46 (.slice yp yn yc) (.int .i64 ym) (.int .i64 yd) (.slice yp2 yn2 yc2) (.bool yb) ∧ B5 W0 (w.heap.size + 4) 28 (.slice none 0 0) (.int .i64 0) (.int .i64 0) (.slice none 0 0) (.bool false) ∧ B5 W0 (w.heap.size + 5) 46 (.slice none 0 0) (.int .i64 0) (.int .i64 0) (.slice none 0 0) (.bool false)) := by
  rw [hW0]
  have m0 := B5.made (W := w) (.slice ap an ac) (.int .i64 am) (.int .i64 ad) (.slice ap2 an2 ac2) (.bool ab) 28
  have s0 : Below (w).heap.size (w) (w.alloc (Obj.cells #[.slice ap an ac, .int .i64 am, .int .i64 ad, .slice ap2 an2 ac2, .bool ab] 28)) := (Below.refl _ _).alloc (Nat.le_refl _) _
  have m1 := B5.made (W := (w.alloc (Obj.cells #[.slice ap an ac, .int .i64 am, .int .i64 ad, .slice ap2 an2 ac2, .bool ab] 28))) (.slice bp bn bc) (.int .i64 bm) (.int .i64 bd) (.slice bp2 bn2 bc2) (.bool bb) 46
  have s1 : Below ((w.alloc (Obj.cells #[.slice ap an ac, .int .i64 am, .int .i64 ad, .slice ap2 an2 ac2, .bool ab] 28))).heap.size ((w.alloc (Obj.cells #[.slice ap an ac, .int .i64 am, .int .i64 ad, .slice ap2 an2 ac2, .bool ab] 28))) ((w.alloc (Obj.cells #[.slice ap an ac, .int .i64 am, .int .i64 ad, .slice ap2 an2 ac2, .bool ab] 28)).alloc (Obj.cells #[.slice bp bn bc, .int .i64 bm, .int .i64 bd, .slice bp2 bn2 bc2, .bool bb] 46)) := (Below.refl _ _).alloc (Nat.le_refl _) _
  have m2 := B5.made (W := ((w.alloc (Obj.cells #[.slice ap an ac, .int .i64 am, .int .i64 ad, .slice ap2 an2 ac2, .bool ab] 28)).alloc (Obj.cells #[.slice bp bn bc, .int .i64 bm, .int .i64 bd, .slice bp2 bn2 bc2, .bool bb] 46))) (.slice xp xn xc) (.int .i64 xm) (.int .i64 xd) (.slice xp2 xn2 xc2) (.bool xb) 28
  have s2 : Below (((w.alloc (Obj.cells #[.slice ap an ac, .int .i64 am, .int .i64 ad, .slice ap2 an2 ac2, .bool ab] 28)).alloc (Obj.cells #[.slice bp bn bc, .int .i64 bm, .int .i64 bd, .slice bp2 bn2 bc2, .bool bb] 46))).heap.size (((w.alloc (Obj.cells #[.slice ap an ac, .int .i64 am, .int .i64 ad, .slice ap2 an2 ac2, .bool ab] 28)).alloc (Obj.cells #[.slice bp bn bc, .int .i64 bm, .int .i64 bd, .slice bp2 bn2 bc2, .bool bb] 46))) (((w.alloc (Obj.cells #[.slice ap an ac, .int .i64 am, .int .i64 ad, .slice ap2 an2 ac2, .bool ab] 28)).alloc (Obj.cells #[.slice bp bn bc, .int .i64 bm, .int .i64 bd, .slice bp2 bn2 bc2, .bool bb] 46)).alloc (Obj.cells #[.slice xp xn xc, .int .i64 xm, .int .i64 xd, .slice xp2 xn2 xc2, .bool xb] 28)) := (Below.refl _ _).alloc (Nat.le_refl _) _
  have m3 := B5.made (W := (((w.alloc (Obj.cells #[.slice ap an ac, .int .i64 am, .int .i64 ad, .slice ap2 an2 ac2, .bool ab] 28)).alloc (Obj.cells #[.slice bp bn bc, .int .i64 bm, .int .i64 bd, .slice bp2 bn2 bc2, .bool bb] 46)).alloc (Obj.cells #[.slice xp xn xc, .int .i64 xm, .int .i64 xd, .slice xp2 xn2 xc2, .bool xb] 28))) (.slice yp yn yc) (.int .i64 ym) (.int .i64 yd) (.slice yp2 yn2 yc2) (.bool yb) 46
  have s3 : Below ((((w.alloc (Obj.cells #[.slice ap an ac, .int .i64 am, .int .i64 ad, .slice ap2 an2 ac2, .bool ab] 28)).alloc (Obj.cells #[.slice bp bn bc, .int .i64 bm, .int .i64 bd, .slice bp2 bn2 bc2, .bool bb] 46)).alloc (Obj.cells #[.slice xp xn xc, .int .i64 xm, .int .i64 xd, .slice xp2 xn2 xc2, .bool xb] 28))).heap.size ((((w.alloc (Obj.cells #[.slice ap an ac, .int .i64 am, .int .i64 ad, .slice ap2 an2 ac2, .bool ab] 28)).alloc (Obj.cells #[.slice bp bn bc, .int .i64 bm, .int .i64 bd, .slice bp2 bn2 bc2, .bool bb] 46)).alloc (Obj.cells #[.slice xp xn xc, .int .i64 xm, .int .i64 xd, .slice xp2 xn2 xc2, .bool xb] 28))) ((((w.alloc (Obj.cells #[.slice ap an ac, .int .i64 am, .int .i64 ad, .slice ap2 an2 ac2, .bool ab] 28)).alloc (Obj.cells #[.slice bp bn bc, .int .i64 bm, .int .i64 bd, .slice bp2 bn2 bc2, .bool bb] 46)).alloc (Obj.cells #[.slice xp xn xc, .int .i64 xm, .int .i64 xd, .slice xp2 xn2 xc2, .bool xb] 28)).alloc (Obj.cells #[.slice yp yn yc, .int .i64 ym, .int .i64 yd, .slice yp2 yn2 yc2, .bool yb] 46)) := (Below.refl _ _).alloc (Nat.le_refl _) _
  have m4 := B5.made (W := ((((w.alloc (Obj.cells #[.slice ap an ac, .int .i64 am, .int .i64 ad, .slice ap2 an2 ac2, .bool ab] 28)).alloc (Obj.cells #[.slice bp bn bc, .int .i64 bm, .int .i64 bd, .slice bp2 bn2 bc2, .bool bb] 46)).alloc (Obj.cells #[.slice xp xn xc, .int .i64 xm, .int .i64 xd, .slice xp2 xn2 xc2, .bool xb] 28)).alloc (Obj.cells #[.slice yp yn yc, .int .i64 ym, .int .i64 yd, .slice yp2 yn2 yc2, .bool yb] 46))) (.slice none 0 0) (.int .i64 0) (.int .i64 0) (.slice none 0 0) (.bool false) 28
  have s4 : Below (((((w.alloc (Obj.cells #[.slice ap an ac, .int .i64 am, .int .i64 ad, .slice ap2 an2 ac2, .bool ab] 28)).alloc (Obj.cells #[.slice bp bn bc, .int .i64 bm, .int .i64 bd, .slice bp2 bn2 bc2, .bool bb] 46)).alloc (Obj.cells #[.slice xp xn xc, .int .i64 xm, .int .i64 xd, .slice xp2 xn2 xc2, .bool xb] 28)).alloc (Obj.cells #[.slice yp yn yc, .int .i64 ym, .int .i64 yd, .slice yp2 yn2 yc2, .bool yb] 46))).heap.size (((((w.alloc (Obj.cells #[.slice ap an ac, .int .i64 am, .int .i64 ad, .slice ap2 an2 ac2, .bool ab] 28)).alloc (Obj.cells #[.slice bp bn bc, .int .i64 bm, .int .i64 bd, .slice bp2 bn2 bc2, .bool bb] 46)).alloc (Obj.cells #[.slice xp xn xc, .int .i64 xm, .int .i64 xd, .slice xp2 xn2 xc2, .bool xb] 28)).alloc (Obj.cells #[.slice yp yn yc, .int .i64 ym, .int .i64 yd, .slice yp2 yn2 yc2, .bool yb] 46))) (((((w.alloc (Obj.cells #[.slice ap an ac, .int .i64 am, .int .i64 ad, .slice ap2 an2 ac2, .bool ab] 28)).alloc (Obj.cells #[.slice bp bn bc, .int .i64 bm, .int .i64 bd, .slice bp2 bn2 bc2, .bool bb] 46)).alloc (Obj.cells #[.slice xp xn xc, .int .i64 xm, .int .i64 xd, .slice xp2 xn2 xc2, .bool xb] 28)).alloc (Obj.cells #[.slice yp yn yc, .int .i64 ym, .int .i64 yd, .slice yp2 yn2 yc2, .bool yb] 46)).alloc (Obj.cells #[.slice none 0 0, .int .i64 0, .int .i64 0, .slice none 0 0, .bool false] 28)) := (Below.refl _ _).alloc (Nat.le_refl _) _
  have m5 := B5.made (W := (((((w.alloc (Obj.cells #[.slice ap an ac, .int .i64 am, .int .i64 ad, .slice ap2 an2 ac2, .bool ab] 28)).alloc (Obj.cells #[.slice bp bn bc, .int .i64 bm, .int .i64 bd, .slice bp2 bn2 bc2, .bool bb] 46)).alloc (Obj.cells #[.slice xp xn xc, .int .i64 xm, .int .i64 xd, .slice xp2 xn2 xc2, .bool xb] 28)).alloc (Obj.cells #[.slice yp yn yc, .int .i64 ym, .int .i64 yd, .slice yp2 yn2 yc2, .bool yb] 46)).alloc (Obj.cells #[.slice none 0 0, .int .i64 0, .int .i64 0, .slice none 0 0, .bool false] 28))) (.slice none 0 0) (.int .i64 0) (.int .i64 0) (.slice none 0 0) (.bool false) 46
  have s5 : Below ((((((w.alloc (Obj.cells #[.slice ap an ac, .int .i64 am, .int .i64 ad, .slice ap2 an2 ac2, .bool ab] 28)).alloc (Obj.cells #[.slice bp bn bc, .int .i64 bm, .int .i64 bd, .slice bp2 bn2 bc2, .bool bb] 46)).alloc (Obj.cells #[.slice xp xn xc, .int .i64 xm, .int .i64 xd, .slice xp2 xn2 xc2, .bool xb] 28)).alloc (Obj.cells #[.slice yp yn yc, .int .i64 ym, .int .i64 yd, .slice yp2 yn2 yc2, .bool yb] 46)).alloc (Obj.cells #[.slice none 0 0, .int .i64 0, .int .i64 0, .slice none 0 0, .bool false] 28))).heap.size ((((((w.alloc (Obj.cells #[.slice ap an ac, .int .i64 am, .int .i64 ad, .slice ap2 an2 ac2, .bool ab] 28)).alloc (Obj.cells #[.slice bp bn bc, .int .i64 bm, .int .i64 bd, .slice bp2 bn2 bc2, .bool bb] 46)).alloc (Obj.cells #[.slice xp xn xc, .int .i64 xm, .int .i64 xd, .slice xp2 xn2 xc2, .bool xb] 28)).alloc (Obj.cells #[.slice yp yn yc, .int .i64 ym, .int .i64 yd, .slice yp2 yn2 yc2, .bool yb] 46)).alloc (Obj.cells #[.slice none 0 0, .int .i64 0, .int .i64 0, .slice none 0 0, .bool false] 28))) ((((((w.alloc (Obj.cells #[.slice ap an ac, .int .i64 am, .int .i64 ad, .slice ap2 an2 ac2, .bool ab] 28)).alloc (Obj.cells #[.slice bp bn bc, .int .i64 bm, .int .i64 bd, .slice bp2 bn2 bc2, .bool bb] 46)).alloc (Obj.cells #[.slice xp xn xc, .int .i64 xm, .int .i64 xd, .slice xp2 xn2 xc2, .bool xb] 28)).alloc (Obj.cells #[.slice yp yn yc, .int .i64 ym, .int .i64 yd, .slice yp2 yn2 yc2, .bool yb] 46)).alloc (Obj.cells #[.slice none 0 0, .int .i64 0, .int .i64 0, .slice none 0 0, .bool false] 28)).alloc (Obj.cells #[.slice none 0 0, .int .i64 0, .int .i64 0, .slice none 0 0, .bool false] 46)) := (Below.refl _ _).alloc (Nat.le_refl _) _
  have z1 : w.heap.size ≤ _ := s0.size
  refine ⟨((((((s0).trans (s1.mono s0.size)).trans (s2.mono (by simp; omega))).trans (s3.mono (by simp; omega))).trans (s4.mono (by simp; omega))).trans (s5.mono (by simp; omega))), ?_, ?_, ?_, ?_, ?_, ?_⟩
  ·simpa using (((((m0).step s1).step s2).step s3).step s4).step s5
  ·simpa using ((((m1).step s2).step s3).step s4).step s5
  ·simpa using (((m2).step s3).step s4).step s5
  ·simpa using ((m3).step s4).step s5
  ·simpa using (m4).step s5
  ·simpa using m5
 go_enter Try.func47, Try.ntmps47
 go_upto_region 1 with fail
 rw [← hW0]
 clear hW0
 obtain ⟨cx0, cx1, cx2, cx3, cx4⟩ := HB.out.2.2.2.1.cells
 obtain ⟨cy0, cy1, cy2, cy3, cy4⟩ := HB.out.2.2.2.2.1.cells
 go_wp2_with fail
 refine (HAL.out _ HB.out.1).mono ?_
 rintro e' W1 ⟨rfl, hb1⟩
 have HB1 : Hid (Below w.heap.size w W1 ∧ B5 W1 (w.heap.size) 28 (.slice ap an ac) (.int .i64 am) (.int .i64 ad) (.slice ap2 an2 ac2) (.bool ab) ∧ B5 W1 (w.heap.size + 1) 46 (.slice bp bn bc) (.int .i64 bm) (.int .i64 bd) (.slice bp2 bn2 bc2) (.bool bb) ∧ B5 W1 (w.heap.size + 2) 28 (.slice xp xn xc) (.int .i64 xm) (.int .i64 xd) (.slice xp2 xn2 xc2) (.bool xb) ∧ B5 W1 (w.heap.size + 3) 46 (.slice yp yn yc) (.int .i64 ym) (.int .i64 yd) (.slice yp2 yn2 yc2) (.bool yb) ∧ B5 W1 (w.heap.size + 4) 28 (.slice none 0 0) (.int .i64 0) (.int .i64 0) (.slice none 0 0) (.bool false) ∧ B5 W1 (w.heap.size + 5) 46 (.slice none 0 0) (.int .i64 0) (.int .i64 0) (.slice none 0 0) (.bool false)) := ⟨HB.out.1.trans (hb1.mono HB.out.1.size), HB.out.2.1.step hb1, HB.out.2.2.1.step hb1, HB.out.2.2.2.1.step hb1, HB.out.2.2.2.2.1.step hb1, HB.out.2.2.2.2.2.1.step hb1, HB.out.2.2.2.2.2.2.step hb1⟩
 clear hb1 cx0 cx1 cx2 cx3 cx4 cy0 cy1 cy2 cy3 cy4
 obtain ⟨cx0, cx1, cx2, cx3, cx4⟩ := HB1.out.2.2.2.1.cells
 obtain ⟨cy0, cy1, cy2, cy3, cy4⟩ := HB1.out.2.2.2.2.1.cells
 obtain ⟨z0, z1, z2, z3, z4⟩ := HB1.out.2.2.2.2.2.1.cells
 obtain ⟨y0, y1, y2, y3, y4⟩ := HB1.out.2.2.2.2.2.2.cells
 obtain ⟨f0, f1, f2, f3, f4⟩ := HB1.out.2.2.2.2.2.1.frz
 obtain ⟨g0, g1, g2, g3, g4⟩ := HB1.out.2.2.2.2.2.2.frz
 go_wp2_with fail
 go_region
 obtain ⟨W4, hW4⟩ : ∃ W4, W4 = (((((W1.setCell ⟨w.heap.size + 1 + 1 + 1 + 1, 0, none⟩ (.slice xp xn xc)).setCell ⟨w.heap.size + 1 + 1 + 1 + 1, 1, none⟩ (.int .i64 xm)).setCell ⟨w.heap.size + 1 + 1 + 1 + 1, 2, none⟩ (.int .i64 xd)).setCell ⟨w.heap.size + 1 + 1 + 1 + 1, 3, none⟩ (.slice xp2 xn2 xc2)).setCell ⟨w.heap.size + 1 + 1 + 1 + 1, 4, none⟩ (.bool xb)) := ⟨_, rfl⟩
 rw [← hW4]
 obtain ⟨W5, hW5⟩ : ∃ W5, W5 = (((((W4.setCell ⟨w.heap.size + 1 + 1 + 1 + 1 + 1, 0, none⟩ (.slice yp yn yc)).setCell ⟨w.heap.size + 1 + 1 + 1 + 1 + 1, 1, none⟩ (.int .i64 ym)).setCell ⟨w.heap.size + 1 + 1 + 1 + 1 + 1, 2, none⟩ (.int .i64 yd)).setCell ⟨w.heap.size + 1 + 1 + 1 + 1 + 1, 3, none⟩ (.slice yp2 yn2 yc2)).setCell ⟨w.heap.size + 1 + 1 + 1 + 1 + 1, 4, none⟩ (.bool yb)) := ⟨_, rfl⟩
 rw [← hW5]
 obtain ⟨p1, p2, p3⟩ := B5.put (k := w.heap.size + 1 + 1 + 1 + 1) HB1.out.2.2.2.2.2.1 hW4
 obtain ⟨r1, r2, r3⟩ := B5.put (k := w.heap.size + 1 + 1 + 1 + 1 + 1) (p3 _ _ _ _ _ _ _ (by omega) HB1.out.2.2.2.2.2.2) hW5
 have K1 := Lib.hid (r2 w.heap.size w (by omega) (p2 w.heap.size w (by omega) HB1.out.1))
 have p4 := r3 _ _ _ _ _ _ _ (by omega) p1
 clear cx0 cx1 cx2 cx3 cx4 cy0 cy1 cy2 cy3 cy4 z0 z1 z2 z3 z4 y0 y1 y2 y3 y4 f0 f1 f2 f3 f4 g0 g1 g2 g3 g4 hW4 hW5
 obtain ⟨c0, c1, c2, c3, c4⟩ := p4.cells
 obtain ⟨d0, d1, d2, d3, d4⟩ := r1.cells
 go_wp2_with fail
 refine bodyPost_ret (v := .tuple #[.agg #[.slice xp xn xc, .int .i64 xm, .int .i64 xd, .slice xp2 xn2 xc2, .bool xb], .agg #[.slice yp yn yc, .int .i64 ym, .int .i64 yd, .slice yp2 yn2 yc2, .bool yb], .bool true]) (by simp [results, Try.results47, go_sem, c0, c1, c2, c3, c4, d0, d1, d2, d3, d4]) rfl ⟨rfl, K1.out.drew⟩
set_option maxRecDepth 100000 in
set_option maxHeartbeats 8000000 in
theorem keep_no {a b x y : Value} {w : World} (ha : Shape a) (hb : Shape b) (hx : Shape x) (hy : Shape y) (hal : ∀ W, Below w.heap.size w W → Calls Try.prog 16 #[x, y] W fun e w' => e = .returned (.bool true) ∧ Below W.heap.size W w') {e : Int} (he : e ≠ 0) :
  Calls Try.prog 47 #[a, b, x, y, .int .i64 e, .bool true] w fun e w' => e = .returned (.tuple #[a, b, .bool true]) ∧ Below w.heap.size w w' := by
 obtain ⟨ap, an, ac, am, ad, ap2, an2, ac2, ab, rfl⟩ := ha
 obtain ⟨bp, bn, bc, bm, bd, bp2, bn2, bc2, bb, rfl⟩ := hb
 obtain ⟨xp, xn, xc, xm, xd, xp2, xn2, xc2, xb, rfl⟩ := hx
 obtain ⟨yp, yn, yc, ym, yd, yp2, yn2, yc2, yb, rfl⟩ := hy
 have te : (e != 0) = true := by simpa using he
 clear he
 have HAL := Lib.hid hal
 clear hal
 obtain ⟨G, hG⟩ : ∃ G, G = w.heap.size := ⟨_, rfl⟩
 obtain ⟨W0, hW0⟩ : ∃ W0, W0 = ((((((w.alloc (Obj.cells #[.slice ap an ac, .int .i64 am, .int .i64 ad, .slice ap2 an2 ac2, .bool ab] 28)).alloc (Obj.cells #[.slice bp bn bc, .int .i64 bm, .int .i64 bd, .slice bp2 bn2 bc2, .bool bb] 46)).alloc (Obj.cells #[.slice xp xn xc, .int .i64 xm, .int .i64 xd, .slice xp2 xn2 xc2, .bool xb] 28)).alloc (Obj.cells #[.slice yp yn yc, .int .i64 ym, .int .i64 yd, .slice yp2 yn2 yc2, .bool yb] 46)).alloc (Obj.cells #[.slice none 0 0, .int .i64 0, .int .i64 0, .slice none 0 0, .bool false] 28)).alloc (Obj.cells #[.slice none 0 0, .int .i64 0, .int .i64 0, .slice none 0 0, .bool false] 46)) := ⟨_, rfl⟩
 have HB : Hid (Below w.heap.size w W0 ∧ B5 W0 (w.heap.size) 28 (.slice ap an ac) (.int .i64 am) (.int .i64 ad) (.slice ap2 an2 ac2) (.bool ab) ∧ B5 W0 (w.heap.size + 1) 46 (.slice bp bn bc) (.int .i64 bm) (.int .i64 bd) (.slice bp2 bn2 bc2) (.bool bb) ∧ B5 W0 (w.heap.size + 2) 28 (.slice xp xn xc) (.int .i64 xm) (.int .i64 xd) (.slice xp2 xn2 xc2) (.bool xb) ∧ B5 W0 (w.heap.size + 3) 46 (.slice yp yn yc) (.int .i64 ym) (.int .i64 yd) (.slice yp2 yn2 yc2) (.bool yb) ∧ B5 W0 (w.heap.size + 4) 28 (.slice none 0 0) (.int .i64 0) (.int .i64 0) (.slice none 0 0) (.bool false) ∧ B5 W0 (w.heap.size + 5) 46 (.slice none 0 0) (.int .i64 0) (.int .i64 0) (.slice none 0 0) (.bool false)) := by
  rw [hW0]
  have m0 := B5.made (W := w) (.slice ap an ac) (.int .i64 am) (.int .i64 ad) (.slice ap2 an2 ac2) (.bool ab) 28
  have s0 : Below (w).heap.size (w) (w.alloc (Obj.cells #[.slice ap an ac, .int .i64 am, .int .i64 ad, .slice ap2 an2 ac2, .bool ab] 28)) := (Below.refl _ _).alloc (Nat.le_refl _) _
  have m1 := B5.made (W := (w.alloc (Obj.cells #[.slice ap an ac, .int .i64 am, .int .i64 ad, .slice ap2 an2 ac2, .bool ab] 28))) (.slice bp bn bc) (.int .i64 bm) (.int .i64 bd) (.slice bp2 bn2 bc2) (.bool bb) 46
  have s1 : Below ((w.alloc (Obj.cells #[.slice ap an ac, .int .i64 am, .int .i64 ad, .slice ap2 an2 ac2, .bool ab] 28))).heap.size ((w.alloc (Obj.cells #[.slice ap an ac, .int .i64 am, .int .i64 ad, .slice ap2 an2 ac2, .bool ab] 28))) ((w.alloc (Obj.cells #[.slice ap an ac, .int .i64 am, .int .i64 ad, .slice ap2 an2 ac2, .bool ab] 28)).alloc (Obj.cells #[.slice bp bn bc, .int .i64 bm, .int .i64 bd, .slice bp2 bn2 bc2, .bool bb] 46)) := (Below.refl _ _).alloc (Nat.le_refl _) _
  have m2 := B5.made (W := ((w.alloc (Obj.cells #[.slice ap an ac, .int .i64 am, .int .i64 ad, .slice ap2 an2 ac2, .bool ab] 28)).alloc (Obj.cells #[.slice bp bn bc, .int .i64 bm, .int .i64 bd, .slice bp2 bn2 bc2, .bool bb] 46))) (.slice xp xn xc) (.int .i64 xm) (.int .i64 xd) (.slice xp2 xn2 xc2) (.bool xb) 28
  have s2 : Below (((w.alloc (Obj.cells #[.slice ap an ac, .int .i64 am, .int .i64 ad, .slice ap2 an2 ac2, .bool ab] 28)).alloc (Obj.cells #[.slice bp bn bc, .int .i64 bm, .int .i64 bd, .slice bp2 bn2 bc2, .bool bb] 46))).heap.size (((w.alloc (Obj.cells #[.slice ap an ac, .int .i64 am, .int .i64 ad, .slice ap2 an2 ac2, .bool ab] 28)).alloc (Obj.cells #[.slice bp bn bc, .int .i64 bm, .int .i64 bd, .slice bp2 bn2 bc2, .bool bb] 46))) (((w.alloc (Obj.cells #[.slice ap an ac, .int .i64 am, .int .i64 ad, .slice ap2 an2 ac2, .bool ab] 28)).alloc (Obj.cells #[.slice bp bn bc, .int .i64 bm, .int .i64 bd, .slice bp2 bn2 bc2, .bool bb] 46)).alloc (Obj.cells #[.slice xp xn xc, .int .i64 xm, .int .i64 xd, .slice xp2 xn2 xc2, .bool xb] 28)) := (Below.refl _ _).alloc (Nat.le_refl _) _
  have m3 := B5.made (W := (((w.alloc (Obj.cells #[.slice ap an ac, .int .i64 am, .int .i64 ad, .slice ap2 an2 ac2, .bool ab] 28)).alloc (Obj.cells #[.slice bp bn bc, .int .i64 bm, .int .i64 bd, .slice bp2 bn2 bc2, .bool bb] 46)).alloc (Obj.cells #[.slice xp xn xc, .int .i64 xm, .int .i64 xd, .slice xp2 xn2 xc2, .bool xb] 28))) (.slice yp yn yc) (.int .i64 ym) (.int .i64 yd) (.slice yp2 yn2 yc2) (.bool yb) 46
  have s3 : Below ((((w.alloc (Obj.cells #[.slice ap an ac, .int .i64 am, .int .i64 ad, .slice ap2 an2 ac2, .bool ab] 28)).alloc (Obj.cells #[.slice bp bn bc, .int .i64 bm, .int .i64 bd, .slice bp2 bn2 bc2, .bool bb] 46)).alloc (Obj.cells #[.slice xp xn xc, .int .i64 xm, .int .i64 xd, .slice xp2 xn2 xc2, .bool xb] 28))).heap.size ((((w.alloc (Obj.cells #[.slice ap an ac, .int .i64 am, .int .i64 ad, .slice ap2 an2 ac2, .bool ab] 28)).alloc (Obj.cells #[.slice bp bn bc, .int .i64 bm, .int .i64 bd, .slice bp2 bn2 bc2, .bool bb] 46)).alloc (Obj.cells #[.slice xp xn xc, .int .i64 xm, .int .i64 xd, .slice xp2 xn2 xc2, .bool xb] 28))) ((((w.alloc (Obj.cells #[.slice ap an ac, .int .i64 am, .int .i64 ad, .slice ap2 an2 ac2, .bool ab] 28)).alloc (Obj.cells #[.slice bp bn bc, .int .i64 bm, .int .i64 bd, .slice bp2 bn2 bc2, .bool bb] 46)).alloc (Obj.cells #[.slice xp xn xc, .int .i64 xm, .int .i64 xd, .slice xp2 xn2 xc2, .bool xb] 28)).alloc (Obj.cells #[.slice yp yn yc, .int .i64 ym, .int .i64 yd, .slice yp2 yn2 yc2, .bool yb] 46)) := (Below.refl _ _).alloc (Nat.le_refl _) _
  have m4 := B5.made (W := ((((w.alloc (Obj.cells #[.slice ap an ac, .int .i64 am, .int .i64 ad, .slice ap2 an2 ac2, .bool ab] 28)).alloc (Obj.cells #[.slice bp bn bc, .int .i64 bm, .int .i64 bd, .slice bp2 bn2 bc2, .bool bb] 46)).alloc (Obj.cells #[.slice xp xn xc, .int .i64 xm, .int .i64 xd, .slice xp2 xn2 xc2, .bool xb] 28)).alloc (Obj.cells #[.slice yp yn yc, .int .i64 ym, .int .i64 yd, .slice yp2 yn2 yc2, .bool yb] 46))) (.slice none 0 0) (.int .i64 0) (.int .i64 0) (.slice none 0 0) (.bool false) 28
  have s4 : Below (((((w.alloc (Obj.cells #[.slice ap an ac, .int .i64 am, .int .i64 ad, .slice ap2 an2 ac2, .bool ab] 28)).alloc (Obj.cells #[.slice bp bn bc, .int .i64 bm, .int .i64 bd, .slice bp2 bn2 bc2, .bool bb] 46)).alloc (Obj.cells #[.slice xp xn xc, .int .i64 xm, .int .i64 xd, .slice xp2 xn2 xc2, .bool xb] 28)).alloc (Obj.cells #[.slice yp yn yc, .int .i64 ym, .int .i64 yd, .slice yp2 yn2 yc2, .bool yb] 46))).heap.size (((((w.alloc (Obj.cells #[.slice ap an ac, .int .i64 am, .int .i64 ad, .slice ap2 an2 ac2, .bool ab] 28)).alloc (Obj.cells #[.slice bp bn bc, .int .i64 bm, .int .i64 bd, .slice bp2 bn2 bc2, .bool bb] 46)).alloc (Obj.cells #[.slice xp xn xc, .int .i64 xm, .int .i64 xd, .slice xp2 xn2 xc2, .bool xb] 28)).alloc (Obj.cells #[.slice yp yn yc, .int .i64 ym, .int .i64 yd, .slice yp2 yn2 yc2, .bool yb] 46))) (((((w.alloc (Obj.cells #[.slice ap an ac, .int .i64 am, .int .i64 ad, .slice ap2 an2 ac2, .bool ab] 28)).alloc (Obj.cells #[.slice bp bn bc, .int .i64 bm, .int .i64 bd, .slice bp2 bn2 bc2, .bool bb] 46)).alloc (Obj.cells #[.slice xp xn xc, .int .i64 xm, .int .i64 xd, .slice xp2 xn2 xc2, .bool xb] 28)).alloc (Obj.cells #[.slice yp yn yc, .int .i64 ym, .int .i64 yd, .slice yp2 yn2 yc2, .bool yb] 46)).alloc (Obj.cells #[.slice none 0 0, .int .i64 0, .int .i64 0, .slice none 0 0, .bool false] 28)) := (Below.refl _ _).alloc (Nat.le_refl _) _
  have m5 := B5.made (W := (((((w.alloc (Obj.cells #[.slice ap an ac, .int .i64 am, .int .i64 ad, .slice ap2 an2 ac2, .bool ab] 28)).alloc (Obj.cells #[.slice bp bn bc, .int .i64 bm, .int .i64 bd, .slice bp2 bn2 bc2, .bool bb] 46)).alloc (Obj.cells #[.slice xp xn xc, .int .i64 xm, .int .i64 xd, .slice xp2 xn2 xc2, .bool xb] 28)).alloc (Obj.cells #[.slice yp yn yc, .int .i64 ym, .int .i64 yd, .slice yp2 yn2 yc2, .bool yb] 46)).alloc (Obj.cells #[.slice none 0 0, .int .i64 0, .int .i64 0, .slice none 0 0, .bool false] 28))) (.slice none 0 0) (.int .i64 0) (.int .i64 0) (.slice none 0 0) (.bool false) 46
  have s5 : Below ((((((w.alloc (Obj.cells #[.slice ap an ac, .int .i64 am, .int .i64 ad, .slice ap2 an2 ac2, .bool ab] 28)).alloc (Obj.cells #[.slice bp bn bc, .int .i64 bm, .int .i64 bd, .slice bp2 bn2 bc2, .bool bb] 46)).alloc (Obj.cells #[.slice xp xn xc, .int .i64 xm, .int .i64 xd, .slice xp2 xn2 xc2, .bool xb] 28)).alloc (Obj.cells #[.slice yp yn yc, .int .i64 ym, .int .i64 yd, .slice yp2 yn2 yc2, .bool yb] 46)).alloc (Obj.cells #[.slice none 0 0, .int .i64 0, .int .i64 0, .slice none 0 0, .bool false] 28))).heap.size ((((((w.alloc (Obj.cells #[.slice ap an ac, .int .i64 am, .int .i64 ad, .slice ap2 an2 ac2, .bool ab] 28)).alloc (Obj.cells #[.slice bp bn bc, .int .i64 bm, .int .i64 bd, .slice bp2 bn2 bc2, .bool bb] 46)).alloc (Obj.cells #[.slice xp xn xc, .int .i64 xm, .int .i64 xd, .slice xp2 xn2 xc2, .bool xb] 28)).alloc (Obj.cells #[.slice yp yn yc, .int .i64 ym, .int .i64 yd, .slice yp2 yn2 yc2, .bool yb] 46)).alloc (Obj.cells #[.slice none 0 0, .int .i64 0, .int .i64 0, .slice none 0 0, .bool false] 28))) ((((((w.alloc (Obj.cells #[.slice ap an ac, .int .i64 am, .int .i64 ad, .slice ap2 an2 ac2, .bool ab] 28)).alloc (Obj.cells #[.slice bp bn bc, .int .i64 bm, .int .i64 bd, .slice bp2 bn2 bc2, .bool bb] 46)).alloc (Obj.cells #[.slice xp xn xc, .int .i64 xm, .int .i64 xd, .slice xp2 xn2 xc2, .bool xb] 28)).alloc (Obj.cells #[.slice yp yn yc, .int .i64 ym, .int .i64 yd, .slice yp2 yn2 yc2, .bool yb] 46)).alloc (Obj.cells #[.slice none 0 0, .int .i64 0, .int .i64 0, .slice none 0 0, .bool false] 28)).alloc (Obj.cells #[.slice none 0 0, .int .i64 0, .int .i64 0, .slice none 0 0, .bool false] 46)) := (Below.refl _ _).alloc (Nat.le_refl _) _
  have z1 : w.heap.size ≤ _ := s0.size
  refine ⟨((((((s0).trans (s1.mono s0.size)).trans (s2.mono (by simp; omega))).trans (s3.mono (by simp; omega))).trans (s4.mono (by simp; omega))).trans (s5.mono (by simp; omega))), ?_, ?_, ?_, ?_, ?_, ?_⟩
  ·simpa using (((((m0).step s1).step s2).step s3).step s4).step s5
  ·simpa using ((((m1).step s2).step s3).step s4).step s5
  ·simpa using (((m2).step s3).step s4).step s5
  ·simpa using ((m3).step s4).step s5
  ·simpa using (m4).step s5
  ·simpa using m5
 go_enter Try.func47, Try.ntmps47
 go_upto_region 1 with fail
 rw [← hW0]
 clear hW0
 obtain ⟨cx0, cx1, cx2, cx3, cx4⟩ := HB.out.2.2.2.1.cells
 obtain ⟨cy0, cy1, cy2, cy3, cy4⟩ := HB.out.2.2.2.2.1.cells
 go_wp2_with fail
 refine (HAL.out _ HB.out.1).mono ?_
 rintro e' W1 ⟨rfl, hb1⟩
 have HB1 : Hid (Below w.heap.size w W1 ∧ B5 W1 (w.heap.size) 28 (.slice ap an ac) (.int .i64 am) (.int .i64 ad) (.slice ap2 an2 ac2) (.bool ab) ∧ B5 W1 (w.heap.size + 1) 46 (.slice bp bn bc) (.int .i64 bm) (.int .i64 bd) (.slice bp2 bn2 bc2) (.bool bb) ∧ B5 W1 (w.heap.size + 2) 28 (.slice xp xn xc) (.int .i64 xm) (.int .i64 xd) (.slice xp2 xn2 xc2) (.bool xb) ∧ B5 W1 (w.heap.size + 3) 46 (.slice yp yn yc) (.int .i64 ym) (.int .i64 yd) (.slice yp2 yn2 yc2) (.bool yb) ∧ B5 W1 (w.heap.size + 4) 28 (.slice none 0 0) (.int .i64 0) (.int .i64 0) (.slice none 0 0) (.bool false) ∧ B5 W1 (w.heap.size + 5) 46 (.slice none 0 0) (.int .i64 0) (.int .i64 0) (.slice none 0 0) (.bool false)) := ⟨HB.out.1.trans (hb1.mono HB.out.1.size), HB.out.2.1.step hb1, HB.out.2.2.1.step hb1, HB.out.2.2.2.1.step hb1, HB.out.2.2.2.2.1.step hb1, HB.out.2.2.2.2.2.1.step hb1, HB.out.2.2.2.2.2.2.step hb1⟩
 clear hb1 cx0 cx1 cx2 cx3 cx4 cy0 cy1 cy2 cy3 cy4
 obtain ⟨cx0, cx1, cx2, cx3, cx4⟩ := HB1.out.2.1.cells
 obtain ⟨cy0, cy1, cy2, cy3, cy4⟩ := HB1.out.2.2.1.cells
 obtain ⟨z0, z1, z2, z3, z4⟩ := HB1.out.2.2.2.2.2.1.cells
 obtain ⟨y0, y1, y2, y3, y4⟩ := HB1.out.2.2.2.2.2.2.cells
 obtain ⟨f0, f1, f2, f3, f4⟩ := HB1.out.2.2.2.2.2.1.frz
 obtain ⟨g0, g1, g2, g3, g4⟩ := HB1.out.2.2.2.2.2.2.frz
 go_wp2_with fail
 go_region
 obtain ⟨W4, hW4⟩ : ∃ W4, W4 = (((((W1.setCell ⟨w.heap.size + 1 + 1 + 1 + 1, 0, none⟩ (.slice ap an ac)).setCell ⟨w.heap.size + 1 + 1 + 1 + 1, 1, none⟩ (.int .i64 am)).setCell ⟨w.heap.size + 1 + 1 + 1 + 1, 2, none⟩ (.int .i64 ad)).setCell ⟨w.heap.size + 1 + 1 + 1 + 1, 3, none⟩ (.slice ap2 an2 ac2)).setCell ⟨w.heap.size + 1 + 1 + 1 + 1, 4, none⟩ (.bool ab)) := ⟨_, rfl⟩
 rw [← hW4]
 obtain ⟨W5, hW5⟩ : ∃ W5, W5 = (((((W4.setCell ⟨w.heap.size + 1 + 1 + 1 + 1 + 1, 0, none⟩ (.slice bp bn bc)).setCell ⟨w.heap.size + 1 + 1 + 1 + 1 + 1, 1, none⟩ (.int .i64 bm)).setCell ⟨w.heap.size + 1 + 1 + 1 + 1 + 1, 2, none⟩ (.int .i64 bd)).setCell ⟨w.heap.size + 1 + 1 + 1 + 1 + 1, 3, none⟩ (.slice bp2 bn2 bc2)).setCell ⟨w.heap.size + 1 + 1 + 1 + 1 + 1, 4, none⟩ (.bool bb)) := ⟨_, rfl⟩
 rw [← hW5]
 obtain ⟨p1, p2, p3⟩ := B5.put (k := w.heap.size + 1 + 1 + 1 + 1) HB1.out.2.2.2.2.2.1 hW4
 obtain ⟨r1, r2, r3⟩ := B5.put (k := w.heap.size + 1 + 1 + 1 + 1 + 1) (p3 _ _ _ _ _ _ _ (by omega) HB1.out.2.2.2.2.2.2) hW5
 have K1 := Lib.hid (r2 w.heap.size w (by omega) (p2 w.heap.size w (by omega) HB1.out.1))
 have p4 := r3 _ _ _ _ _ _ _ (by omega) p1
 clear cx0 cx1 cx2 cx3 cx4 cy0 cy1 cy2 cy3 cy4 z0 z1 z2 z3 z4 y0 y1 y2 y3 y4 f0 f1 f2 f3 f4 g0 g1 g2 g3 g4 hW4 hW5
 obtain ⟨c0, c1, c2, c3, c4⟩ := p4.cells
 obtain ⟨d0, d1, d2, d3, d4⟩ := r1.cells
 go_wp2_with fail
 refine bodyPost_ret (v := .tuple #[.agg #[.slice ap an ac, .int .i64 am, .int .i64 ad, .slice ap2 an2 ac2, .bool ab], .agg #[.slice bp bn bc, .int .i64 bm, .int .i64 bd, .slice bp2 bn2 bc2, .bool bb], .bool true]) (by simp [results, Try.results47, go_sem, c0, c1, c2, c3, c4, d0, d1, d2, d3, d4]) rfl ⟨rfl, K1.out.drew⟩
end Go.Proofs.Ytgbafpjeapkklaa.Mb
namespace Go.Proofs.Ytgbafpjeapkklaa.Mb
open Go.RowKit
set_option linter.unusedVariables false
set_option linter.unusedSimpArgs false
def pickS (e : Int) (x a : Value) : Value := if e = 0 then x else a
theorem pick_shape {e : Int} {x a : Value} (hx : Shape x) (ha : Shape a) : Shape (pickS e x a) := by
 unfold pickS
 split <;> assumption
theorem keep_any {a b x y : Value} {w : World} (ha : Shape a) (hb : Shape b) (hx : Shape x) (hy : Shape y) (hal : ∀ W, Below w.heap.size w W → Calls Try.prog 16 #[x, y] W fun e w' => e = .returned (.bool true) ∧ Below W.heap.size W w') (e : Int) :
  Calls Try.prog 47 #[a, b, x, y, .int .i64 e, .bool true] w fun en w' => en = .returned (.tuple #[pickS e x a, pickS e y b, .bool true]) ∧ Below w.heap.size w w' := by
 by_cases he : e = 0
 ·subst he
  exact keep_yes ha hb hx hy hal
 ·have h1 : pickS e x a = a := if_neg he
  have h2 : pickS e y b = b := if_neg he
  rw [h1, h2]
  exact keep_no ha hb hx hy hal he
def Keeps (W W' : World) : Prop := W.heap.size ≤ W'.heap.size ∧ ∀ (k : Nat) (C : Array Value) (e : TypeId) (f : Nat × Nat), e ≠ 28 → e ≠ 46 → W.heap[k]? = some (.cells C e f) → W'.heap[k]? = W.heap[k]?
theorem Keeps.tri {W W' : World} (h : Keeps W W') {e : TypeId} (h1 : e ≠ 28) (h2 : e ≠ 46) {v : Value} {l : List (Int × Int × Int)} (ht : TriT W e v l) : TriT W' e v l := ht.keep h.1 (fun k C f hk => h.2 k C e f h1 h2 hk)
theorem Keeps.stz {W W' : World} (h : Keeps W W') {v : Value} (ht : StZ W v) : StZ W' v := by
 obtain ⟨ns, ps, e, h1, h2⟩ := ht
 exact ⟨ns, ps, e, h.tri (by decide) (by decide) h1, h.tri (by decide) (by decide) h2⟩
theorem Keeps.put {W W' : World} {k : Nat} {t : TypeId} {v0 v1 v2 v3 v4 u0 u1 u2 u3 u4 : Value} (ht : t = 28 ∨ t = 46) (h : B5 W k t v0 v1 v2 v3 v4)
  (hW : W' = (((((W.setCell ⟨k, 0, none⟩ u0).setCell ⟨k, 1, none⟩ u1).setCell ⟨k, 2, none⟩ u2).setCell ⟨k, 3, none⟩ u3).setCell ⟨k, 4, none⟩ u4)) : Keeps W W' := by
 subst hW
 refine ⟨by simp [World.setCell], fun j C e f h1 h2 hj => ?_⟩
 have hne : j ≠ k := by
  rintro rfl
  rw [h] at hj
  injection hj with hj
  injection hj with _ h3 _
  subst h3
  rcases ht with h | h
  ·exact h1 h
  ·exact h2 h
 rw [Below.heap_setCell _ _ _ _ hne, Below.heap_setCell _ _ _ _ hne, Below.heap_setCell _ _ _ _ hne, Below.heap_setCell _ _ _ _ hne, Below.heap_setCell _ _ _ _ hne]
structure Both (RX RY : World → Value → Prop) : Prop where
 sx : ∀ W x, RX W x → Shape x
 sy : ∀ W y, RY W y → Shape y
 bx : ∀ W W' x, RX W x → Below W.heap.size W W' → RX W' x
 bY : ∀ W W' y, RY W y → Below W.heap.size W W' → RY W' y
 kx : ∀ W W' x, RX W x → Keeps W W' → RX W' x
 ky : ∀ W W' y, RY W y → Keeps W W' → RY W' y
 al : ∀ W x y, RX W x → RY W y → Calls Try.prog 16 #[x, y] W fun e w' => e = .returned (.bool true) ∧ Below W.heap.size W w'
def kindOf (x : Int) : Int := (x.tmod 6 + 6).tmod 6
structure SK (w : World) (a0 a1 a2 a3 a4 b0 b1 b2 b3 b4 : Value) (ki p v : Int) (W : World) : Prop where
 below : Below w.heap.size w W
 a : B5 W w.heap.size 28 a0 a1 a2 a3 a4
 b : B5 W (w.heap.size + 1) 46 b0 b1 b2 b3 b4
 o : W.heap[w.heap.size + 1 + 1]? = some (.cells #[.int .i8 ki, .int .i8 p, .int .i8 v] 51 (0, 0))
 z : B5 W (w.heap.size + 1 + 1 + 1) 28 (.slice none 0 0) (.int .i64 0) (.int .i64 0) (.slice none 0 0) (.bool false)
 zz : B5 W (w.heap.size + 1 + 1 + 1 + 1) 46 (.slice none 0 0) (.int .i64 0) (.int .i64 0) (.slice none 0 0) (.bool false)
section
variable {w : World} {a0 a1 a2 a3 a4 b0 b1 b2 b3 b4 : Value} {ki p v : Int} {W W' : World}
theorem SK.step (h : SK w a0 a1 a2 a3 a4 b0 b1 b2 b3 b4 ki p v W) (hb : Below W.heap.size W W') : SK w a0 a1 a2 a3 a4 b0 b1 b2 b3 b4 ki p v W' :=
 ⟨h.below.trans (hb.mono h.below.size), h.a.step hb, h.b.step hb, (hb.block _ (blk_lt h.o)).trans h.o, h.z.step hb, h.zz.step hb⟩
theorem SK.mk' (w : World) (a0 a1 a2 a3 a4 b0 b1 b2 b3 b4 : Value) (ki p v : Int) : SK w a0 a1 a2 a3 a4 b0 b1 b2 b3 b4 ki p v
  (((((w.alloc (Obj.cells #[a0, a1, a2, a3, a4] 28)).alloc (Obj.cells #[b0, b1, b2, b3, b4] 46)).alloc (Obj.cells #[.int .i8 ki, .int .i8 p, .int .i8 v] 51)).alloc (Obj.cells #[.slice none 0 0, .int .i64 0, .int .i64 0, .slice none 0 0, .bool false] 28)).alloc (Obj.cells #[.slice none 0 0, .int .i64 0, .int .i64 0, .slice none 0 0, .bool false] 46)) := by
 have m0 := B5.made (W := w) a0 a1 a2 a3 a4 28
 have s0 : Below w.heap.size w (w.alloc (Obj.cells #[a0, a1, a2, a3, a4] 28)) := (Below.refl _ _).alloc (Nat.le_refl _) _
 have z0 : (w.alloc (Obj.cells #[a0, a1, a2, a3, a4] 28)).heap.size = w.heap.size + 1 := by simp
 generalize w.alloc (Obj.cells #[a0, a1, a2, a3, a4] 28) = W1 at *
 have m1 := B5.made (W := W1) b0 b1 b2 b3 b4 46
 have s1 : Below W1.heap.size W1 (W1.alloc (Obj.cells #[b0, b1, b2, b3, b4] 46)) := (Below.refl _ _).alloc (Nat.le_refl _) _
 have z1 : (W1.alloc (Obj.cells #[b0, b1, b2, b3, b4] 46)).heap.size = W1.heap.size + 1 := by simp
 generalize W1.alloc (Obj.cells #[b0, b1, b2, b3, b4] 46) = W2 at *
 have m2 := (MapKept.heap_alloc W2 (Obj.cells #[.int .i8 ki, .int .i8 p, .int .i8 v] 51)).1
 have s2 : Below W2.heap.size W2 (W2.alloc (Obj.cells #[.int .i8 ki, .int .i8 p, .int .i8 v] 51)) := (Below.refl _ _).alloc (Nat.le_refl _) _
 have z2 : (W2.alloc (Obj.cells #[.int .i8 ki, .int .i8 p, .int .i8 v] 51)).heap.size = W2.heap.size + 1 := by simp
 generalize W2.alloc (Obj.cells #[.int .i8 ki, .int .i8 p, .int .i8 v] 51) = W3 at *
 have m3 := B5.made (W := W3) (.slice none 0 0) (.int .i64 0) (.int .i64 0) (.slice none 0 0) (.bool false) 28
 have s3 : Below W3.heap.size W3 (W3.alloc (Obj.cells #[.slice none 0 0, .int .i64 0, .int .i64 0, .slice none 0 0, .bool false] 28)) := (Below.refl _ _).alloc (Nat.le_refl _) _
 have z3 : (W3.alloc (Obj.cells #[.slice none 0 0, .int .i64 0, .int .i64 0, .slice none 0 0, .bool false] 28)).heap.size = W3.heap.size + 1 := by simp
 generalize W3.alloc (Obj.cells #[.slice none 0 0, .int .i64 0, .int .i64 0, .slice none 0 0, .bool false] 28) = W4 at *
 have m4 := B5.made (W := W4) (.slice none 0 0) (.int .i64 0) (.int .i64 0) (.slice none 0 0) (.bool false) 46
 have s4 : Below W4.heap.size W4 (W4.alloc (Obj.cells #[.slice none 0 0, .int .i64 0, .int .i64 0, .slice none 0 0, .bool false] 46)) := (Below.refl _ _).alloc (Nat.le_refl _) _
 generalize W4.alloc (Obj.cells #[.slice none 0 0, .int .i64 0, .int .i64 0, .slice none 0 0, .bool false] 46) = W5 at *
 rw [z0] at m1
 rw [z1, z0] at m2
 rw [z2, z1, z0] at m3
 rw [z3, z2, z1, z0] at m4
 refine ⟨(((s0.trans (s1.mono s0.size)).trans (s2.mono (by omega))).trans (s3.mono (by omega))).trans (s4.mono (by omega)), ?_, ?_, ?_, ?_, m4⟩
 ·exact (((m0.step s1).step s2).step s3).step s4
 ·exact ((m1.step s2).step s3).step s4
 ·exact (s4.block _ (blk_lt ((s3.block _ (blk_lt m2)).trans m2))).trans ((s3.block _ (blk_lt m2)).trans m2)
 ·exact m3.step s4
theorem SK.ocells (h : SK w a0 a1 a2 a3 a4 b0 b1 b2 b3 b4 ki p v W) : W.cell? ⟨w.heap.size + 1 + 1, 0, none⟩ = some (.int .i8 ki) ∧ W.cell? ⟨w.heap.size + 1 + 1, 1, none⟩ = some (.int .i8 p) ∧ W.cell? ⟨w.heap.size + 1 + 1, 2, none⟩ = some (.int .i8 v) :=
 ⟨cB h.o 0, cB h.o 1, cB h.o 2⟩
end
set_option maxRecDepth 100000 in
set_option maxHeartbeats 16000000 in
theorem step_0 {RX RY : World → Value → Prop} (hc : Both RX RY) {a b : Value} {ki p v : Int} {w : World} (ha : Shape a) (hb : Shape b) (g1 : -128 ≤ ki) (g2 : ki ≤ 127) (g3 : -128 ≤ p) (g4 : p ≤ 127) (g5 : -128 ≤ v) (g6 : v ≤ 127) (hk : kindOf ki = 0)
  (was : Bool) (e : Int)
  (hA : ∀ W, Below w.heap.size w W → Calls Try.prog 10 #[a, .int .i64 p, .int .i64 v] W fun en w' => ∃ x, en = .returned (.tuple #[x, .bool was, .int .i64 e]) ∧ RX w' x ∧ Below W.heap.size W w')
  (hB : ∀ W, Below w.heap.size w W → Calls Try.prog 46 #[b, .int .i64 p, .int .i64 v] W fun en w' => ∃ x, en = .returned (.tuple #[x, .bool was, .int .i64 e]) ∧ RY w' x ∧ Below W.heap.size W w') :
  Calls Try.prog 17 #[a, b, .agg #[.int .i8 ki, .int .i8 p, .int .i8 v]] w fun en w' => ∃ x y, en = .returned (.tuple #[pickS e x a, pickS e y b, .bool true]) ∧ RX w' x ∧ RY w' y ∧ Below w.heap.size w w' := by
 obtain ⟨ap, an, ac, am, ad, ap2, an2, ac2, ab, rfl⟩ := ha
 obtain ⟨bp, bn, bc, bm, bd, bp2, bn2, bc2, bb, rfl⟩ := hb
 have HC := Lib.hid hc
 have HAA := Lib.hid hA
 have HBB := Lib.hid hB
 have HAS : Hid (Shape (.agg #[.slice ap an ac, .int .i64 am, .int .i64 ad, .slice ap2 an2 ac2, .bool ab])) := ⟨_, _, _, _, _, _, _, _, _, rfl⟩
 have HBS : Hid (Shape (.agg #[.slice bp bn bc, .int .i64 bm, .int .i64 bd, .slice bp2 bn2 bc2, .bool bb])) := ⟨_, _, _, _, _, _, _, _, _, rfl⟩
 obtain ⟨r, kk, er, hr1, hr2, ek, hkk⟩ := kind_of ki g1 g2
 obtain rfl : kk = 0 := by
  unfold kindOf at hk
  rw [er, ek] at hk
  omega
 have f0 : wrap64 ki = ki := by unfold wrap64; omega
 have f1 : wrap64 p = p := by unfold wrap64; omega
 have f2 : wrap64 v = v := by unfold wrap64; omega
 have f0' : IntKind.i64.wrap ki = ki := (Go.IntWalk.i64_left _).trans f0
 have f1' : IntKind.i64.wrap p = p := (Go.IntWalk.i64_left _).trans f1
 have f2' : IntKind.i64.wrap v = v := (Go.IntWalk.i64_left _).trans f2
 have fr : wrap64 r = r := by unfold wrap64; omega
 have fr' : IntKind.i64.wrap r = r := (Go.IntWalk.i64_left _).trans fr
 have fs : wrap64 (r + 6) = r + 6 := by unfold wrap64; omega
 have fs' : IntKind.i64.wrap (r + 6) = r + 6 := (Go.IntWalk.i64_left _).trans fs
 clear hc hA hB hk g1 g2 g3 g4 g5 g6 hr1 hr2 hkk
 have HK : Hid (SK w (.slice ap an ac) (.int .i64 am) (.int .i64 ad) (.slice ap2 an2 ac2) (.bool ab) (.slice bp bn bc) (.int .i64 bm) (.int .i64 bd) (.slice bp2 bn2 bc2) (.bool bb) ki p v _) := SK.mk' w _ _ _ _ _ _ _ _ _ _ ki p v
 go_enter Try.func17, Try.ntmps17
 go_upto_region 1 with fail
 generalize (((((w.alloc (Obj.cells #[.slice ap an ac, .int .i64 am, .int .i64 ad, .slice ap2 an2 ac2, .bool ab] 28)).alloc (Obj.cells #[.slice bp bn bc, .int .i64 bm, .int .i64 bd, .slice bp2 bn2 bc2, .bool bb] 46)).alloc (Obj.cells #[.int .i8 ki, .int .i8 p, .int .i8 v] 51)).alloc (Obj.cells #[.slice none 0 0, .int .i64 0, .int .i64 0, .slice none 0 0, .bool false] 28)).alloc (Obj.cells #[.slice none 0 0, .int .i64 0, .int .i64 0, .slice none 0 0, .bool false] 46)) = W0 at *
 obtain ⟨o0, o1, o2⟩ := HK.out.ocells
 go_quiet (fail)
 go_upto_region 5 with fail
 have HK1 := Lib.hid (HK.out.step (below_drewN (Below.refl _ _) nq))
 generalize W0.drewN nq = W1 at *
 clear o0 o1 o2 f0 f0' fr fr' fs fs' er ek f1 f1' f2 f2'
 obtain ⟨c0, c1, c2, c3, c4⟩ := HK1.out.a.cells
 go_wp2_with fail
 refine (HAA.out _ HK1.out.below).mono ?_
 rintro en W2 ⟨x, rfl, hx, hb2⟩
 obtain ⟨xp, xn, xc, xm, xd, xp2, xn2, xc2, xb, rfl⟩ := HC.out.sx _ _ hx
 have HK2 := Lib.hid (HK1.out.step hb2)
 have hm3 := B5.made (W := W2) (.slice xp xn xc) (.int .i64 xm) (.int .i64 xd) (.slice xp2 xn2 xc2) (.bool xb) 28
 obtain ⟨X, hX⟩ : ∃ X, X = W2.heap.size := ⟨_, rfl⟩
 have hal3 : Below W2.heap.size W2 (W2.alloc (Obj.cells #[.slice xp xn xc, .int .i64 xm, .int .i64 xd, .slice xp2 xn2 xc2, .bool xb] 28)) := (Below.refl _ _).alloc (Nat.le_refl _) _
 have HX3 := Lib.hid (HC.out.bx _ _ _ hx hal3)
 have HK3 := Lib.hid (HK2.out.step hal3)
 clear hx hb2 c0 c1 c2 c3 c4 hal3
 go_upto_region 6 with fail
 rw [← hX] at hm3 ⊢
 have HM3 := Lib.hid hm3
 clear hX hm3
 generalize W2.alloc (Obj.cells #[.slice xp xn xc, .int .i64 xm, .int .i64 xd, .slice xp2 xn2 xc2, .bool xb] 28) = W3 at *
 obtain ⟨c0, c1, c2, c3, c4⟩ := HK3.out.b.cells
 go_wp2_with fail
 refine (HBB.out _ HK3.out.below).mono ?_
 rintro en W4 ⟨y, rfl, hy, hb4⟩
 obtain ⟨yp, yn, yc, ym, yd, yp2, yn2, yc2, yb, rfl⟩ := HC.out.sy _ _ hy
 have HK4 := Lib.hid (HK3.out.step hb4)
 have HX4 := Lib.hid (HC.out.bx _ _ _ HX3.out hb4)
 have hm5 := B5.made (W := W4) (.slice yp yn yc) (.int .i64 ym) (.int .i64 yd) (.slice yp2 yn2 yc2) (.bool yb) 46
 obtain ⟨Y, hY⟩ : ∃ Y, Y = W4.heap.size := ⟨_, rfl⟩
 have hal5 : Below W4.heap.size W4 (W4.alloc (Obj.cells #[.slice yp yn yc, .int .i64 ym, .int .i64 yd, .slice yp2 yn2 yc2, .bool yb] 46)) := (Below.refl _ _).alloc (Nat.le_refl _) _
 have HY5 := Lib.hid (HC.out.bY _ _ _ hy hal5)
 have HX5 := Lib.hid (HC.out.bx _ _ _ HX4.out hal5)
 have HK5 := Lib.hid (HK4.out.step hal5)
 have HM5 := Lib.hid ((HM3.out.step hb4).step hal5)
 clear hy hb4 c0 c1 c2 c3 c4 hal5
 go_upto_region 7 with fail
 rw [← hY] at hm5 ⊢
 have HN5 := Lib.hid hm5
 clear hY hm5
 generalize W4.alloc (Obj.cells #[.slice yp yn yc, .int .i64 ym, .int .i64 yd, .slice yp2 yn2 yc2, .bool yb] 46) = W5 at *
 obtain ⟨a0, a1, a2, a3, a4⟩ := HK5.out.a.cells
 obtain ⟨b0, b1, b2, b3, b4⟩ := HK5.out.b.cells
 obtain ⟨c0, c1, c2, c3, c4⟩ := HM5.out.cells
 obtain ⟨d0, d1, d2, d3, d4⟩ := HN5.out.cells
 go_wp2_with fail
 refine (keep_any HAS.out HBS.out ⟨_, _, _, _, _, _, _, _, _, rfl⟩ ⟨_, _, _, _, _, _, _, _, _, rfl⟩ (fun W h => HC.out.al W _ _ (HC.out.bx _ _ _ HX5.out h) (HC.out.bY _ _ _ HY5.out h)) e).mono ?_
 rintro en W6 ⟨rfl, hb6⟩
 obtain ⟨up, un, uc, um, ud, up2, un2, uc2, ub, eu⟩ := pick_shape (e := e) (x := .agg #[.slice xp xn xc, .int .i64 xm, .int .i64 xd, .slice xp2 xn2 xc2, .bool xb]) (a := .agg #[.slice ap an ac, .int .i64 am, .int .i64 ad, .slice ap2 an2 ac2, .bool ab]) ⟨_, _, _, _, _, _, _, _, _, rfl⟩ HAS.out
 obtain ⟨vp, vn, vc, vm, vd, vp2, vn2, vc2, vb, ev⟩ := pick_shape (e := e) (x := .agg #[.slice yp yn yc, .int .i64 ym, .int .i64 yd, .slice yp2 yn2 yc2, .bool yb]) (a := .agg #[.slice bp bn bc, .int .i64 bm, .int .i64 bd, .slice bp2 bn2 bc2, .bool bb]) ⟨_, _, _, _, _, _, _, _, _, rfl⟩ HBS.out
 have HK6 := Lib.hid (HK5.out.step hb6)
 have HX6 := Lib.hid (HC.out.bx _ _ _ HX5.out hb6)
 have HY6 := Lib.hid (HC.out.bY _ _ _ HY5.out hb6)
 clear hb6 a0 a1 a2 a3 a4 b0 b1 b2 b3 b4 c0 c1 c2 c3 c4 d0 d1 d2 d3 d4
 have HEU := Lib.hid eu
 have HEV := Lib.hid ev
 rw [eu, ev]
 clear eu ev
 obtain ⟨z0, z1, z2, z3, z4⟩ := HK6.out.z.cells
 obtain ⟨y0, y1, y2, y3, y4⟩ := HK6.out.zz.cells
 obtain ⟨f0, f1, f2, f3, f4⟩ := HK6.out.z.frz
 obtain ⟨g0, g1, g2, g3, g4⟩ := HK6.out.zz.frz
 go_wp2_with fail
 obtain ⟨W7, hW7⟩ : ∃ W7, W7 = (((((W6.setCell ⟨w.heap.size + 1 + 1 + 1, 0, none⟩ (.slice up un uc)).setCell ⟨w.heap.size + 1 + 1 + 1, 1, none⟩ (.int .i64 um)).setCell ⟨w.heap.size + 1 + 1 + 1, 2, none⟩ (.int .i64 ud)).setCell ⟨w.heap.size + 1 + 1 + 1, 3, none⟩ (.slice up2 un2 uc2)).setCell ⟨w.heap.size + 1 + 1 + 1, 4, none⟩ (.bool ub)) := ⟨_, rfl⟩
 rw [← hW7]
 obtain ⟨W8, hW8⟩ : ∃ W8, W8 = (((((W7.setCell ⟨w.heap.size + 1 + 1 + 1 + 1, 0, none⟩ (.slice vp vn vc)).setCell ⟨w.heap.size + 1 + 1 + 1 + 1, 1, none⟩ (.int .i64 vm)).setCell ⟨w.heap.size + 1 + 1 + 1 + 1, 2, none⟩ (.int .i64 vd)).setCell ⟨w.heap.size + 1 + 1 + 1 + 1, 3, none⟩ (.slice vp2 vn2 vc2)).setCell ⟨w.heap.size + 1 + 1 + 1 + 1, 4, none⟩ (.bool vb)) := ⟨_, rfl⟩
 rw [← hW8]
 obtain ⟨p1, p2, p3⟩ := B5.put HK6.out.z hW7
 have hzz := p3 _ _ _ _ _ _ _ (by omega) HK6.out.zz
 obtain ⟨r1, r2, r3⟩ := B5.put hzz hW8
 have kp7 := Keeps.put (.inl rfl) HK6.out.z hW7
 have kp8 := Keeps.put (.inr rfl) hzz hW8
 have K1 := Lib.hid (r2 w.heap.size w (by omega) (p2 w.heap.size w (by omega) HK6.out.below))
 have HX8 := Lib.hid (HC.out.kx _ _ _ (HC.out.kx _ _ _ HX6.out kp7) kp8)
 have HY8 := Lib.hid (HC.out.ky _ _ _ (HC.out.ky _ _ _ HY6.out kp7) kp8)
 have p4 := r3 _ _ _ _ _ _ _ (by omega) p1
 clear z0 z1 z2 z3 z4 y0 y1 y2 y3 y4 f0 f1 f2 f3 f4 g0 g1 g2 g3 g4 hW7 hW8 kp7 kp8 hzz
 obtain ⟨c0, c1, c2, c3, c4⟩ := p4.cells
 obtain ⟨d0, d1, d2, d3, d4⟩ := r1.cells
 refine bodyPost_ret (v := .tuple #[.agg #[.slice up un uc, .int .i64 um, .int .i64 ud, .slice up2 un2 uc2, .bool ub], .agg #[.slice vp vn vc, .int .i64 vm, .int .i64 vd, .slice vp2 vn2 vc2, .bool vb], .bool true]) (by simp [results, Try.results17, go_sem, c0, c1, c2, c3, c4, d0, d1, d2, d3, d4]) rfl ⟨_, _, ?_, HX8.out, HY8.out, K1.out⟩
 rw [HEU.out, HEV.out]
set_option maxRecDepth 100000 in
set_option maxHeartbeats 16000000 in
theorem step_1 {RX RY : World → Value → Prop} (hc : Both RX RY) {a b : Value} {ki p v : Int} {w : World} (ha : Shape a) (hb : Shape b) (g1 : -128 ≤ ki) (g2 : ki ≤ 127) (g3 : -128 ≤ p) (g4 : p ≤ 127) (g5 : -128 ≤ v) (g6 : v ≤ 127) (hk : kindOf ki = 1)
  (e : Int)
  (hA : ∀ W, Below w.heap.size w W → Calls Try.prog 11 #[a, .int .i64 p] W fun en w' => ∃ x, en = .returned (.tuple #[x, .int .i64 e]) ∧ RX w' x ∧ Below W.heap.size W w')
  (hB : ∀ W, Below w.heap.size w W → Calls Try.prog 48 #[b, .int .i64 p] W fun en w' => ∃ x, en = .returned (.tuple #[x, .int .i64 e]) ∧ RY w' x ∧ Below W.heap.size W w') :
  Calls Try.prog 17 #[a, b, .agg #[.int .i8 ki, .int .i8 p, .int .i8 v]] w fun en w' => ∃ x y, en = .returned (.tuple #[pickS e x a, pickS e y b, .bool true]) ∧ RX w' x ∧ RY w' y ∧ Below w.heap.size w w' := by
 obtain ⟨ap, an, ac, am, ad, ap2, an2, ac2, ab, rfl⟩ := ha
 obtain ⟨bp, bn, bc, bm, bd, bp2, bn2, bc2, bb, rfl⟩ := hb
 have HC := Lib.hid hc
 have HAA := Lib.hid hA
 have HBB := Lib.hid hB
 have HAS : Hid (Shape (.agg #[.slice ap an ac, .int .i64 am, .int .i64 ad, .slice ap2 an2 ac2, .bool ab])) := ⟨_, _, _, _, _, _, _, _, _, rfl⟩
 have HBS : Hid (Shape (.agg #[.slice bp bn bc, .int .i64 bm, .int .i64 bd, .slice bp2 bn2 bc2, .bool bb])) := ⟨_, _, _, _, _, _, _, _, _, rfl⟩
 obtain ⟨r, kk, er, hr1, hr2, ek, hkk⟩ := kind_of ki g1 g2
 obtain rfl : kk = 1 := by
  unfold kindOf at hk
  rw [er, ek] at hk
  omega
 have f0 : wrap64 ki = ki := by unfold wrap64; omega
 have f1 : wrap64 p = p := by unfold wrap64; omega
 have f2 : wrap64 v = v := by unfold wrap64; omega
 have f0' : IntKind.i64.wrap ki = ki := (Go.IntWalk.i64_left _).trans f0
 have f1' : IntKind.i64.wrap p = p := (Go.IntWalk.i64_left _).trans f1
 have f2' : IntKind.i64.wrap v = v := (Go.IntWalk.i64_left _).trans f2
 have fr : wrap64 r = r := by unfold wrap64; omega
 have fr' : IntKind.i64.wrap r = r := (Go.IntWalk.i64_left _).trans fr
 have fs : wrap64 (r + 6) = r + 6 := by unfold wrap64; omega
 have fs' : IntKind.i64.wrap (r + 6) = r + 6 := (Go.IntWalk.i64_left _).trans fs
 clear hc hA hB hk g1 g2 g3 g4 g5 g6 hr1 hr2 hkk
 have HK : Hid (SK w (.slice ap an ac) (.int .i64 am) (.int .i64 ad) (.slice ap2 an2 ac2) (.bool ab) (.slice bp bn bc) (.int .i64 bm) (.int .i64 bd) (.slice bp2 bn2 bc2) (.bool bb) ki p v _) := SK.mk' w _ _ _ _ _ _ _ _ _ _ ki p v
 go_enter Try.func17, Try.ntmps17
 go_upto_region 1 with fail
 generalize (((((w.alloc (Obj.cells #[.slice ap an ac, .int .i64 am, .int .i64 ad, .slice ap2 an2 ac2, .bool ab] 28)).alloc (Obj.cells #[.slice bp bn bc, .int .i64 bm, .int .i64 bd, .slice bp2 bn2 bc2, .bool bb] 46)).alloc (Obj.cells #[.int .i8 ki, .int .i8 p, .int .i8 v] 51)).alloc (Obj.cells #[.slice none 0 0, .int .i64 0, .int .i64 0, .slice none 0 0, .bool false] 28)).alloc (Obj.cells #[.slice none 0 0, .int .i64 0, .int .i64 0, .slice none 0 0, .bool false] 46)) = W0 at *
 obtain ⟨o0, o1, o2⟩ := HK.out.ocells
 go_quiet (fail)
 go_upto_region 9 with fail
 have HK1 := Lib.hid (HK.out.step (below_drewN (Below.refl _ _) nq))
 generalize W0.drewN nq = W1 at *
 clear o0 o1 o2 f0 f0' fr fr' fs fs' er ek f1 f1' f2 f2'
 obtain ⟨c0, c1, c2, c3, c4⟩ := HK1.out.a.cells
 go_wp2_with fail
 refine (HAA.out _ HK1.out.below).mono ?_
 rintro en W2 ⟨x, rfl, hx, hb2⟩
 obtain ⟨xp, xn, xc, xm, xd, xp2, xn2, xc2, xb, rfl⟩ := HC.out.sx _ _ hx
 have HK2 := Lib.hid (HK1.out.step hb2)
 have hm3 := B5.made (W := W2) (.slice xp xn xc) (.int .i64 xm) (.int .i64 xd) (.slice xp2 xn2 xc2) (.bool xb) 28
 obtain ⟨X, hX⟩ : ∃ X, X = W2.heap.size := ⟨_, rfl⟩
 have hal3 : Below W2.heap.size W2 (W2.alloc (Obj.cells #[.slice xp xn xc, .int .i64 xm, .int .i64 xd, .slice xp2 xn2 xc2, .bool xb] 28)) := (Below.refl _ _).alloc (Nat.le_refl _) _
 have HX3 := Lib.hid (HC.out.bx _ _ _ hx hal3)
 have HK3 := Lib.hid (HK2.out.step hal3)
 clear hx hb2 c0 c1 c2 c3 c4 hal3
 go_upto_region 10 with fail
 rw [← hX] at hm3 ⊢
 have HM3 := Lib.hid hm3
 clear hX hm3
 generalize W2.alloc (Obj.cells #[.slice xp xn xc, .int .i64 xm, .int .i64 xd, .slice xp2 xn2 xc2, .bool xb] 28) = W3 at *
 obtain ⟨c0, c1, c2, c3, c4⟩ := HK3.out.b.cells
 go_wp2_with fail
 refine (HBB.out _ HK3.out.below).mono ?_
 rintro en W4 ⟨y, rfl, hy, hb4⟩
 obtain ⟨yp, yn, yc, ym, yd, yp2, yn2, yc2, yb, rfl⟩ := HC.out.sy _ _ hy
 have HK4 := Lib.hid (HK3.out.step hb4)
 have HX4 := Lib.hid (HC.out.bx _ _ _ HX3.out hb4)
 have hm5 := B5.made (W := W4) (.slice yp yn yc) (.int .i64 ym) (.int .i64 yd) (.slice yp2 yn2 yc2) (.bool yb) 46
 obtain ⟨Y, hY⟩ : ∃ Y, Y = W4.heap.size := ⟨_, rfl⟩
 have hal5 : Below W4.heap.size W4 (W4.alloc (Obj.cells #[.slice yp yn yc, .int .i64 ym, .int .i64 yd, .slice yp2 yn2 yc2, .bool yb] 46)) := (Below.refl _ _).alloc (Nat.le_refl _) _
 have HY5 := Lib.hid (HC.out.bY _ _ _ hy hal5)
 have HX5 := Lib.hid (HC.out.bx _ _ _ HX4.out hal5)
 have HK5 := Lib.hid (HK4.out.step hal5)
 have HM5 := Lib.hid ((HM3.out.step hb4).step hal5)
 clear hy hb4 c0 c1 c2 c3 c4 hal5
 go_upto_region 11 with fail
 rw [← hY] at hm5 ⊢
 have HN5 := Lib.hid hm5
 clear hY hm5
 generalize W4.alloc (Obj.cells #[.slice yp yn yc, .int .i64 ym, .int .i64 yd, .slice yp2 yn2 yc2, .bool yb] 46) = W5 at *
 obtain ⟨a0, a1, a2, a3, a4⟩ := HK5.out.a.cells
 obtain ⟨b0, b1, b2, b3, b4⟩ := HK5.out.b.cells
 obtain ⟨c0, c1, c2, c3, c4⟩ := HM5.out.cells
 obtain ⟨d0, d1, d2, d3, d4⟩ := HN5.out.cells
 go_wp2_with fail
 refine (keep_any HAS.out HBS.out ⟨_, _, _, _, _, _, _, _, _, rfl⟩ ⟨_, _, _, _, _, _, _, _, _, rfl⟩ (fun W h => HC.out.al W _ _ (HC.out.bx _ _ _ HX5.out h) (HC.out.bY _ _ _ HY5.out h)) e).mono ?_
 rintro en W6 ⟨rfl, hb6⟩
 obtain ⟨up, un, uc, um, ud, up2, un2, uc2, ub, eu⟩ := pick_shape (e := e) (x := .agg #[.slice xp xn xc, .int .i64 xm, .int .i64 xd, .slice xp2 xn2 xc2, .bool xb]) (a := .agg #[.slice ap an ac, .int .i64 am, .int .i64 ad, .slice ap2 an2 ac2, .bool ab]) ⟨_, _, _, _, _, _, _, _, _, rfl⟩ HAS.out
 obtain ⟨vp, vn, vc, vm, vd, vp2, vn2, vc2, vb, ev⟩ := pick_shape (e := e) (x := .agg #[.slice yp yn yc, .int .i64 ym, .int .i64 yd, .slice yp2 yn2 yc2, .bool yb]) (a := .agg #[.slice bp bn bc, .int .i64 bm, .int .i64 bd, .slice bp2 bn2 bc2, .bool bb]) ⟨_, _, _, _, _, _, _, _, _, rfl⟩ HBS.out
 have HK6 := Lib.hid (HK5.out.step hb6)
 have HX6 := Lib.hid (HC.out.bx _ _ _ HX5.out hb6)
 have HY6 := Lib.hid (HC.out.bY _ _ _ HY5.out hb6)
 clear hb6 a0 a1 a2 a3 a4 b0 b1 b2 b3 b4 c0 c1 c2 c3 c4 d0 d1 d2 d3 d4
 have HEU := Lib.hid eu
 have HEV := Lib.hid ev
 rw [eu, ev]
 clear eu ev
 obtain ⟨z0, z1, z2, z3, z4⟩ := HK6.out.z.cells
 obtain ⟨y0, y1, y2, y3, y4⟩ := HK6.out.zz.cells
 obtain ⟨f0, f1, f2, f3, f4⟩ := HK6.out.z.frz
 obtain ⟨g0, g1, g2, g3, g4⟩ := HK6.out.zz.frz
 go_wp2_with fail
 obtain ⟨W7, hW7⟩ : ∃ W7, W7 = (((((W6.setCell ⟨w.heap.size + 1 + 1 + 1, 0, none⟩ (.slice up un uc)).setCell ⟨w.heap.size + 1 + 1 + 1, 1, none⟩ (.int .i64 um)).setCell ⟨w.heap.size + 1 + 1 + 1, 2, none⟩ (.int .i64 ud)).setCell ⟨w.heap.size + 1 + 1 + 1, 3, none⟩ (.slice up2 un2 uc2)).setCell ⟨w.heap.size + 1 + 1 + 1, 4, none⟩ (.bool ub)) := ⟨_, rfl⟩
 rw [← hW7]
 obtain ⟨W8, hW8⟩ : ∃ W8, W8 = (((((W7.setCell ⟨w.heap.size + 1 + 1 + 1 + 1, 0, none⟩ (.slice vp vn vc)).setCell ⟨w.heap.size + 1 + 1 + 1 + 1, 1, none⟩ (.int .i64 vm)).setCell ⟨w.heap.size + 1 + 1 + 1 + 1, 2, none⟩ (.int .i64 vd)).setCell ⟨w.heap.size + 1 + 1 + 1 + 1, 3, none⟩ (.slice vp2 vn2 vc2)).setCell ⟨w.heap.size + 1 + 1 + 1 + 1, 4, none⟩ (.bool vb)) := ⟨_, rfl⟩
 rw [← hW8]
 obtain ⟨p1, p2, p3⟩ := B5.put HK6.out.z hW7
 have hzz := p3 _ _ _ _ _ _ _ (by omega) HK6.out.zz
 obtain ⟨r1, r2, r3⟩ := B5.put hzz hW8
 have kp7 := Keeps.put (.inl rfl) HK6.out.z hW7
 have kp8 := Keeps.put (.inr rfl) hzz hW8
 have K1 := Lib.hid (r2 w.heap.size w (by omega) (p2 w.heap.size w (by omega) HK6.out.below))
 have HX8 := Lib.hid (HC.out.kx _ _ _ (HC.out.kx _ _ _ HX6.out kp7) kp8)
 have HY8 := Lib.hid (HC.out.ky _ _ _ (HC.out.ky _ _ _ HY6.out kp7) kp8)
 have p4 := r3 _ _ _ _ _ _ _ (by omega) p1
 clear z0 z1 z2 z3 z4 y0 y1 y2 y3 y4 f0 f1 f2 f3 f4 g0 g1 g2 g3 g4 hW7 hW8 kp7 kp8 hzz
 obtain ⟨c0, c1, c2, c3, c4⟩ := p4.cells
 obtain ⟨d0, d1, d2, d3, d4⟩ := r1.cells
 refine bodyPost_ret (v := .tuple #[.agg #[.slice up un uc, .int .i64 um, .int .i64 ud, .slice up2 un2 uc2, .bool ub], .agg #[.slice vp vn vc, .int .i64 vm, .int .i64 vd, .slice vp2 vn2 vc2, .bool vb], .bool true]) (by simp [results, Try.results17, go_sem, c0, c1, c2, c3, c4, d0, d1, d2, d3, d4]) rfl ⟨_, _, ?_, HX8.out, HY8.out, K1.out⟩
 rw [HEU.out, HEV.out]
set_option maxRecDepth 100000 in
set_option maxHeartbeats 16000000 in
theorem step_2 {RX RY : World → Value → Prop} (hc : Both RX RY) {a b : Value} {ki p v : Int} {w : World} (ha : Shape a) (hb : Shape b) (g1 : -128 ≤ ki) (g2 : ki ≤ 127) (g3 : -128 ≤ p) (g4 : p ≤ 127) (g5 : -128 ≤ v) (g6 : v ≤ 127) (hk : kindOf ki = 2)
  (n : Int) (ok : Bool) (e : Int)
  (hA : ∀ W, Below w.heap.size w W → Calls Try.prog 21 #[a] W fun en w' => ∃ x, en = .returned (.tuple #[x, .int .i64 n, .bool ok, .int .i64 e]) ∧ RX w' x ∧ Below W.heap.size W w')
  (hB : ∀ W, Below w.heap.size w W → Calls Try.prog 49 #[b] W fun en w' => ∃ x, en = .returned (.tuple #[x, .int .i64 n, .bool ok, .int .i64 e]) ∧ RY w' x ∧ Below W.heap.size W w') :
  Calls Try.prog 17 #[a, b, .agg #[.int .i8 ki, .int .i8 p, .int .i8 v]] w fun en w' => ∃ x y, en = .returned (.tuple #[pickS e x a, pickS e y b, .bool true]) ∧ RX w' x ∧ RY w' y ∧ Below w.heap.size w w' := by
 obtain ⟨ap, an, ac, am, ad, ap2, an2, ac2, ab, rfl⟩ := ha
 obtain ⟨bp, bn, bc, bm, bd, bp2, bn2, bc2, bb, rfl⟩ := hb
 have HC := Lib.hid hc
 have HAA := Lib.hid hA
 have HBB := Lib.hid hB
 have HAS : Hid (Shape (.agg #[.slice ap an ac, .int .i64 am, .int .i64 ad, .slice ap2 an2 ac2, .bool ab])) := ⟨_, _, _, _, _, _, _, _, _, rfl⟩
 have HBS : Hid (Shape (.agg #[.slice bp bn bc, .int .i64 bm, .int .i64 bd, .slice bp2 bn2 bc2, .bool bb])) := ⟨_, _, _, _, _, _, _, _, _, rfl⟩
 obtain ⟨r, kk, er, hr1, hr2, ek, hkk⟩ := kind_of ki g1 g2
 obtain rfl : kk = 2 := by
  unfold kindOf at hk
  rw [er, ek] at hk
  omega
 have f0 : wrap64 ki = ki := by unfold wrap64; omega
 have f1 : wrap64 p = p := by unfold wrap64; omega
 have f2 : wrap64 v = v := by unfold wrap64; omega
 have f0' : IntKind.i64.wrap ki = ki := (Go.IntWalk.i64_left _).trans f0
 have f1' : IntKind.i64.wrap p = p := (Go.IntWalk.i64_left _).trans f1
 have f2' : IntKind.i64.wrap v = v := (Go.IntWalk.i64_left _).trans f2
 have fr : wrap64 r = r := by unfold wrap64; omega
 have fr' : IntKind.i64.wrap r = r := (Go.IntWalk.i64_left _).trans fr
 have fs : wrap64 (r + 6) = r + 6 := by unfold wrap64; omega
 have fs' : IntKind.i64.wrap (r + 6) = r + 6 := (Go.IntWalk.i64_left _).trans fs
 clear hc hA hB hk g1 g2 g3 g4 g5 g6 hr1 hr2 hkk
 have HK : Hid (SK w (.slice ap an ac) (.int .i64 am) (.int .i64 ad) (.slice ap2 an2 ac2) (.bool ab) (.slice bp bn bc) (.int .i64 bm) (.int .i64 bd) (.slice bp2 bn2 bc2) (.bool bb) ki p v _) := SK.mk' w _ _ _ _ _ _ _ _ _ _ ki p v
 go_enter Try.func17, Try.ntmps17
 go_upto_region 1 with fail
 generalize (((((w.alloc (Obj.cells #[.slice ap an ac, .int .i64 am, .int .i64 ad, .slice ap2 an2 ac2, .bool ab] 28)).alloc (Obj.cells #[.slice bp bn bc, .int .i64 bm, .int .i64 bd, .slice bp2 bn2 bc2, .bool bb] 46)).alloc (Obj.cells #[.int .i8 ki, .int .i8 p, .int .i8 v] 51)).alloc (Obj.cells #[.slice none 0 0, .int .i64 0, .int .i64 0, .slice none 0 0, .bool false] 28)).alloc (Obj.cells #[.slice none 0 0, .int .i64 0, .int .i64 0, .slice none 0 0, .bool false] 46)) = W0 at *
 obtain ⟨o0, o1, o2⟩ := HK.out.ocells
 go_quiet (fail)
 go_upto_region 13 with fail
 have HK1 := Lib.hid (HK.out.step (below_drewN (Below.refl _ _) nq))
 generalize W0.drewN nq = W1 at *
 clear o0 o1 o2 f0 f0' fr fr' fs fs' er ek f1 f1' f2 f2'
 obtain ⟨c0, c1, c2, c3, c4⟩ := HK1.out.a.cells
 go_wp2_with fail
 refine (HAA.out _ HK1.out.below).mono ?_
 rintro en W2 ⟨x, rfl, hx, hb2⟩
 obtain ⟨xp, xn, xc, xm, xd, xp2, xn2, xc2, xb, rfl⟩ := HC.out.sx _ _ hx
 have HK2 := Lib.hid (HK1.out.step hb2)
 have hm3 := B5.made (W := W2) (.slice xp xn xc) (.int .i64 xm) (.int .i64 xd) (.slice xp2 xn2 xc2) (.bool xb) 28
 obtain ⟨X, hX⟩ : ∃ X, X = W2.heap.size := ⟨_, rfl⟩
 have hal3 : Below W2.heap.size W2 (W2.alloc (Obj.cells #[.slice xp xn xc, .int .i64 xm, .int .i64 xd, .slice xp2 xn2 xc2, .bool xb] 28)) := (Below.refl _ _).alloc (Nat.le_refl _) _
 have HX3 := Lib.hid (HC.out.bx _ _ _ hx hal3)
 have HK3 := Lib.hid (HK2.out.step hal3)
 clear hx hb2 c0 c1 c2 c3 c4 hal3
 go_upto_region 14 with fail
 rw [← hX] at hm3 ⊢
 have HM3 := Lib.hid hm3
 clear hX hm3
 generalize W2.alloc (Obj.cells #[.slice xp xn xc, .int .i64 xm, .int .i64 xd, .slice xp2 xn2 xc2, .bool xb] 28) = W3 at *
 obtain ⟨c0, c1, c2, c3, c4⟩ := HK3.out.b.cells
 go_wp2_with fail
 refine (HBB.out _ HK3.out.below).mono ?_
 rintro en W4 ⟨y, rfl, hy, hb4⟩
 obtain ⟨yp, yn, yc, ym, yd, yp2, yn2, yc2, yb, rfl⟩ := HC.out.sy _ _ hy
 have HK4 := Lib.hid (HK3.out.step hb4)
 have HX4 := Lib.hid (HC.out.bx _ _ _ HX3.out hb4)
 have hm5 := B5.made (W := W4) (.slice yp yn yc) (.int .i64 ym) (.int .i64 yd) (.slice yp2 yn2 yc2) (.bool yb) 46
 obtain ⟨Y, hY⟩ : ∃ Y, Y = W4.heap.size := ⟨_, rfl⟩
 have hal5 : Below W4.heap.size W4 (W4.alloc (Obj.cells #[.slice yp yn yc, .int .i64 ym, .int .i64 yd, .slice yp2 yn2 yc2, .bool yb] 46)) := (Below.refl _ _).alloc (Nat.le_refl _) _
 have HY5 := Lib.hid (HC.out.bY _ _ _ hy hal5)
 have HX5 := Lib.hid (HC.out.bx _ _ _ HX4.out hal5)
 have HK5 := Lib.hid (HK4.out.step hal5)
 have HM5 := Lib.hid ((HM3.out.step hb4).step hal5)
 clear hy hb4 c0 c1 c2 c3 c4 hal5
 go_upto_region 15 with fail
 rw [← hY] at hm5 ⊢
 have HN5 := Lib.hid hm5
 clear hY hm5
 generalize W4.alloc (Obj.cells #[.slice yp yn yc, .int .i64 ym, .int .i64 yd, .slice yp2 yn2 yc2, .bool yb] 46) = W5 at *
 obtain ⟨a0, a1, a2, a3, a4⟩ := HK5.out.a.cells
 obtain ⟨b0, b1, b2, b3, b4⟩ := HK5.out.b.cells
 obtain ⟨c0, c1, c2, c3, c4⟩ := HM5.out.cells
 obtain ⟨d0, d1, d2, d3, d4⟩ := HN5.out.cells
 go_wp2_with fail
 refine (keep_any HAS.out HBS.out ⟨_, _, _, _, _, _, _, _, _, rfl⟩ ⟨_, _, _, _, _, _, _, _, _, rfl⟩ (fun W h => HC.out.al W _ _ (HC.out.bx _ _ _ HX5.out h) (HC.out.bY _ _ _ HY5.out h)) e).mono ?_
 rintro en W6 ⟨rfl, hb6⟩
 obtain ⟨up, un, uc, um, ud, up2, un2, uc2, ub, eu⟩ := pick_shape (e := e) (x := .agg #[.slice xp xn xc, .int .i64 xm, .int .i64 xd, .slice xp2 xn2 xc2, .bool xb]) (a := .agg #[.slice ap an ac, .int .i64 am, .int .i64 ad, .slice ap2 an2 ac2, .bool ab]) ⟨_, _, _, _, _, _, _, _, _, rfl⟩ HAS.out
 obtain ⟨vp, vn, vc, vm, vd, vp2, vn2, vc2, vb, ev⟩ := pick_shape (e := e) (x := .agg #[.slice yp yn yc, .int .i64 ym, .int .i64 yd, .slice yp2 yn2 yc2, .bool yb]) (a := .agg #[.slice bp bn bc, .int .i64 bm, .int .i64 bd, .slice bp2 bn2 bc2, .bool bb]) ⟨_, _, _, _, _, _, _, _, _, rfl⟩ HBS.out
 have HK6 := Lib.hid (HK5.out.step hb6)
 have HX6 := Lib.hid (HC.out.bx _ _ _ HX5.out hb6)
 have HY6 := Lib.hid (HC.out.bY _ _ _ HY5.out hb6)
 clear hb6 a0 a1 a2 a3 a4 b0 b1 b2 b3 b4 c0 c1 c2 c3 c4 d0 d1 d2 d3 d4
 have HEU := Lib.hid eu
 have HEV := Lib.hid ev
 rw [eu, ev]
 clear eu ev
 obtain ⟨z0, z1, z2, z3, z4⟩ := HK6.out.z.cells
 obtain ⟨y0, y1, y2, y3, y4⟩ := HK6.out.zz.cells
 obtain ⟨f0, f1, f2, f3, f4⟩ := HK6.out.z.frz
 obtain ⟨g0, g1, g2, g3, g4⟩ := HK6.out.zz.frz
 go_wp2_with fail
 obtain ⟨W7, hW7⟩ : ∃ W7, W7 = (((((W6.setCell ⟨w.heap.size + 1 + 1 + 1, 0, none⟩ (.slice up un uc)).setCell ⟨w.heap.size + 1 + 1 + 1, 1, none⟩ (.int .i64 um)).setCell ⟨w.heap.size + 1 + 1 + 1, 2, none⟩ (.int .i64 ud)).setCell ⟨w.heap.size + 1 + 1 + 1, 3, none⟩ (.slice up2 un2 uc2)).setCell ⟨w.heap.size + 1 + 1 + 1, 4, none⟩ (.bool ub)) := ⟨_, rfl⟩
 rw [← hW7]
 obtain ⟨W8, hW8⟩ : ∃ W8, W8 = (((((W7.setCell ⟨w.heap.size + 1 + 1 + 1 + 1, 0, none⟩ (.slice vp vn vc)).setCell ⟨w.heap.size + 1 + 1 + 1 + 1, 1, none⟩ (.int .i64 vm)).setCell ⟨w.heap.size + 1 + 1 + 1 + 1, 2, none⟩ (.int .i64 vd)).setCell ⟨w.heap.size + 1 + 1 + 1 + 1, 3, none⟩ (.slice vp2 vn2 vc2)).setCell ⟨w.heap.size + 1 + 1 + 1 + 1, 4, none⟩ (.bool vb)) := ⟨_, rfl⟩
 rw [← hW8]
 obtain ⟨p1, p2, p3⟩ := B5.put HK6.out.z hW7
 have hzz := p3 _ _ _ _ _ _ _ (by omega) HK6.out.zz
 obtain ⟨r1, r2, r3⟩ := B5.put hzz hW8
 have kp7 := Keeps.put (.inl rfl) HK6.out.z hW7
 have kp8 := Keeps.put (.inr rfl) hzz hW8
 have K1 := Lib.hid (r2 w.heap.size w (by omega) (p2 w.heap.size w (by omega) HK6.out.below))
 have HX8 := Lib.hid (HC.out.kx _ _ _ (HC.out.kx _ _ _ HX6.out kp7) kp8)
 have HY8 := Lib.hid (HC.out.ky _ _ _ (HC.out.ky _ _ _ HY6.out kp7) kp8)
 have p4 := r3 _ _ _ _ _ _ _ (by omega) p1
 clear z0 z1 z2 z3 z4 y0 y1 y2 y3 y4 f0 f1 f2 f3 f4 g0 g1 g2 g3 g4 hW7 hW8 kp7 kp8 hzz
 obtain ⟨c0, c1, c2, c3, c4⟩ := p4.cells
 obtain ⟨d0, d1, d2, d3, d4⟩ := r1.cells
 refine bodyPost_ret (v := .tuple #[.agg #[.slice up un uc, .int .i64 um, .int .i64 ud, .slice up2 un2 uc2, .bool ub], .agg #[.slice vp vn vc, .int .i64 vm, .int .i64 vd, .slice vp2 vn2 vc2, .bool vb], .bool true]) (by simp [results, Try.results17, go_sem, c0, c1, c2, c3, c4, d0, d1, d2, d3, d4]) rfl ⟨_, _, ?_, HX8.out, HY8.out, K1.out⟩
 rw [HEU.out, HEV.out]
set_option maxRecDepth 100000 in
set_option maxHeartbeats 16000000 in
theorem step_4 {RX RY : World → Value → Prop} (hc : Both RX RY) {a b : Value} {ki p v : Int} {w : World} (ha : Shape a) (hb : Shape b) (g1 : -128 ≤ ki) (g2 : ki ≤ 127) (g3 : -128 ≤ p) (g4 : p ≤ 127) (g5 : -128 ≤ v) (g6 : v ≤ 127) (hk : kindOf ki = 4)
  (ok : Bool) (e : Int)
  (hA : ∀ W, Below w.heap.size w W → Calls Try.prog 13 #[a] W fun en w' => ∃ x, en = .returned (.tuple #[x, .bool ok, .int .i64 e]) ∧ RX w' x ∧ Below W.heap.size W w')
  (hB : ∀ W, Below w.heap.size w W → Calls Try.prog 51 #[b] W fun en w' => ∃ x, en = .returned (.tuple #[x, .bool ok, .int .i64 e]) ∧ RY w' x ∧ Below W.heap.size W w') :
  Calls Try.prog 17 #[a, b, .agg #[.int .i8 ki, .int .i8 p, .int .i8 v]] w fun en w' => ∃ x y, en = .returned (.tuple #[pickS e x a, pickS e y b, .bool true]) ∧ RX w' x ∧ RY w' y ∧ Below w.heap.size w w' := by
 obtain ⟨ap, an, ac, am, ad, ap2, an2, ac2, ab, rfl⟩ := ha
 obtain ⟨bp, bn, bc, bm, bd, bp2, bn2, bc2, bb, rfl⟩ := hb
 have HC := Lib.hid hc
 have HAA := Lib.hid hA
 have HBB := Lib.hid hB
 have HAS : Hid (Shape (.agg #[.slice ap an ac, .int .i64 am, .int .i64 ad, .slice ap2 an2 ac2, .bool ab])) := ⟨_, _, _, _, _, _, _, _, _, rfl⟩
 have HBS : Hid (Shape (.agg #[.slice bp bn bc, .int .i64 bm, .int .i64 bd, .slice bp2 bn2 bc2, .bool bb])) := ⟨_, _, _, _, _, _, _, _, _, rfl⟩
 obtain ⟨r, kk, er, hr1, hr2, ek, hkk⟩ := kind_of ki g1 g2
 obtain rfl : kk = 4 := by
  unfold kindOf at hk
  rw [er, ek] at hk
  omega
 have f0 : wrap64 ki = ki := by unfold wrap64; omega
 have f1 : wrap64 p = p := by unfold wrap64; omega
 have f2 : wrap64 v = v := by unfold wrap64; omega
 have f0' : IntKind.i64.wrap ki = ki := (Go.IntWalk.i64_left _).trans f0
 have f1' : IntKind.i64.wrap p = p := (Go.IntWalk.i64_left _).trans f1
 have f2' : IntKind.i64.wrap v = v := (Go.IntWalk.i64_left _).trans f2
 have fr : wrap64 r = r := by unfold wrap64; omega
 have fr' : IntKind.i64.wrap r = r := (Go.IntWalk.i64_left _).trans fr
 have fs : wrap64 (r + 6) = r + 6 := by unfold wrap64; omega
 have fs' : IntKind.i64.wrap (r + 6) = r + 6 := (Go.IntWalk.i64_left _).trans fs
 clear hc hA hB hk g1 g2 g3 g4 g5 g6 hr1 hr2 hkk
 have HK : Hid (SK w (.slice ap an ac) (.int .i64 am) (.int .i64 ad) (.slice ap2 an2 ac2) (.bool ab) (.slice bp bn bc) (.int .i64 bm) (.int .i64 bd) (.slice bp2 bn2 bc2) (.bool bb) ki p v _) := SK.mk' w _ _ _ _ _ _ _ _ _ _ ki p v
 go_enter Try.func17, Try.ntmps17
 go_upto_region 1 with fail
 generalize (((((w.alloc (Obj.cells #[.slice ap an ac, .int .i64 am, .int .i64 ad, .slice ap2 an2 ac2, .bool ab] 28)).alloc (Obj.cells #[.slice bp bn bc, .int .i64 bm, .int .i64 bd, .slice bp2 bn2 bc2, .bool bb] 46)).alloc (Obj.cells #[.int .i8 ki, .int .i8 p, .int .i8 v] 51)).alloc (Obj.cells #[.slice none 0 0, .int .i64 0, .int .i64 0, .slice none 0 0, .bool false] 28)).alloc (Obj.cells #[.slice none 0 0, .int .i64 0, .int .i64 0, .slice none 0 0, .bool false] 46)) = W0 at *
 obtain ⟨o0, o1, o2⟩ := HK.out.ocells
 go_quiet (fail)
 go_upto_region 21 with fail
 have HK1 := Lib.hid (HK.out.step (below_drewN (Below.refl _ _) nq))
 generalize W0.drewN nq = W1 at *
 clear o0 o1 o2 f0 f0' fr fr' fs fs' er ek f1 f1' f2 f2'
 obtain ⟨c0, c1, c2, c3, c4⟩ := HK1.out.a.cells
 go_wp2_with fail
 refine (HAA.out _ HK1.out.below).mono ?_
 rintro en W2 ⟨x, rfl, hx, hb2⟩
 obtain ⟨xp, xn, xc, xm, xd, xp2, xn2, xc2, xb, rfl⟩ := HC.out.sx _ _ hx
 have HK2 := Lib.hid (HK1.out.step hb2)
 have hm3 := B5.made (W := W2) (.slice xp xn xc) (.int .i64 xm) (.int .i64 xd) (.slice xp2 xn2 xc2) (.bool xb) 28
 obtain ⟨X, hX⟩ : ∃ X, X = W2.heap.size := ⟨_, rfl⟩
 have hal3 : Below W2.heap.size W2 (W2.alloc (Obj.cells #[.slice xp xn xc, .int .i64 xm, .int .i64 xd, .slice xp2 xn2 xc2, .bool xb] 28)) := (Below.refl _ _).alloc (Nat.le_refl _) _
 have HX3 := Lib.hid (HC.out.bx _ _ _ hx hal3)
 have HK3 := Lib.hid (HK2.out.step hal3)
 clear hx hb2 c0 c1 c2 c3 c4 hal3
 go_upto_region 22 with fail
 rw [← hX] at hm3 ⊢
 have HM3 := Lib.hid hm3
 clear hX hm3
 generalize W2.alloc (Obj.cells #[.slice xp xn xc, .int .i64 xm, .int .i64 xd, .slice xp2 xn2 xc2, .bool xb] 28) = W3 at *
 obtain ⟨c0, c1, c2, c3, c4⟩ := HK3.out.b.cells
 go_wp2_with fail
 refine (HBB.out _ HK3.out.below).mono ?_
 rintro en W4 ⟨y, rfl, hy, hb4⟩
 obtain ⟨yp, yn, yc, ym, yd, yp2, yn2, yc2, yb, rfl⟩ := HC.out.sy _ _ hy
 have HK4 := Lib.hid (HK3.out.step hb4)
 have HX4 := Lib.hid (HC.out.bx _ _ _ HX3.out hb4)
 have hm5 := B5.made (W := W4) (.slice yp yn yc) (.int .i64 ym) (.int .i64 yd) (.slice yp2 yn2 yc2) (.bool yb) 46
 obtain ⟨Y, hY⟩ : ∃ Y, Y = W4.heap.size := ⟨_, rfl⟩
 have hal5 : Below W4.heap.size W4 (W4.alloc (Obj.cells #[.slice yp yn yc, .int .i64 ym, .int .i64 yd, .slice yp2 yn2 yc2, .bool yb] 46)) := (Below.refl _ _).alloc (Nat.le_refl _) _
 have HY5 := Lib.hid (HC.out.bY _ _ _ hy hal5)
 have HX5 := Lib.hid (HC.out.bx _ _ _ HX4.out hal5)
 have HK5 := Lib.hid (HK4.out.step hal5)
 have HM5 := Lib.hid ((HM3.out.step hb4).step hal5)
 clear hy hb4 c0 c1 c2 c3 c4 hal5
 go_upto_region 23 with fail
 rw [← hY] at hm5 ⊢
 have HN5 := Lib.hid hm5
 clear hY hm5
 generalize W4.alloc (Obj.cells #[.slice yp yn yc, .int .i64 ym, .int .i64 yd, .slice yp2 yn2 yc2, .bool yb] 46) = W5 at *
 obtain ⟨a0, a1, a2, a3, a4⟩ := HK5.out.a.cells
 obtain ⟨b0, b1, b2, b3, b4⟩ := HK5.out.b.cells
 obtain ⟨c0, c1, c2, c3, c4⟩ := HM5.out.cells
 obtain ⟨d0, d1, d2, d3, d4⟩ := HN5.out.cells
 go_wp2_with fail
 refine (keep_any HAS.out HBS.out ⟨_, _, _, _, _, _, _, _, _, rfl⟩ ⟨_, _, _, _, _, _, _, _, _, rfl⟩ (fun W h => HC.out.al W _ _ (HC.out.bx _ _ _ HX5.out h) (HC.out.bY _ _ _ HY5.out h)) e).mono ?_
 rintro en W6 ⟨rfl, hb6⟩
 obtain ⟨up, un, uc, um, ud, up2, un2, uc2, ub, eu⟩ := pick_shape (e := e) (x := .agg #[.slice xp xn xc, .int .i64 xm, .int .i64 xd, .slice xp2 xn2 xc2, .bool xb]) (a := .agg #[.slice ap an ac, .int .i64 am, .int .i64 ad, .slice ap2 an2 ac2, .bool ab]) ⟨_, _, _, _, _, _, _, _, _, rfl⟩ HAS.out
 obtain ⟨vp, vn, vc, vm, vd, vp2, vn2, vc2, vb, ev⟩ := pick_shape (e := e) (x := .agg #[.slice yp yn yc, .int .i64 ym, .int .i64 yd, .slice yp2 yn2 yc2, .bool yb]) (a := .agg #[.slice bp bn bc, .int .i64 bm, .int .i64 bd, .slice bp2 bn2 bc2, .bool bb]) ⟨_, _, _, _, _, _, _, _, _, rfl⟩ HBS.out
 have HK6 := Lib.hid (HK5.out.step hb6)
 have HX6 := Lib.hid (HC.out.bx _ _ _ HX5.out hb6)
 have HY6 := Lib.hid (HC.out.bY _ _ _ HY5.out hb6)
 clear hb6 a0 a1 a2 a3 a4 b0 b1 b2 b3 b4 c0 c1 c2 c3 c4 d0 d1 d2 d3 d4
 have HEU := Lib.hid eu
 have HEV := Lib.hid ev
 rw [eu, ev]
 clear eu ev
 obtain ⟨z0, z1, z2, z3, z4⟩ := HK6.out.z.cells
 obtain ⟨y0, y1, y2, y3, y4⟩ := HK6.out.zz.cells
 obtain ⟨f0, f1, f2, f3, f4⟩ := HK6.out.z.frz
 obtain ⟨g0, g1, g2, g3, g4⟩ := HK6.out.zz.frz
 go_wp2_with fail
 obtain ⟨W7, hW7⟩ : ∃ W7, W7 = (((((W6.setCell ⟨w.heap.size + 1 + 1 + 1, 0, none⟩ (.slice up un uc)).setCell ⟨w.heap.size + 1 + 1 + 1, 1, none⟩ (.int .i64 um)).setCell ⟨w.heap.size + 1 + 1 + 1, 2, none⟩ (.int .i64 ud)).setCell ⟨w.heap.size + 1 + 1 + 1, 3, none⟩ (.slice up2 un2 uc2)).setCell ⟨w.heap.size + 1 + 1 + 1, 4, none⟩ (.bool ub)) := ⟨_, rfl⟩
 rw [← hW7]
 obtain ⟨W8, hW8⟩ : ∃ W8, W8 = (((((W7.setCell ⟨w.heap.size + 1 + 1 + 1 + 1, 0, none⟩ (.slice vp vn vc)).setCell ⟨w.heap.size + 1 + 1 + 1 + 1, 1, none⟩ (.int .i64 vm)).setCell ⟨w.heap.size + 1 + 1 + 1 + 1, 2, none⟩ (.int .i64 vd)).setCell ⟨w.heap.size + 1 + 1 + 1 + 1, 3, none⟩ (.slice vp2 vn2 vc2)).setCell ⟨w.heap.size + 1 + 1 + 1 + 1, 4, none⟩ (.bool vb)) := ⟨_, rfl⟩
 rw [← hW8]
 obtain ⟨p1, p2, p3⟩ := B5.put HK6.out.z hW7
 have hzz := p3 _ _ _ _ _ _ _ (by omega) HK6.out.zz
 obtain ⟨r1, r2, r3⟩ := B5.put hzz hW8
 have kp7 := Keeps.put (.inl rfl) HK6.out.z hW7
 have kp8 := Keeps.put (.inr rfl) hzz hW8
 have K1 := Lib.hid (r2 w.heap.size w (by omega) (p2 w.heap.size w (by omega) HK6.out.below))
 have HX8 := Lib.hid (HC.out.kx _ _ _ (HC.out.kx _ _ _ HX6.out kp7) kp8)
 have HY8 := Lib.hid (HC.out.ky _ _ _ (HC.out.ky _ _ _ HY6.out kp7) kp8)
 have p4 := r3 _ _ _ _ _ _ _ (by omega) p1
 clear z0 z1 z2 z3 z4 y0 y1 y2 y3 y4 f0 f1 f2 f3 f4 g0 g1 g2 g3 g4 hW7 hW8 kp7 kp8 hzz
 obtain ⟨c0, c1, c2, c3, c4⟩ := p4.cells
 obtain ⟨d0, d1, d2, d3, d4⟩ := r1.cells
 refine bodyPost_ret (v := .tuple #[.agg #[.slice up un uc, .int .i64 um, .int .i64 ud, .slice up2 un2 uc2, .bool ub], .agg #[.slice vp vn vc, .int .i64 vm, .int .i64 vd, .slice vp2 vn2 vc2, .bool vb], .bool true]) (by simp [results, Try.results17, go_sem, c0, c1, c2, c3, c4, d0, d1, d2, d3, d4]) rfl ⟨_, _, ?_, HX8.out, HY8.out, K1.out⟩
 rw [HEU.out, HEV.out]
end Go.Proofs.Ytgbafpjeapkklaa.Mb
