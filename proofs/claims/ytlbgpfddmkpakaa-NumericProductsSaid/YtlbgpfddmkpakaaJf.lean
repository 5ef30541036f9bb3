/- Numeric: the program's Polynomial. -/
import Derived.Test.YtlbgpfddmkpakaaJe
namespace Go.Proofs.Ytlbgpfddmkpakaa.Nu
open Go.RowKit Go.Shelf
set_option linter.unusedVariables false
set_option linter.unusedSimpArgs false

/-- The sum behind some rounds. -/
def hb (x s0 : Nat × Nat) (pre : List (Nat × (Nat × Nat))) : Nat × Nat := pre.foldl (fun s y => addc y.2 (mulc x s)) s0
theorem hb_snoc (x s0 : Nat × Nat) (pre : List (Nat × (Nat × Nat))) (y : Nat × (Nat × Nat)) : hb x s0 (pre ++ [y]) = addc y.2 (mulc x (hb x s0 pre)) := by unfold hb; rw [List.foldl_append]; rfl
theorem hb_upto (x : Nat × Nat) (cs : List (Nat × Nat)) {M : Nat} (hM : M + 1 = cs.length) : ∀ k, k ≤ M → hb x (cc (el cs M).1, cc (el cs M).2) (upto (bk (cs.take M)) k) = ho x (cs.drop (M - k))
  | 0, _ => by rw [Nat.sub_zero, ho_last x cs hM]; rfl
  | k + 1, h => by
    have hl : (cs.take M).length = M := by rw [List.length_take]; omega
    rw [upto_succ, hb_snoc, hb_upto x cs hM k (by omega), ho_step x cs (j := M - (k + 1)) (by omega), show M - (k + 1) + 1 = M - k by omega]
    unfold bk
    rw [hl, show M - 1 - k = M - (k + 1) by omega]
    have : el (cs.take M) (M - (k + 1)) = el cs (M - (k + 1)) := by
      unfold el
      rw [List.getD_eq_getElem?_getD, List.getD_eq_getElem?_getD, List.getElem?_take_of_lt (by omega)]
    rw [this]
/-- The world within the drawn region of a round. -/
structure QI (w W : World) (S : Nat) (x s c : Nat × Nat) (d : Nat → Bool) (y0 y1 y2 y3 y4 : Value) (Wx : World) : Prop where
  bu : Bq W.heap.size S W Wx
  below : Below w.heap.size w Wx
  pS : Pt Wx S 26 (if d 5 then addc c (mulc x s) else s)
  d0 : d 0 = true → y0 = num c
  d1 : d 1 = true → y1 = num x
  d2 : d 2 = true → y2 = num s
  d3 : d 3 = true → y3 = num (mulc x s)
  d4 : d 4 = true → y4 = num (addc c (mulc x s))
  k3 : d 3 = true → d 2 = true
  k4 : d 4 = true → d 3 = true
  k5 : d 5 = true → d 4 = true
theorem Pt.bq {W Wx : World} {S X : Nat} {t : TypeId} {p : Nat × Nat} (h : Pt W X t p) (b : Bq W.heap.size S W Wx) (hne : X ≠ S) : Pt Wx X t p := (b.same X (blk_lt h) hne).trans h
theorem QI.start {w W : World} {S : Nat} {x s c : Nat × Nat} {d : Nat → Bool} (hd : ∀ i, i < 6 → d i = false) (hB : Below w.heap.size w W) (hS : Pt W S 26 s) : QI w W S x s c d undef undef undef undef undef W.drew := by
  have z : ∀ {i : Nat} {P : Prop}, i < 6 → d i = true → P := fun h h' => by rw [hd _ h] at h'; cases h'
  exact ⟨Bq.below (Below.refl _ _).drew, hB.drew, by rw [hd 5 (by omega)]; exact B2.step hS (Below.refl _ _).drew, z (by omega), z (by omega), z (by omega), z (by omega), z (by omega), z (by omega), z (by omega), z (by omega)⟩
section
variable {w W Wx Wn : World} {S : Nat} {x s c : Nat × Nat} {d : Nat → Bool} {y0 y1 y2 y3 y4 : Value}
theorem QI.walk (h : QI w W S x s c d y0 y1 y2 y3 y4 Wx) (hb : Below Wx.heap.size Wx Wn) : QI w W S x s c d y0 y1 y2 y3 y4 Wn :=
  { h with bu := h.bu.trans (Bq.below (hb.mono h.bu.size)), below := h.below.trans (hb.mono h.below.size), pS := B2.step h.pS hb }
theorem QI.s0 (h : QI w W S x s c d y0 y1 y2 y3 y4 Wx) : QI w W S x s c (fun j => j == 0 || d j) (num c) y1 y2 y3 y4 Wx :=
  ⟨h.bu, h.below, h.pS, fun _ => rfl, h.d1, h.d2, h.d3, h.d4, h.k3, h.k4, h.k5⟩
theorem QI.s1 (h : QI w W S x s c d y0 y1 y2 y3 y4 Wx) : QI w W S x s c (fun j => j == 1 || d j) y0 (num x) y2 y3 y4 Wx :=
  ⟨h.bu, h.below, h.pS, h.d0, fun _ => rfl, h.d2, h.d3, h.d4, h.k3, h.k4, h.k5⟩
theorem QI.s2 (h : QI w W S x s c d y0 y1 y2 y3 y4 Wx) : QI w W S x s c (fun j => j == 2 || d j) y0 y1 (num s) y3 y4 Wx :=
  ⟨h.bu, h.below, h.pS, h.d0, h.d1, fun _ => rfl, h.d3, h.d4, fun _ => rfl, h.k4, h.k5⟩
theorem QI.s3 (h : QI w W S x s c d y0 y1 y2 y3 y4 Wx) (h2 : d 2 = true) : QI w W S x s c (fun j => j == 3 || d j) y0 y1 y2 (num (mulc x s)) y4 Wx :=
  ⟨h.bu, h.below, h.pS, h.d0, h.d1, h.d2, fun _ => rfl, h.d4, fun _ => h2, fun _ => rfl, h.k5⟩
theorem QI.s4 (h : QI w W S x s c d y0 y1 y2 y3 y4 Wx) (h3 : d 3 = true) : QI w W S x s c (fun j => j == 4 || d j) y0 y1 y2 y3 (num (addc c (mulc x s))) Wx :=
  ⟨h.bu, h.below, h.pS, h.d0, h.d1, h.d2, h.d3, fun _ => rfl, h.k3, fun _ => h3, fun _ => rfl⟩
theorem QI.s5 (h : QI w W S x s c d y0 y1 y2 y3 y4 Wx) (h4 : d 4 = true) (hS : w.heap.size ≤ S) {a b : Nat} (hab : (a, b) = addc c (mulc x s)) (hW : Wn = (Wx.setCell ⟨S, 0, none⟩ (.int .u32 a)).setCell ⟨S, 1, none⟩ (.int .u32 b)) : QI w W S x s c (fun j => j == 5 || d j) y0 y1 y2 y3 y4 Wn := by
  obtain ⟨e1, e2, _⟩ := B2.put h.pS hW
  refine ⟨h.bu.trans (by rw [hW]; exact Bq.set _ _ _ _ _), e2 _ _ hS h.below, ?_, h.d0, h.d1, h.d2, h.d3, h.d4, h.k3, h.k4, fun _ => h4⟩
  show Pt Wn S 26 (if true = true then _ else _)
  rw [if_pos rfl, ← hab]
  exact e1
theorem pt_own {A B : World} {K : Nat} {t : TypeId} {p : Nat × Nat} {row : Option Nat} (h : Pt A K t p) (hg : A.grownBy B row) (hr : ∀ r, row = some r → ∃ o : Obj, A.heap[r]? = some o ∧ o.isCells = false) : Pt B K t p := b2_own (β := Unit) K t _ _ () A B row h hg hr
end
set_option maxRecDepth 100000 in
theorem back57_at (p : Option Addr) (n cap : Nat) (w : World) : Calls Try.prog 57 #[.slice p n cap] w fun e w' => e = .returned (.func (.func 65) #[] #[.pointer (some ⟨w.heap.size, 0, none⟩)]) ∧ w' = w.alloc (Obj.cells #[.slice p n cap] 39) := by
  go_enter Try.func57, Try.ntmps57
  go_wp2_with fail
  go_ret
  exact ⟨rfl, rfl⟩
section
attribute [local go_sem] Oper.semAt_some
set_option maxRecDepth 100000 in
set_option maxHeartbeats 8000000 in
theorem ppoly_at (v : Value) (cs : List (Nat × Nat)) (x0 x1 : Nat) (w : World) (hr : Row w v cs) (hne : cs ≠ []) (h70 : cs.length ≤ 1000) :
    Calls Try.prog 28 #[v, .agg #[.int .u32 x0, .int .u32 x1]] w fun e w' => ∃ a b : Nat, e = .returned (.agg #[.int .u32 a, .int .u32 b]) ∧ (a, b) = ho (x0, x1) cs ∧ Below w.heap.size w w' := by
  obtain ⟨g, off, cap, rfl, hcap, hrd⟩ := hr.rd hne
  have R1 := Lib.hid hrd
  obtain ⟨M, hM⟩ : ∃ M, M + 1 = cs.length := ⟨cs.length - 1, by have := List.length_pos_iff.2 hne; omega⟩
  obtain ⟨n, hn⟩ : ∃ n, n = cs.length := ⟨_, rfl⟩
  rw [← hn] at hM hcap h70 ⊢
  have HN := Lib.hid hn
  have HMM := Lib.hid hM
  have H70 := Lib.hid h70
  have HCAP := Lib.hid hcap
  have en : wrap64 ((n : Int) - 1) = (M : Int) := by unfold wrap64; omega
  have tn : ((n : Int) == 0) = false := beq_false_of_ne (by omega)
  have bM : (M : Int) < (n : Int) := by omega
  have bM' : M < n := by omega
  have bM2 : (M : Int) ≤ (cap : Int) := by omega
  have bM2' : M ≤ cap := by omega
  obtain ⟨c0, c1⟩ := hrd.2 _ _ (el_get (l := cs) (j := M) (by rw [← hn]; omega))
  obtain ⟨q, hq⟩ : ∃ q, q = el cs M := ⟨_, rfl⟩
  rw [← hq] at c0 c1
  have HQ := Lib.hid hq
  obtain ⟨q0, q1⟩ := q
  have hgl : g < w.heap.size := hrd.1
  clear hr hrd hn hM h70 hne hq
  refine (callsIn_wide (n := 12)).1 ?_
  refine callsIn_of_wp_marks Try.func28 rfl trivial ?_ rfl
  simp only [Try.ntmps28, List.size_toArray, List.length_cons, List.length_nil, Nat.reduceAdd, Nat.reduceSub, Array.replicate_succ, Array.replicate_zero, List.push_toArray, List.append_toArray, List.nil_append, List.cons_append]
  have h := ((TN.start w 26).alloc x0 x1).alloc 0 0
  rw [show (w.alloc (Obj.cells #[.int .u32 x0, .int .u32 x1] 26)).heap.size = w.heap.size + 1 by simp] at h
  have HB := Lib.hid h.below
  have HX : Hid (Pt _ w.heap.size 26 (x0, x1)) := (h.fresh _ (List.mem_cons_of_mem _ List.mem_cons_self)).1
  have HR : Hid (Pt _ (w.heap.size + 1) 26 (0, 0)) := (h.fresh _ List.mem_cons_self).1
  clear h
  gi_wp2_with fail
  generalize (w.alloc (Obj.cells #[.int .u32 x0, .int .u32 x1] 26)).alloc (Obj.cells #[.int .u32 0, .int .u32 0] 26) = W0 at *
  obtain ⟨X, hX⟩ : ∃ X, X = w.heap.size := ⟨_, rfl⟩
  obtain ⟨R, hR⟩ : ∃ R, R = w.heap.size + 1 := ⟨_, rfl⟩
  rw [← hR, ← hX]
  rw [← hX] at HX
  rw [← hR] at HR
  have LX : Hid (w.heap.size ≤ X ∧ w.heap.size ≤ R ∧ X ≠ R) := ⟨by omega, by omega, by omega⟩
  clear hX hR c0 c1
  refine ⟨trivial, ?_⟩
  refine (callsIn_wide.2 (clean_at q0 q1 _)).mono ?_
  rintro e W1 ⟨rfl, hb⟩
  have HB1 := Lib.hid (HB.out.trans (hb.mono HB.out.size))
  have HX1 : Hid (Pt W1 X 26 (x0, x1)) := B2.step HX.out hb
  have HR1 : Hid (Pt W1 R 26 (0, 0)) := B2.step HR.out hb
  clear hb HB HX HR
  have ha : Below W1.heap.size W1 (W1.alloc (Obj.cells #[.int .u32 (cc q0 : Nat), .int .u32 (cc q1 : Nat)] 26)) := (Below.refl _ _).alloc (Nat.le_refl _) _
  have HB2 := Lib.hid (HB1.out.trans (ha.mono HB1.out.size))
  have HX2 : Hid (Pt _ X 26 (x0, x1)) := B2.step HX1.out ha
  have HR2 : Hid (Pt _ R 26 (0, 0)) := B2.step HR1.out ha
  have HS2 : Hid (Pt _ W1.heap.size 26 (cc q0, cc q1)) := B2.made W1 (.int .u32 (cc q0 : Nat)) (.int .u32 (cc q1 : Nat)) 26
  have LS : Hid (w.heap.size ≤ W1.heap.size ∧ X ≠ W1.heap.size ∧ R ≠ W1.heap.size ∧ g ≠ W1.heap.size) := ⟨HB1.out.size, by have := blk_lt HX1.out; omega, by have := blk_lt HR1.out; omega, by have := HB1.out.size; omega⟩
  have hz : (W1.alloc (Obj.cells #[.int .u32 (cc q0 : Nat), .int .u32 (cc q1 : Nat)] 26)).heap.size = W1.heap.size + 1 := by simp
  have HZ := Lib.hid hz
  clear ha hz HB1 HX1 HR1
  gi_wp2_with fail
  generalize W1.alloc (Obj.cells #[.int .u32 (cc q0 : Nat), .int .u32 (cc q1 : Nat)] 26) = W2 at *
  generalize W1.heap.size = S at *
  refine ⟨trivial, ?_⟩
  refine (callsIn_wide.2 (back57_at _ M cap _)).mono ?_
  rintro e W3 ⟨rfl, hw3⟩
  have hb : Below W2.heap.size W2 W3 := by rw [hw3]; exact (Below.refl _ _).alloc (Nat.le_refl _) _
  have HB3 := Lib.hid (HB2.out.trans (hb.mono HB2.out.size))
  have HX3 : Hid (Pt W3 X 26 (x0, x1)) := B2.step HX2.out hb
  have HR3 : Hid (Pt W3 R 26 (0, 0)) := B2.step HR2.out hb
  have HS3 : Hid (Pt W3 S 26 (cc q0, cc q1)) := B2.step HS2.out hb
  have HBX : Hid (W3.cell? ⟨S + 1, 0, none⟩ = some (.slice (some ⟨g, off, none⟩) M cap)) := by
    show _ = _
    rw [hw3, ← HZ.out]
    exact (Boxed.new W2 39 (.slice (some ⟨g, off, none⟩) M cap)).cell
  have HZ3 : Hid (W3.heap.size = S + 1 + 1) := by show _ = _; rw [hw3, ← HZ.out]; simp
  rw [HZ.out]
  clear hb hw3 HB2 HX2 HR2 HS2 HZ
  gi_wp2_with fail
  have hlt : (cs.take M).length = M := by rw [List.length_take]; have := HN.out; have := HMM.out; omega
  have hgS := LS.out.2.2.2
  have hz3 := HZ3.out
  have hls := LS.out.1
  have hM1000 : M ≤ 100000 := by have := HMM.out; have := H70.out; omega
  have hrd : ∀ (k : Nat) (x : Nat × Nat), (cs.take M)[k]? = some x → W3.cell? ⟨g, off + k * 2, none⟩ = some (.int .u32 x.1) ∧ W3.cell? ⟨g, off + k * 2 + 1, none⟩ = some (.int .u32 x.2) := by
    intro k x hx
    have hk : k < M := by have := (List.getElem?_eq_some_iff.1 hx).1; omega
    rw [List.getElem?_take_of_lt hk] at hx
    exact (R1.out.step HB3.out R1.out.1).2 k x hx
  have hst := back_stops Fence.wide (12 - 1) trivial rfl (by omega) (S + 1) W3.heap.size g off cap (cs.take M) (by rw [hlt]; exact hM1000) S (by have := HB3.out.size; omega) (by omega) hgS (by omega) W3 (Nat.le_refl _) (by rw [hlt]; exact HBX.out) hrd
  rw [hlt] at hst
  have HST := Lib.hid hst
  have HSW : Hid (S < W3.heap.size) := by show _ < _; omega
  clear hst hrd hlt hz3 hM1000 hgl hcap bM bM' bM2 bM2' tn en
  refine wpIn_rangeFunc_ownH rfl (by omega) (gf := 65) (lb := #[.pointer (some ⟨S + 1, 0, none⟩)]) rfl trivial (enters_of Try.func65 (by kernel_rfl) rfl) HST.out (fun a b => a.trans b) (bqK_b (Nat.le_refl _)) (Below.refl _ _) (fun _ => rfl)
    (fun pre W => (Pt W X 26 (x0, x1) ∧ Pt W R 26 (0, 0) ∧ Pt W S 26 (hb (x0, x1) (cc q0, cc q1) pre)) ∧ Below w.heap.size w W ∧ W3.heap.size ≤ W.heap.size)
    (fun _ _ _ => False)
    (OwnFrom.and (Own.from (fun s A B row hs hg hr => ⟨pt_own hs.1 hg hr, pt_own hs.2.1 hg hr, pt_own hs.2.2 hg hr⟩) _) (OwnFrom.and (ownFrom_below (Nat.le_refl _) HB3.out.size) (fun _ _ _ _ hs hg _ => Nat.le_trans hs hg.size)))
    (fun _ _ _ _ _ hs _ _ => hs)
    ⟨⟨HX3.out, HR3.out, HS3.out⟩, HB3.out, Nat.le_refl _⟩
    (fun x a' W => ∃ Bx, W3.heap.size ≤ Bx ∧ Pt W Bx 26 x.2 ∧ a' = { tmps := #[.slice (some ⟨g, off, none⟩) n cap, .agg #[.int .u32 x0, .int .u32 x1], undef, .pointer (some ⟨X, 0, none⟩), .pointer (some ⟨R, 0, none⟩), .pointer (some ⟨S, 0, none⟩), undef, .pointer (some ⟨Bx, 0, none⟩), .slice (some ⟨g, off, none⟩) n cap, .int .i64 n, .bool false, undef, .slice (some ⟨g, off, none⟩) n cap, .slice (some ⟨g, off, none⟩) n cap, .int .i64 n, .int .i64 M, .pointer (some ⟨g, off + M * 2, none⟩), .agg #[.int .u32 q0, .int .u32 q1], .agg #[.int .u32 (cc q0 : Nat), .int .u32 (cc q1 : Nat)], .slice (some ⟨g, off, none⟩) n cap, .slice (some ⟨g, off, none⟩) n cap, .int .i64 n, .int .i64 M, .slice (some ⟨g, off, none⟩) M cap, .func (.func 65) #[] #[.pointer (some ⟨S + 1, 0, none⟩)], .int .i64 (x.1 : Int), num x.2, undef, undef, undef, undef, undef, undef], defers := [] })
    (fun x a' _ A B row hs hg hr => by obtain ⟨Bx, e1, e2, e3⟩ := hs; exact ⟨Bx, e1, pt_own e2 hg (fun r e => (hr r e).2), e3⟩)
    ?assign ?body ?done ?stop
  case assign =>
    rintro yl pre ⟨xi, p0, p1⟩ W K ⟨⟨h1, h2, h3⟩, h4, hsz⟩ hK
    gi_wp2
    exact hK _ _ ((KeepsOthers.alloc _ _).from _) (Bq.below ((Below.refl _ W).alloc hsz _)) ⟨⟨B2.step h1 ((Below.refl _ _).alloc (Nat.le_refl _) _), B2.step h2 ((Below.refl _ _).alloc (Nat.le_refl _) _), B2.step h3 ((Below.refl _ _).alloc (Nat.le_refl _) _)⟩, h4.alloc h4.size _, Nat.le_trans hsz (by simp)⟩ ⟨W.heap.size, hsz, B2.made W _ _ 26, rfl⟩
  case body =>
    rintro yl pre ⟨xi, p0, p1⟩ a' W hl ⟨r, hr⟩ ⟨⟨h1, h2, h3⟩, h4, hsz⟩ ⟨Bx, hBx, h5, rfl⟩ hlt
    obtain ⟨s, hs⟩ : ∃ s, s = hb (x0, x1) (cc q0, cc q1) pre := ⟨_, rfl⟩
    rw [← hs] at h3
    have HHS := Lib.hid hs
    obtain ⟨t0, t1⟩ := s
    have HQ0 : Hid (∀ d : Nat → Bool, (∀ i, i < 6 → d i = false) → QI w W S (x0, x1) (t0, t1) (p0, p1) d undef undef undef undef undef W.drew) := fun d hd => QI.start hd h4 h3
    have H1 := Lib.hid h1
    have H2 := Lib.hid h2
    have H5 := Lib.hid h5
    have HSZ := Lib.hid hsz
    have HBX' := Lib.hid hBx
    have HNE : Hid (Bx ≠ S) := by show _ ≠ _; have := HSW.out; omega
    clear hs h1 h2 h3 h4 h5 hlt hBx hsz
    gi_wp2_with fail
    refine wpIn_region_inv (by kernel_rfl) (back_of (by kernel_rfl)) (fun d act Wx => ∃ y0 y1 y2 y3 y4 : Value, act = { tmps := #[.slice (some ⟨g, off, none⟩) n cap, .agg #[.int .u32 x0, .int .u32 x1], undef, .pointer (some ⟨X, 0, none⟩), .pointer (some ⟨R, 0, none⟩), .pointer (some ⟨S, 0, none⟩), undef, .pointer (some ⟨Bx, 0, none⟩), .slice (some ⟨g, off, none⟩) n cap, .int .i64 n, .bool false, undef, .slice (some ⟨g, off, none⟩) n cap, .slice (some ⟨g, off, none⟩) n cap, .int .i64 n, .int .i64 M, .pointer (some ⟨g, off + M * 2, none⟩), .agg #[.int .u32 q0, .int .u32 q1], .agg #[.int .u32 (cc q0 : Nat), .int .u32 (cc q1 : Nat)], .slice (some ⟨g, off, none⟩) n cap, .slice (some ⟨g, off, none⟩) n cap, .int .i64 n, .int .i64 M, .slice (some ⟨g, off, none⟩) M cap, .func (.func 65) #[] #[.pointer (some ⟨S + 1, 0, none⟩)], .int .i64 (xi : Int), num (p0, p1), y0, y1, y2, y3, y4, undef], defers := [] } ∧
      QI w W S (x0, x1) (t0, t1) (p0, p1) d y0 y1 y2 y3 y4 Wx) ?r0 ?step ?fin
    case r0 => exact fun d hd => ⟨_, _, _, _, _, rfl, HQ0.out d hd⟩
    case step =>
      rintro i oi ho d act Wx ⟨y0, y1, y2, y3, y4, rfl, hR⟩ hSi hdep
      have hi : i < 6 := (Array.getElem?_eq_some_iff.1 ho).1
      have HR := Lib.hid hR
      have HD := Lib.hid hdep
      have HSI := Lib.hid hSi
      clear hR hdep hSi
      obtain rfl | rfl | rfl | rfl | rfl | rfl : i = 0 ∨ i = 1 ∨ i = 2 ∨ i = 3 ∨ i = 4 ∨ i = 5 := by omega
      · obtain ⟨c0, c1⟩ := (Pt.bq H5.out HR.out.bu HNE.out).cells
        refine wpOpIn_step ho fun K hK => ?_
        obtain rfl := Option.some.inj ho
        go_simp
        exact hK _ _ ⟨_, _, _, _, _, rfl, HR.out.s0⟩
      · obtain ⟨c0, c1⟩ := (Pt.bq H1.out HR.out.bu LS.out.2.1).cells
        refine wpOpIn_step ho fun K hK => ?_
        obtain rfl := Option.some.inj ho
        go_simp
        exact hK _ _ ⟨_, _, _, _, _, rfl, HR.out.s1⟩
      · have h5 : d 5 = false := by
          cases h5 : d 5 with
          | false => rfl
          | true => have := HR.out.k3 (HR.out.k4 (HR.out.k5 h5)); rw [HSI.out] at this; cases this
        have hp := HR.out.pS
        rw [h5] at hp
        have hp' : Pt Wx S 26 (t0, t1) := hp
        obtain ⟨c0, c1⟩ := hp'.cells
        clear hp hp' h5
        refine wpOpIn_step ho fun K hK => ?_
        obtain rfl := Option.some.inj ho
        go_simp
        exact hK _ _ ⟨_, _, _, _, _, rfl, HR.out.s2⟩
      · have hoo := ho
        obtain rfl := Option.some.inj ho
        have d1 : d 1 = true := HD.out ⟨1, .data⟩ (by simp) rfl
        have d2 : d 2 = true := HD.out ⟨2, .data⟩ (by simp) rfl
        obtain rfl := HR.out.d1 d1
        obtain rfl := HR.out.d2 d2
        have HD2 := Lib.hid d2
        clear d1 d2 HD
        refine wpOpIn_step hoo fun K hK => ?_
        clear hoo
        go_simp
        refine ⟨trivial, ?_⟩
        refine (CallsIn.inRound _ (callsIn_wide.2 (pmulc_at x0 x1 t0 t1 _))).mono ?_
        rintro e Wn ⟨ma, mb, rfl, hpq, hb⟩
        have he : (Value.agg #[.int .u32 (ma : Int), .int .u32 (mb : Int)]) = num (mulc (x0, x1) (t0, t1)) := by rw [← hpq]
        refine hK _ _ ⟨_, _, _, _, _, rfl, ?_⟩
        rw [he]
        exact (HR.out.walk hb).s3 HD2.out
      · have hoo := ho
        obtain rfl := Option.some.inj ho
        have d0 : d 0 = true := HD.out ⟨0, .data⟩ (by simp) rfl
        have d3 : d 3 = true := HD.out ⟨3, .data⟩ (by simp) rfl
        obtain rfl := HR.out.d0 d0
        obtain rfl := HR.out.d3 d3
        have HD3 := Lib.hid d3
        clear d0 d3 HD
        refine wpOpIn_step hoo fun K hK => ?_
        clear hoo
        go_simp
        refine ⟨trivial, ?_⟩
        refine (CallsIn.inRound _ (callsIn_wide.2 (addc_at p0 p1 _ _ _))).mono ?_
        rintro e Wn ⟨ma, mb, rfl, hpq, hb⟩
        have he : (Value.agg #[.int .u32 (ma : Int), .int .u32 (mb : Int)]) = num (addc (p0, p1) (mulc (x0, x1) (t0, t1))) := by rw [← hpq]
        refine hK _ _ ⟨_, _, _, _, _, rfl, ?_⟩
        rw [he]
        exact (HR.out.walk hb).s4 HD3.out
      · have hoo := ho
        obtain rfl := Option.some.inj ho
        have d4 : d 4 = true := HD.out ⟨4, .data⟩ (by simp) rfl
        obtain rfl := HR.out.d4 d4
        have HD4 := Lib.hid d4
        obtain ⟨c0, c1⟩ := HR.out.pS.cells
        obtain ⟨z0, z1⟩ := HR.out.pS.frz
        obtain ⟨ra, rb, hab⟩ : ∃ ra rb, (ra, rb) = addc (p0, p1) (mulc (x0, x1) (t0, t1)) := ⟨_, _, rfl⟩
        rw [← hab]
        have HAB := Lib.hid hab
        clear d4 HD hab
        refine wpOpIn_step hoo fun K hK => ?_
        clear hoo
        go_simp
        refine hK _ _ ⟨_, _, _, _, _, rfl, ?_⟩
        have := HR.out.s5 HD4.out LS.out.1 HAB.out rfl
        rw [← HAB.out] at this
        exact this
    case fin =>
      rintro d act Wx ⟨y0, y1, y2, y3, y4, rfl, hR⟩ hall
      have hp : Pt Wx S 26 (addc (p0, p1) (mulc (x0, x1) (t0, t1))) := by
        have := hR.pS
        rw [hall 5 (by decide)] at this
        exact this
      have hkf : KeepsFrom W3.heap.size W Wx := ⟨hR.bu.size, fun k o hk ho _ => by
        have hlt := (Array.getElem?_eq_some_iff.1 ho).1
        rw [hR.bu.same k hlt (by have := HSW.out; omega)]
        exact ho⟩
      refine And.intro hkf (And.intro (hR.bu.mono HSZ.out) (And.intro ⟨Pt.bq H1.out hR.bu LS.out.2.1, Pt.bq H2.out hR.bu LS.out.2.2.1, ?_⟩ ⟨hR.below, Nat.le_trans HSZ.out hR.bu.size⟩))
      rw [hb_snoc, ← HHS.out]
      exact hp
  case done =>
    rintro D zs W hD rfl ⟨⟨h1, h2, h3⟩, h4, hsz⟩ hK
    obtain ⟨s, hs⟩ : ∃ s, s = hb (x0, x1) (cc q0, cc q1) (upto (bk (cs.take M)) M) := ⟨_, rfl⟩
    rw [← hs] at h3
    have hso : s = ho (x0, x1) cs := by
      have := hb_upto (x0, x1) cs (M := M) (by rw [← HN.out]; exact HMM.out) M (Nat.le_refl _)
      rw [Nat.sub_self, List.drop_zero, ← HQ.out] at this
      rw [hs]
      exact this
    have HSO := Lib.hid hso
    obtain ⟨t0, t1⟩ := s
    clear hs hso
    obtain ⟨y0, y1⟩ := h3.cells
    obtain ⟨c0, c1⟩ := h2.cells
    obtain ⟨z0, z1⟩ := h2.frz
    have HP := Lib.hid h2
    have H4 := Lib.hid h4
    have HDD := Lib.hid hD
    have HKK := Lib.hid hK
    have HRW : Hid (R < W3.heap.size) := blk_lt HR3.out
    clear h1 h2 h3 h4 hsz hD hK
    gi_wp2_with fail
    obtain ⟨W4, hW4⟩ : ∃ W4, W4 = (W.setCell ⟨R, 0, none⟩ (.int .u32 (t0 : Nat))).setCell ⟨R, 1, none⟩ (.int .u32 (t1 : Nat)) := ⟨_, rfl⟩
    rw [← hW4]
    obtain ⟨p1, p2, _⟩ := B2.put HP.out hW4
    have hb4 : Below w.heap.size w W4 := p2 _ _ LX.out.2.1 H4.out
    have hDR : D ≠ R := by have := HDD.out; have := HRW.out; omega
    have hk4 : W4.heap[D]? = some (.deferred (some [])) := by rw [hW4, Below.heap_setCell _ _ _ _ hDR, Below.heap_setCell _ _ _ _ hDR]; exact HKK.out
    clear hW4 c0 c1 z0 z1 y0 y1
    refine ⟨by simp, .inl ⟨_, _, rfl, run_takeDeferred hk4, ?_⟩⟩
    obtain ⟨W5, hW5⟩ : ∃ W5, W5 = W4.putObj D (.deferred none) := ⟨_, rfl⟩
    have p5 : Pt W5 R 26 (t0, t1) := by rw [hW5]; exact pt_own p1 (grownBy_putObj' W4 D _) (fun r e => by cases e; exact ⟨_, hk4, rfl⟩)
    have hb5 : Below w.heap.size w W5 := by rw [hW5]; exact hb4.trans (belowK_b (w := w) (Nat.le_refl _) W4 D _ _ (by have := HB3.out.size; have := HDD.out; omega) hk4 rfl rfl)
    rw [← hW5]
    obtain ⟨c0, c1⟩ := p5.cells
    exact ⟨.agg #[.int .u32 t0, .int .u32 t1], by simp [results, Try.results28, go_sem, c0, c1], t0, t1, rfl, HSO.out, hb5⟩
  case stop =>
    rintro D c pre W _ _ h _
    exact h.elim
end
end Go.Proofs.Ytlbgpfddmkpakaa.Nu
