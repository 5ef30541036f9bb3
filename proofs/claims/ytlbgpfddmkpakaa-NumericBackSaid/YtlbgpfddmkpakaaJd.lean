/- Numeric: the reference's Polynomial. -/
import Derived.Test.YtlbgpfddmkpakaaJc
namespace Go.Proofs.Ytlbgpfddmkpakaa.Nu
open Go.RowKit
set_option linter.unusedVariables false
set_option linter.unusedSimpArgs false

/-- A polynomial at x. -/
def ho (x : Nat × Nat) : List (Nat × Nat) → Nat × Nat
  | [] => (0, 0)
  | [c] => (cc c.1, cc c.2)
  | c :: d :: cs => addc c (mulc x (ho x (d :: cs)))
theorem ho_last (x : Nat × Nat) (cs : List (Nat × Nat)) {j : Nat} (h : j + 1 = cs.length) : ho x (cs.drop j) = (cc (el cs j).1, cc (el cs j).2) := by
  have h1 : cs[j]? = some (el cs j) := el_get (by omega)
  obtain ⟨h2, h3⟩ := List.getElem?_eq_some_iff.1 h1
  rw [List.drop_eq_getElem_cons h2, h3, List.drop_eq_nil_of_le (by omega)]
  rfl
theorem ho_step (x : Nat × Nat) (cs : List (Nat × Nat)) {j : Nat} (h : j + 1 < cs.length) : ho x (cs.drop j) = addc (el cs j) (mulc x (ho x (cs.drop (j + 1)))) := by
  have h1 : cs[j]? = some (el cs j) := el_get (by omega)
  obtain ⟨h2, h3⟩ := List.getElem?_eq_some_iff.1 h1
  rw [List.drop_eq_getElem_cons h2, h3, List.drop_eq_getElem_cons h]
  rfl
theorem rpmulc_at (a b c d : Nat) (w : World) : Calls Try.prog 48 #[.agg #[.int .u32 a, .int .u32 b], .agg #[.int .u32 c, .int .u32 d]] w fun e w' => ∃ pa pb : Nat, e = .returned (.agg #[.int .u32 pa, .int .u32 pb]) ∧ (pa, pb) = mulc (a, b) (c, d) ∧ Below w.heap.size w w' := R.mulc_at a b c d w
/-- Three numbers in blocks of their own: x, the result, the sum. -/
structure PS (e : TypeId) (W0 : World) (X R S : Nat) (x r s : Nat × Nat) (W : World) : Prop where
  below : Below W0.heap.size W0 W
  px : Pt W X e x
  pr : Pt W R e r
  ps : Pt W S e s
  lx : W0.heap.size ≤ X
  lr : W0.heap.size ≤ R
  ls : W0.heap.size ≤ S
  d1 : X ≠ R
  d2 : X ≠ S
  d3 : R ≠ S
section
variable {e : TypeId} {W0 W W' : World} {X R S : Nat} {x r s : Nat × Nat}
theorem PS.step (h : PS e W0 X R S x r s W) (hb : Below W.heap.size W W') : PS e W0 X R S x r s W' :=
  { h with below := h.below.trans (hb.mono h.below.size), px := h.px.step hb, pr := h.pr.step hb, ps := h.ps.step hb }
theorem PS.drew (h : PS e W0 X R S x r s W) : PS e W0 X R S x r s W.drew := h.step (Below.refl _ _).drew
theorem pt_other {W W' : World} {X Y : Nat} {e : TypeId} {p : Nat × Nat} {a b : Value} (h : Pt W X e p) (hne : X ≠ Y) (hW : W' = (W.setCell ⟨Y, 0, none⟩ a).setCell ⟨Y, 1, none⟩ b) : Pt W' X e p := by
  show W'.heap[X]? = _
  rw [hW, Below.heap_setCell _ _ _ _ hne, Below.heap_setCell _ _ _ _ hne]
  exact h
theorem PS.storeS (h : PS e W0 X R S x r s W) {a b : Nat} (hW : W' = (W.setCell ⟨S, 0, none⟩ (.int .u32 a)).setCell ⟨S, 1, none⟩ (.int .u32 b)) : PS e W0 X R S x r (a, b) W' := by
  obtain ⟨h1, h2, _⟩ := B2.put h.ps hW
  exact { h with below := h2 _ _ h.ls h.below, px := pt_other h.px h.d2 hW, pr := pt_other h.pr h.d3 hW, ps := h1 }
theorem PS.storeR (h : PS e W0 X R S x r s W) {a b : Nat} (hW : W' = (W.setCell ⟨R, 0, none⟩ (.int .u32 a)).setCell ⟨R, 1, none⟩ (.int .u32 b)) : PS e W0 X R S x (a, b) s W' := by
  obtain ⟨h1, h2, _⟩ := B2.put h.pr hW
  exact { h with below := h2 _ _ h.lr h.below, px := pt_other h.px h.d1 hW, ps := pt_other h.ps (fun e => h.d3 e.symm) hW, pr := h1 }
theorem PS.cells (h : PS e W0 X R S x r s W) : W.cell? ⟨X, 0, none⟩ = some (.int .u32 x.1) ∧ W.cell? ⟨X, 1, none⟩ = some (.int .u32 x.2) ∧ W.cell? ⟨S, 0, none⟩ = some (.int .u32 s.1) ∧ W.cell? ⟨S, 1, none⟩ = some (.int .u32 s.2) :=
  ⟨h.px.cells.1, h.px.cells.2, h.ps.cells.1, h.ps.cells.2⟩
theorem PS.one (h : PS e W0 X R S x r s W) {g off j : Nat} {l : List (Nat × Nat)} {p : Nat × Nat} (rd : Rd W0 g off l) (hj : l[j]? = some p) :
    W.cell? ⟨g, off + j * 2, none⟩ = some (.int .u32 p.1) ∧ W.cell? ⟨g, off + j * 2 + 1, none⟩ = some (.int .u32 p.2) ∧ W.cell? ⟨X, 0, none⟩ = some (.int .u32 x.1) ∧ W.cell? ⟨X, 1, none⟩ = some (.int .u32 x.2) :=
  have r := rd.step h.below rd.1
  ⟨(r.2 _ _ hj).1, (r.2 _ _ hj).2, h.px.cells.1, h.px.cells.2⟩
theorem PS.make (w : World) (e : TypeId) (x0 x1 : Nat) : PS e w w.heap.size (w.heap.size + 1) (w.heap.size + 1 + 1) (x0, x1) (0, 0) (0, 0) (((w.alloc (Obj.cells #[.int .u32 x0, .int .u32 x1] e)).alloc (Obj.cells #[.int .u32 0, .int .u32 0] e)).alloc (Obj.cells #[.int .u32 0, .int .u32 0] e)) := by
  have h := (((TN.start w e).alloc x0 x1).alloc 0 0).alloc 0 0
  have hz : (w.alloc (Obj.cells #[.int .u32 x0, .int .u32 x1] e)).heap.size = w.heap.size + 1 := by simp
  have hz2 : ((w.alloc (Obj.cells #[.int .u32 x0, .int .u32 x1] e)).alloc (Obj.cells #[.int .u32 (0 : Nat), .int .u32 (0 : Nat)] e)).heap.size = w.heap.size + 1 + 1 := by simp
  rw [hz, hz2] at h
  have a := h.fresh _ List.mem_cons_self
  have b := h.fresh _ (List.mem_cons_of_mem _ List.mem_cons_self)
  have c := h.fresh _ (List.mem_cons_of_mem _ (List.mem_cons_of_mem _ List.mem_cons_self))
  exact ⟨h.below, c.1, b.1, a.1, Nat.le_refl _, by omega, by omega, by omega, by omega, by omega⟩
end
set_option maxRecDepth 100000 in
set_option maxHeartbeats 8000000 in
theorem rpoly_at (v : Value) (cs : List (Nat × Nat)) (x0 x1 : Nat) (w : World) (hr : Row w v cs) (hne : cs ≠ []) (h70 : cs.length ≤ 1000) :
    Calls Try.prog 29 #[v, .agg #[.int .u32 x0, .int .u32 x1]] w fun e w' => ∃ a b : Nat, e = .returned (.agg #[.int .u32 a, .int .u32 b]) ∧ (a, b) = ho (x0, x1) cs ∧ Below w.heap.size w w' := by
  obtain ⟨g, off, cap, rfl, hcap, hrd⟩ := hr.rd hne
  have R1 := Lib.hid hrd
  obtain ⟨M, hM⟩ : ∃ M, M + 1 = cs.length := ⟨cs.length - 1, by have := List.length_pos_iff.2 hne; omega⟩
  obtain ⟨n, hn⟩ : ∃ n, n = cs.length := ⟨_, rfl⟩
  rw [← hn] at hM hcap h70 ⊢
  have HN := Lib.hid hn
  have HMM := Lib.hid hM
  have H70 := Lib.hid h70
  have en : wrap64 ((n : Int) - 1) = (M : Int) := by unfold wrap64; omega
  clear hr hrd hn hM h70 hne
  have HT : Hid (PS 57 w w.heap.size (w.heap.size + 1) (w.heap.size + 1 + 1) (x0, x1) (0, 0) (0, 0) _) := PS.make w 57 x0 x1
  go_enter Try.func29, Try.ntmps29
  go_upto_region 2 with fail
  generalize ((w.alloc (Obj.cells #[.int .u32 x0, .int .u32 x1] 57)).alloc (Obj.cells #[.int .u32 0, .int .u32 0] 57)).alloc (Obj.cells #[.int .u32 0, .int .u32 0] 57) = W0 at *
  generalize hS : w.heap.size + 1 + 1 = S at *
  generalize hR : w.heap.size + 1 = R at *
  generalize hX : w.heap.size = X at HT ⊢
  clear hS hR
  have HX := Lib.hid hX
  clear hX
  go_wp2_with fail
  try rw [en]
  go_loopw [6] (fun s6 wr => ∃ (k : Nat) (iv : Int) (s0 s1 : Nat), k ≤ n ∧ iv = (k : Int) - 1 ∧ s6 = .int .i64 iv ∧ (s0, s1) = ho (x0, x1) (cs.drop k) ∧ PS 57 w X R S (x0, x1) (0, 0) (s0, s1) wr) (fun s6 _ => (intOf s6 + 1).toNat)
  case atStart => exact ⟨n, (M : Int), 0, 0, Nat.le_refl _, by have := HMM.out; omega, rfl, by rw [HN.out, List.drop_length]; rfl, HT.out⟩
  case round =>
    obtain ⟨k, iv, s0, s1, hk, hiv, rfl, hs, ht⟩ := hrel
    have HT1 := Lib.hid ht
    have HS := Lib.hid hs
    clear ht HT hs
    rcases k with _ | j
    · have hi : iv = -1 := by omega
      subst hi
      clear hk hiv
      have hs0 : (s0, s1) = ho (x0, x1) cs := HS.out
      have HO := Lib.hid hs0
      clear hs0
      obtain ⟨_, _, y0, y1⟩ := HT1.out.cells
      obtain ⟨z0, z1⟩ := HT1.out.pr.frz
      obtain ⟨c0, c1⟩ := HT1.out.pr.cells
      go_upto_region 8 with fail
      have HTn := Lib.hid (PS.storeR (a := s0) (b := s1) HT1.out rfl)
      go_wp2_with fail
      obtain ⟨W3, hW3⟩ : ∃ W3, W3 = (wr.setCell ⟨R, 0, none⟩ (.int .u32 s0)).setCell ⟨R, 1, none⟩ (.int .u32 s1) := ⟨_, rfl⟩
      rw [← hW3] at HTn ⊢
      clear hW3 c0 c1 y0 y1 z0 z1
      obtain ⟨c0, c1⟩ := HTn.out.pr.cells
      exact bodyPost_ret (v := .agg #[.int .u32 s0, .int .u32 s1]) (by simp [results, Try.results29, go_sem, c0, c1]) rfl ⟨_, _, rfl, HO.out, HTn.out.below⟩
    · have hi : iv = (j : Int) := by omega
      subst hi
      have hj : j < n := by omega
      have HJ := Lib.hid hj
      have hx0 := el_get (l := cs) (j := j) (by rw [← HN.out]; exact hj)
      have tg : decide ((0 : Int) ≤ (j : Int)) = true := decide_eq_true (by omega)
      have ekj : wrap64 ((j : Int) - 1) = (j : Int) - 1 := by have := H70.out; unfold wrap64; omega
      have bj : (j : Int) < (n : Int) := by omega
      have bj' : j < n := hj
      obtain ⟨p, hp⟩ : ∃ p, p = el cs j := ⟨_, rfl⟩
      rw [← hp] at hx0
      have X0 := Lib.hid hx0
      have HPE := Lib.hid hp
      obtain ⟨p0, p1⟩ := p
      have hmm := HMM.out
      by_cases hq : j = M
      · have tq : ((j : Int) == (M : Int)) = true := by subst hq; exact beq_self_eq_true _
        have HO : Hid (ho (x0, x1) (cs.drop j) = (cc p0, cc p1)) := by show _ = _; rw [ho_last _ _ (j := j) (by rw [← HN.out]; omega), ← HPE.out]
        clear hq hk hiv hj hx0 hp hmm
        go_upto_region 6 with fail
        have R2 : Hid (Rd w g off cs) := R1
        have HTc := Lib.hid HT1.out.drew
        refine wp_region_noPanic ?_
        refine wp_region_held_drew (S := fun W => W.cell? ⟨g, off + j * 2, none⟩ = some (.int .u32 p0) ∧ W.cell? ⟨g, off + j * 2 + 1, none⟩ = some (.int .u32 p1) ∧ W.cell? ⟨X, 0, none⟩ = some (.int .u32 x0) ∧ W.cell? ⟨X, 1, none⟩ = some (.int .u32 x1)) (by kernel_rfl) ?_ (fun hHeld => ?_)
        · exact HTc.out.one R1.out X0.out
        refine wpAnyH_take (i := 0) (v := ?_) rfl (by kernel_rfl) (by kernel_rfl) (by kernel_rfl) (fun _ _ _ h => h) (Or.inl ⟨by rfl, ?_⟩) (by assumption) ?_
        rotate_left
        · (intro w hSw; (try dsimp only at hSw); go_simp; first | done | with_reducible rfl)
        try simp only [Act.put, List.setIfInBounds_toArray, List.set_cons_zero, List.set_cons_succ, List.getElem_toArray, List.getElem_cons_succ, List.getElem_cons_zero]
        refine wpAnyH_take (i := 1) (v := ?_) rfl (by kernel_rfl) (by kernel_rfl) (by kernel_rfl) (fun _ _ _ h => h) (Or.inl ⟨by rfl, ?_⟩) (by assumption) ?_
        rotate_left
        · (intro w hSw; (try dsimp only at hSw); go_simp; first | done | with_reducible rfl)
        try simp only [Act.put, List.setIfInBounds_toArray, List.set_cons_zero, List.set_cons_succ, List.getElem_toArray, List.getElem_cons_succ, List.getElem_cons_zero]
        refine wpAnyH_take (i := 2) (v := ?_) rfl (by kernel_rfl) (by kernel_rfl) (by kernel_rfl) (fun _ _ _ h => h) (Or.inl ⟨by rfl, ?_⟩) (by assumption) ?_
        rotate_left
        · (intro w hSw; (try dsimp only at hSw); go_simp; first | done | with_reducible rfl)
        try simp only [Act.put, List.setIfInBounds_toArray, List.set_cons_zero, List.set_cons_succ, List.getElem_toArray, List.getElem_cons_succ, List.getElem_cons_zero]
        refine wpAnyH_take (i := 3) (v := ?_) rfl (by kernel_rfl) (by kernel_rfl) (by kernel_rfl) (fun _ _ _ h => h) (Or.inl ⟨by rfl, ?_⟩) (by assumption) ?_
        rotate_left
        · (intro w hSw; (try dsimp only at hSw); go_simp; first | done | with_reducible rfl)
        try simp only [Act.put, List.setIfInBounds_toArray, List.set_cons_zero, List.set_cons_succ, List.getElem_toArray, List.getElem_cons_succ, List.getElem_cons_zero]
        refine wpAnyH_take (i := 4) (v := ?_) rfl (by kernel_rfl) (by kernel_rfl) (by kernel_rfl) (fun _ _ _ h => h) (Or.inl ⟨by rfl, ?_⟩) (by assumption) ?_
        rotate_left
        · (intro w hSw; (try dsimp only at hSw); go_simp; first | done | with_reducible rfl)
        try simp only [Act.put, List.setIfInBounds_toArray, List.set_cons_zero, List.set_cons_succ, List.getElem_toArray, List.getElem_cons_succ, List.getElem_cons_zero]
        refine wpAnyH_take (i := 6) (v := ?_) rfl (by kernel_rfl) (by kernel_rfl) (by kernel_rfl) (fun _ _ _ h => h) (Or.inl ⟨by rfl, ?_⟩) (by assumption) ?_
        rotate_left
        · (intro w hSw; (try dsimp only at hSw); go_simp; first | done | with_reducible rfl)
        try simp only [Act.put, List.setIfInBounds_toArray, List.set_cons_zero, List.set_cons_succ, List.getElem_toArray, List.getElem_cons_succ, List.getElem_cons_zero]
        refine wpAnyH_take (i := 7) (v := ?_) rfl (by kernel_rfl) (by kernel_rfl) (by kernel_rfl) (fun _ _ _ h => h) (Or.inl ⟨by rfl, ?_⟩) (by assumption) ?_
        rotate_left
        · (intro w hSw; (try dsimp only at hSw); go_simp; first | done | with_reducible rfl)
        try simp only [Act.put, List.setIfInBounds_toArray, List.set_cons_zero, List.set_cons_succ, List.getElem_toArray, List.getElem_cons_succ, List.getElem_cons_zero]
        refine wpAnyH_take (i := 8) (v := ?_) rfl (by kernel_rfl) (by kernel_rfl) (by kernel_rfl) (fun _ _ _ h => h) (Or.inl ⟨by rfl, ?_⟩) (by assumption) ?_
        rotate_left
        · (intro w hSw; (try dsimp only at hSw); go_simp; first | done | with_reducible rfl)
        try simp only [Act.put, List.setIfInBounds_toArray, List.set_cons_zero, List.set_cons_succ, List.getElem_toArray, List.getElem_cons_succ, List.getElem_cons_zero]
        refine wpAnyH_take (i := 9) (v := ?_) rfl (by kernel_rfl) (by kernel_rfl) (by kernel_rfl) (fun _ _ _ h => h) (Or.inl ⟨by rfl, ?_⟩) (by assumption) ?_
        rotate_left
        · (intro w hSw; (try dsimp only at hSw); go_simp; first | done | with_reducible rfl)
        try simp only [Act.put, List.setIfInBounds_toArray, List.set_cons_zero, List.set_cons_succ, List.getElem_toArray, List.getElem_cons_succ, List.getElem_cons_zero]
        refine wpAnyH_take (i := 10) (v := ?_) rfl (by kernel_rfl) (by kernel_rfl) (by kernel_rfl) (fun _ _ _ h => h) (Or.inl ⟨by rfl, ?_⟩) (by assumption) ?_
        rotate_left
        · (intro w hSw; (try dsimp only at hSw); go_simp; first | done | with_reducible rfl)
        try simp only [Act.put, List.setIfInBounds_toArray, List.set_cons_zero, List.set_cons_succ, List.getElem_toArray, List.getElem_cons_succ, List.getElem_cons_zero]
        refine wpAnyH_ready (rs := [5]) (by kernel_rfl) (by simp) ?_
        refine AllReadyH.cons (o := _) rfl ?_ AllReadyH.nil
        intro K hK
        go_simp
        refine (rf_at p0 _).mono ?_
        rintro e Wn ⟨rfl, hb⟩
        have HTn := Lib.hid (HTc.out.step hb)
        clear hb HTc; have HTc := HTn; clear HTn
        go_wp2_with fail
        refine hK.out _ _ ?_ (fun hHeld => ?_)
        · exact HTc.out.one R1.out X0.out
        clear hK K
        try simp only [Act.put, List.setIfInBounds_toArray, List.set_cons_zero, List.set_cons_succ, List.getElem_toArray, List.getElem_cons_succ, List.getElem_cons_zero]
        refine wpAnyH_ready (rs := [11]) (by kernel_rfl) (by simp) ?_
        refine AllReadyH.cons (o := _) rfl ?_ AllReadyH.nil
        intro K hK
        go_simp
        refine (rf_at p1 _).mono ?_
        rintro e Wn ⟨rfl, hb⟩
        have HTn := Lib.hid (HTc.out.step hb)
        clear hb HTc; have HTc := HTn; clear HTn
        go_wp2_with fail
        refine hK.out _ _ ?_ (fun hHeld => ?_)
        · exact HTc.out.one R1.out X0.out
        clear hK K
        try simp only [Act.put, List.setIfInBounds_toArray, List.set_cons_zero, List.set_cons_succ, List.getElem_toArray, List.getElem_cons_succ, List.getElem_cons_zero]
        refine wpAnyH_ready (rs := [12]) (by kernel_rfl) (by simp) ?_
        refine AllReadyH.cons (o := _) rfl ?_ AllReadyH.nil
        intro K hK
        go_simp
        refine (rof_at p0 p1 _).mono ?_
        rintro e Wn ⟨rfl, hb⟩
        have HTn := Lib.hid (HTc.out.step hb)
        clear hb HTc; have HTc := HTn; clear HTn
        go_wp2_with fail
        refine hK.out _ _ ?_ (fun hHeld => ?_)
        · exact HTc.out.one R1.out X0.out
        clear hK K
        try simp only [Act.put, List.setIfInBounds_toArray, List.set_cons_zero, List.set_cons_succ, List.getElem_toArray, List.getElem_cons_succ, List.getElem_cons_zero]
        refine wpAnyH_ready (rs := [13]) (by kernel_rfl) (by simp) ?_
        refine AllReadyH.cons (o := _) rfl ?_ AllReadyH.nil
        intro K hK
        obtain ⟨_, _, y0, y1⟩ := HTc.out.cells
        obtain ⟨z0, z1⟩ := HTc.out.ps.frz
        have HTn := Lib.hid (PS.storeS (a := cb (canon p0)) (b := cb (canon p1)) HTc.out rfl)
        go_simp
        clear y0 y1 z0 z1 HTc; have HTc := HTn; clear HTn
        refine hK.out _ _ ?_ (fun hHeld => ?_)
        · exact HTc.out.one R1.out X0.out
        clear hK K
        try simp only [Act.put, List.setIfInBounds_toArray, List.set_cons_zero, List.set_cons_succ, List.getElem_toArray, List.getElem_cons_succ, List.getElem_cons_zero]
        refine wpAnyH_done (by kernel_rfl) ?_ _
        refine NoPanic.normal ?_
        go_wp2_with fail
        try rw [ekj]
        go_roundw
        case rel => exact ⟨j, (j : Int) - 1, cb (canon p0), cb (canon p1), Nat.le_of_lt HJ.out, rfl, rfl, by rw [HO.out]; rfl, HTc.out⟩
        case measure =>
          show ((j : Int) - 1 + 1).toNat < ((j : Int) + 1).toNat
          omega
      · have tq : ((j : Int) == (M : Int)) = false := beq_false_of_ne (by omega)
        have HO : Hid (ho (x0, x1) (cs.drop j) = addc (p0, p1) (mulc (x0, x1) (s0, s1))) := by show _ = _; rw [ho_step _ _ (j := j) (by rw [← HN.out]; omega), ← HPE.out, HS.out]
        clear hq hk hiv hj hx0 hp hmm
        go_upto_region 7 with fail
        have R2 : Hid (Rd w g off cs) := R1
        have HTc := Lib.hid HT1.out.drew
        refine wp_region_noPanic ?_
        refine wp_region_held_drew (S := fun W => W.cell? ⟨g, off + j * 2, none⟩ = some (.int .u32 p0) ∧ W.cell? ⟨g, off + j * 2 + 1, none⟩ = some (.int .u32 p1) ∧ W.cell? ⟨X, 0, none⟩ = some (.int .u32 x0) ∧ W.cell? ⟨X, 1, none⟩ = some (.int .u32 x1)) (by kernel_rfl) ?_ (fun hHeld => ?_)
        · exact HTc.out.one R1.out X0.out
        refine wpAnyH_take (i := 0) (v := ?_) rfl (by kernel_rfl) (by kernel_rfl) (by kernel_rfl) (fun _ _ _ h => h) (Or.inl ⟨by rfl, ?_⟩) (by assumption) ?_
        rotate_left
        · (intro w hSw; (try dsimp only at hSw); go_simp; first | done | with_reducible rfl)
        try simp only [Act.put, List.setIfInBounds_toArray, List.set_cons_zero, List.set_cons_succ, List.getElem_toArray, List.getElem_cons_succ, List.getElem_cons_zero]
        refine wpAnyH_take (i := 1) (v := ?_) rfl (by kernel_rfl) (by kernel_rfl) (by kernel_rfl) (fun _ _ _ h => h) (Or.inl ⟨by rfl, ?_⟩) (by assumption) ?_
        rotate_left
        · (intro w hSw; (try dsimp only at hSw); go_simp; first | done | with_reducible rfl)
        try simp only [Act.put, List.setIfInBounds_toArray, List.set_cons_zero, List.set_cons_succ, List.getElem_toArray, List.getElem_cons_succ, List.getElem_cons_zero]
        refine wpAnyH_take (i := 2) (v := ?_) rfl (by kernel_rfl) (by kernel_rfl) (by kernel_rfl) (fun _ _ _ h => h) (Or.inl ⟨by rfl, ?_⟩) (by assumption) ?_
        rotate_left
        · (intro w hSw; (try dsimp only at hSw); go_simp; first | done | with_reducible rfl)
        try simp only [Act.put, List.setIfInBounds_toArray, List.set_cons_zero, List.set_cons_succ, List.getElem_toArray, List.getElem_cons_succ, List.getElem_cons_zero]
        refine wpAnyH_take (i := 3) (v := ?_) rfl (by kernel_rfl) (by kernel_rfl) (by kernel_rfl) (fun _ _ _ h => h) (Or.inl ⟨by rfl, ?_⟩) (by assumption) ?_
        rotate_left
        · (intro w hSw; (try dsimp only at hSw); go_simp; first | done | with_reducible rfl)
        try simp only [Act.put, List.setIfInBounds_toArray, List.set_cons_zero, List.set_cons_succ, List.getElem_toArray, List.getElem_cons_succ, List.getElem_cons_zero]
        refine wpAnyH_take (i := 4) (v := ?_) rfl (by kernel_rfl) (by kernel_rfl) (by kernel_rfl) (fun _ _ _ h => h) (Or.inl ⟨by rfl, ?_⟩) (by assumption) ?_
        rotate_left
        · (intro w hSw; (try dsimp only at hSw); go_simp; first | done | with_reducible rfl)
        try simp only [Act.put, List.setIfInBounds_toArray, List.set_cons_zero, List.set_cons_succ, List.getElem_toArray, List.getElem_cons_succ, List.getElem_cons_zero]
        refine wpAnyH_ready (rs := [5]) (by kernel_rfl) (by simp) ?_
        refine AllReadyH.cons (o := _) rfl ?_ AllReadyH.nil
        intro K hK
        obtain ⟨_, _, y0, y1⟩ := HTc.out.cells
        go_simp
        clear y0 y1
        refine hK.out _ _ ?_ (fun hHeld => ?_)
        · exact HTc.out.one R1.out X0.out
        clear hK K
        try simp only [Act.put, List.setIfInBounds_toArray, List.set_cons_zero, List.set_cons_succ, List.getElem_toArray, List.getElem_cons_succ, List.getElem_cons_zero]
        refine wpAnyH_ready (rs := [6]) (by kernel_rfl) (by simp) ?_
        refine AllReadyH.cons (o := _) rfl ?_ AllReadyH.nil
        intro K hK
        go_simp
        refine (rpmulc_at x0 x1 s0 s1 _).mono ?_
        rintro e Wn ⟨ma, mb, rfl, hpq, hb⟩
        have HMC := Lib.hid hpq
        clear hpq
        have HTn := Lib.hid (HTc.out.step hb)
        clear hb HTc; have HTc := HTn; clear HTn
        go_wp2_with fail
        refine hK.out _ _ ?_ (fun hHeld => ?_)
        · exact HTc.out.one R1.out X0.out
        clear hK K
        try simp only [Act.put, List.setIfInBounds_toArray, List.set_cons_zero, List.set_cons_succ, List.getElem_toArray, List.getElem_cons_succ, List.getElem_cons_zero]
        refine wpAnyH_ready (rs := [7]) (by kernel_rfl) (by simp) ?_
        refine AllReadyH.cons (o := _) rfl ?_ AllReadyH.nil
        intro K hK
        go_simp
        refine (raddc_at p0 p1 ma mb _).mono ?_
        rintro e Wn ⟨ra, rb, rfl, hpq, hb⟩
        have HAC := Lib.hid hpq
        clear hpq
        have HTn := Lib.hid (HTc.out.step hb)
        clear hb HTc; have HTc := HTn; clear HTn
        go_wp2_with fail
        refine hK.out _ _ ?_ (fun hHeld => ?_)
        · exact HTc.out.one R1.out X0.out
        clear hK K
        try simp only [Act.put, List.setIfInBounds_toArray, List.set_cons_zero, List.set_cons_succ, List.getElem_toArray, List.getElem_cons_succ, List.getElem_cons_zero]
        refine wpAnyH_ready (rs := [8]) (by kernel_rfl) (by simp) ?_
        refine AllReadyH.cons (o := _) rfl ?_ AllReadyH.nil
        intro K hK
        obtain ⟨_, _, y0, y1⟩ := HTc.out.cells
        obtain ⟨z0, z1⟩ := HTc.out.ps.frz
        have HTn := Lib.hid (PS.storeS (a := ra) (b := rb) HTc.out rfl)
        go_simp
        clear y0 y1 z0 z1 HTc; have HTc := HTn; clear HTn
        refine hK.out _ _ ?_ (fun hHeld => ?_)
        · exact HTc.out.one R1.out X0.out
        clear hK K
        try simp only [Act.put, List.setIfInBounds_toArray, List.set_cons_zero, List.set_cons_succ, List.getElem_toArray, List.getElem_cons_succ, List.getElem_cons_zero]
        refine wpAnyH_done (by kernel_rfl) ?_ _
        refine NoPanic.normal ?_
        go_wp2_with fail
        try rw [ekj]
        go_roundw
        case rel => exact ⟨j, (j : Int) - 1, ra, rb, Nat.le_of_lt HJ.out, rfl, rfl, by rw [HO.out, HAC.out, HMC.out], HTc.out⟩
        case measure =>
          show ((j : Int) - 1 + 1).toNat < ((j : Int) + 1).toNat
          omega
set_option maxRecDepth 100000 in
set_option maxHeartbeats 8000000 in
theorem rpoly_nil (p : Option Addr) (cap : Nat) (x0 x1 : Nat) (w : World) :
    Calls Try.prog 29 #[.slice p 0 cap, .agg #[.int .u32 x0, .int .u32 x1]] w fun e w' => e = .returned (.agg #[.int .u32 0, .int .u32 0]) ∧ Below w.heap.size w w' := by
  have HT : Hid (PS 57 w w.heap.size (w.heap.size + 1) (w.heap.size + 1 + 1) (x0, x1) (0, 0) (0, 0) _) := PS.make w 57 x0 x1
  go_enter Try.func29, Try.ntmps29
  go_upto_region 2 with fail
  generalize ((w.alloc (Obj.cells #[.int .u32 x0, .int .u32 x1] 57)).alloc (Obj.cells #[.int .u32 0, .int .u32 0] 57)).alloc (Obj.cells #[.int .u32 0, .int .u32 0] 57) = W0 at *
  generalize hS : w.heap.size + 1 + 1 = S at *
  generalize hR : w.heap.size + 1 = R at *
  generalize hX : w.heap.size = X at HT ⊢
  clear hS hR
  have HX := Lib.hid hX
  clear hX
  go_wp2_with fail
  go_loopw [6] (fun s6 wr => s6 = .int .i64 (-1) ∧ PS 57 w X R S (x0, x1) (0, 0) (0, 0) wr) (fun _ _ => 0)
  case atStart => exact ⟨by first | rfl | decide, HT.out⟩
  case round =>
    obtain ⟨rfl, ht⟩ := hrel
    have HT1 := Lib.hid ht
    clear ht HT
    obtain ⟨_, _, y0, y1⟩ := HT1.out.cells
    obtain ⟨z0, z1⟩ := HT1.out.pr.frz
    obtain ⟨c0, c1⟩ := HT1.out.pr.cells
    go_upto_region 8 with fail
    have HTn := Lib.hid (PS.storeR (a := 0) (b := 0) HT1.out rfl)
    go_wp2_with fail
    obtain ⟨W3, hW3⟩ : ∃ W3, W3 = (wr.setCell ⟨R, 0, none⟩ (.int .u32 0)).setCell ⟨R, 1, none⟩ (.int .u32 0) := ⟨_, rfl⟩
    rw [← hW3]
    have HTm : Hid (PS 57 w X R S (x0, x1) (0, 0) (0, 0) W3) := by rw [hW3]; exact HTn.out
    clear hW3 c0 c1 y0 y1 z0 z1 HTn
    obtain ⟨c0, c1⟩ := HTm.out.pr.cells
    exact bodyPost_ret (v := .agg #[.int .u32 0, .int .u32 0]) (by simp [results, Try.results29, go_sem, c0, c1]) rfl ⟨rfl, HTm.out.below⟩
theorem rpoly_all (v : Value) (cs : List (Nat × Nat)) (x0 x1 : Nat) (w : World) (hr : Row w v cs) (h70 : cs.length ≤ 1000) :
    Calls Try.prog 29 #[v, .agg #[.int .u32 x0, .int .u32 x1]] w fun e w' => ∃ a b : Nat, e = .returned (.agg #[.int .u32 a, .int .u32 b]) ∧ (a, b) = ho (x0, x1) cs ∧ Below w.heap.size w w' := by
  by_cases h : cs = []
  · subst h
    obtain ⟨p, cap, rfl, _⟩ := hr
    exact (rpoly_nil p cap x0 x1 w).mono fun _ _ ⟨h1, h2⟩ => ⟨0, 0, h1, rfl, h2⟩
  · exact rpoly_at v cs x0 x1 w hr h h70
end Go.Proofs.Ytlbgpfddmkpakaa.Nu
