/- Numeric: the reference's Product. -/
import Derived.Test.YtlbgpfddmkpakaaFa
import Derived.Test.YtlbgpfddmkpakaaEc
namespace Go.Proofs.Ytlbgpfddmkpakaa.Nu
open Go.RowKit
set_option linter.unusedVariables false
set_option linter.unusedSimpArgs false

/-- A coefficient of a product, from the first so many elements. -/
def pc (a b : List (Nat × Nat)) (t : Nat) : Nat → Nat × Nat
  | 0 => (0, 0)
  | n + 1 => if n ≤ t ∧ t - n < b.length then addc (pc a b t n) (mulc (el a n) (el b (t - n))) else pc a b t n
/-- The product of two lists. -/
def prod (a b : List (Nat × Nat)) : List (Nat × Nat) := if a = [] ∨ b = [] then [] else upto (fun t => pc a b t a.length) (a.length + b.length - 1)
theorem TN.twoGG {e : TypeId} {W0 : World} {u : Value} {xs : List (Nat × Nat)} {v : Value} {ys : List (Nat × Nat)} {fr : List (Nat × Nat × Nat)} {W : World} (h : TN e W0 u xs v ys fr W) {g off g' off' j j' : Nat} {l l' : List (Nat × Nat)} {p p' : Nat × Nat} (r : Rd W0 g off l) (r' : Rd W0 g' off' l') (hj : l[j]? = some p) (hj' : l'[j']? = some p') :
    W.cell? ⟨g, off + j * 2, none⟩ = some (.int .u32 p.1) ∧ W.cell? ⟨g, off + j * 2 + 1, none⟩ = some (.int .u32 p.2) ∧ W.cell? ⟨g', off' + j' * 2, none⟩ = some (.int .u32 p'.1) ∧ W.cell? ⟨g', off' + j' * 2 + 1, none⟩ = some (.int .u32 p'.2) :=
  ⟨((h.rd r).2 _ _ hj).1, ((h.rd r).2 _ _ hj).2, ((h.rd r').2 _ _ hj').1, ((h.rd r').2 _ _ hj').2⟩
set_option maxRecDepth 100000 in
set_option maxHeartbeats 8000000 in
theorem rproduct_at (v u : Value) (a b : List (Nat × Nat)) (w : World) (hr : Row w v a) (hs : Row w u b) (ha : a.length ≤ 64) (hb : b.length ≤ 64) (hane : a ≠ []) (hbne : b ≠ []) :
    Calls Try.prog 31 #[v, u] w fun e w' => ∃ v', e = .returned (.tuple #[v', .int .i64 0]) ∧ Own 57 w.heap.size w' v' (prod a b) ∧ Below w.heap.size w w' := by
  obtain ⟨g, off, cap, rfl, hcap, hrd⟩ := hr.rd hane
  obtain ⟨g2, off2, cap2, rfl, hcap2, hrd2⟩ := hs.rd hbne
  have R1 := Lib.hid hrd
  have R2 := Lib.hid hrd2
  obtain ⟨n, hn⟩ : ∃ n, n = a.length := ⟨_, rfl⟩
  obtain ⟨m, hm⟩ : ∃ m, m = b.length := ⟨_, rfl⟩
  rw [← hn] at ha hcap ⊢
  rw [← hm] at hb hcap2 ⊢
  have hn1 : 1 ≤ n := by rw [hn]; exact List.length_pos_iff.2 hane
  have hm1 : 1 ≤ m := by rw [hm]; exact List.length_pos_iff.2 hbne
  have HPR : Hid (prod a b = upto (fun t => pc a b t n) (n + m - 1)) := by show _ = _; unfold prod; rw [if_neg (by intro h; rcases h with h | h; exact hane h; exact hbne h), hn, hm]
  have HN := Lib.hid hn
  have HM := Lib.hid hm
  have B := Lib.hid (And.intro ha (And.intro hb (And.intro hn1 hm1)))
  have ta : decide (64 < (n : Int)) = false := decide_eq_false (by omega)
  have tb : decide (64 < (m : Int)) = false := decide_eq_false (by omega)
  have tc : decide (0 < n) = true := decide_eq_true (by omega)
  have td : decide (0 < m) = true := decide_eq_true (by omega)
  have tc' : decide (0 < (n : Int)) = true := decide_eq_true (by omega)
  have td' : decide (0 < (m : Int)) = true := decide_eq_true (by omega)
  obtain ⟨N, hN⟩ : ∃ N, N = n + m - 1 := ⟨_, rfl⟩
  have HNN := Lib.hid hN
  have ew1 : wrap64 ((n : Int) + (m : Int)) = (n : Int) + (m : Int) := by unfold wrap64; omega
  have ew2 : wrap64 ((n : Int) + (m : Int) - 1) = (N : Int) := by unfold wrap64; omega
  have EW := Lib.hid (And.intro ew1 ew2)
  clear hr hs hrd hrd2 hn hm ha hb hane hbne hn1 hm1 hN
  go_enter Try.func31, Try.ntmps31
  go_upto_region 4 with fail
  have HT := Lib.hid (TN.empty1 w 57)
  generalize w.alloc (Obj.cells #[] 57) = W0 at *
  generalize Value.slice (some ⟨w.heap.size, 0, none⟩) 0 0 = u0 at *
  obtain ⟨f1, hf1⟩ : ∃ f : Nat → Nat × Nat, f = fun t => pc a b t n := ⟨_, rfl⟩
  have F1 := Lib.hid hf1
  clear hf1 ew1 ew2
  go_wp2_with fail
  go_loopw [6, 7] (fun s6 s7 wr => ∃ t : Nat, ∃ c1 : Value, t ≤ N ∧ s7 = .int .i64 t ∧ s6 = c1 ∧ TN 57 w c1 (upto f1 t) (.slice none 0 0) [] [] wr) (fun _ s7 _ => N - (intOf s7).toNat)
  case atStart => exact ⟨0, _, Nat.zero_le _, rfl, rfl, HT.out⟩
  case round =>
    obtain ⟨t, c1, ht0, rfl, rfl, ht⟩ := hrel
    have HT1 := Lib.hid ht
    obtain ⟨pu, cu, rfl⟩ := ht.o1.slice
    clear ht HT
    have L1 : Hid ((upto f1 t).length = t) := upto_length _ _
    rw [L1.out] at HT1 ⊢
    by_cases hlt : t < N
    · have tl : decide ((t : Int) < (N : Int)) = true := decide_eq_true (by omega)
      have tl' : decide (t < N) = true := decide_eq_true hlt
      have HTL := Lib.hid hlt
      have hb0 := B.out
      have hN := HNN.out
      have ht128 : t ≤ 128 := by omega
      have HLE : Hid (t ≤ 2000) := by show t ≤ 2000; omega
      have ekt : wrap64 ((t : Int) + 1) = ((t + 1 : Nat) : Int) := by unfold wrap64; omega
      obtain ⟨ew1, ew2⟩ := EW.out
      clear hlt ht0 hN hb0
      go_upto_region 8 with fail
      clear ew1 ew2
      have HT2 := Lib.hid (TN.alloc0 HT1.out)
      generalize wr.alloc (Obj.cells #[.int .u32 0, .int .u32 0] 57) = W2 at *
      generalize wr.heap.size = X at *
      clear HT1
      go_wp2_with fail
      go_loopw [9] (fun s9 wr => ∃ i s0 s1 : Nat, i ≤ n ∧ s9 = .int .i64 i ∧ (s0, s1) = pc a b t i ∧ TN 57 w (.slice pu t cu) (upto f1 t) (.slice none 0 0) [] [(X, s0, s1)] wr) (fun s9 _ => n - (intOf s9).toNat)
      case atStart => exact ⟨0, 0, 0, Nat.zero_le _, rfl, rfl, HT2.out⟩
      case round =>
        obtain ⟨i, s0, s1, hi, rfl, hpc, ht⟩ := hrel
        have HT3 := Lib.hid ht
        have HPC := Lib.hid hpc
        clear ht HT2 hpc
        by_cases hlt : i < n
        · have ti : decide ((i : Int) < (n : Int)) = true := decide_eq_true (by omega)
          have ti' : decide (i < n) = true := decide_eq_true hlt
          have HIL := Lib.hid hlt
          have hb0 := B.out
          have eki : wrap64 ((i : Int) + 1) = ((i + 1 : Nat) : Int) := by unfold wrap64; omega
          by_cases hc : i ≤ t ∧ t - i < m
          · obtain ⟨d, hd⟩ : ∃ d, d = t - i := ⟨_, rfl⟩
            have ekd : wrap64 ((t : Int) - (i : Int)) = (d : Int) := by unfold wrap64; omega
            have gg1 : decide ((0 : Int) ≤ (d : Int)) = true := decide_eq_true (by omega)
            have gg2 : decide ((d : Int) < (m : Int)) = true := decide_eq_true (by omega)
            have gg2' : decide (d < m) = true := decide_eq_true (by omega)
            have hx0 := el_get (l := a) (j := i) (by rw [← HN.out]; exact hlt)
            have hx1 := el_get (l := b) (j := d) (by rw [← HM.out]; omega)
            have hp : pc a b t (i + 1) = addc (s0, s1) (mulc (el a i) (el b d)) := by
              show (if i ≤ t ∧ t - i < b.length then _ else _) = _
              rw [if_pos (by rw [← HM.out]; exact hc), ← HPC.out, ← hd]
            generalize el a i = p at *
            generalize el b d = q at *
            obtain ⟨p0, p1⟩ := p
            obtain ⟨q0, q1⟩ := q
            have bi : (i : Int) < (n : Int) := by omega
            have bi' : i < n := hlt
            have bd : (d : Int) < (m : Int) := by omega
            have bd' : d < m := by omega
            have X0 := Lib.hid hx0
            have X1 := Lib.hid hx1
            have HP := Lib.hid hp
            clear hx0 hx1 hp hc hd hlt hi hb0
            go_upto_region 12 with fail
            have ekdW : IntKind.i64.wrap ((t : Int) - (i : Int)) = (d : Int) := (Go.IntWalk.i64_left _).trans ekd
            have HTc := Lib.hid HT3.out.drew
            refine wp_region_noPanic ?_
            refine wp_region_held_drew (S := fun W => W.cell? ⟨g, off + i * 2, none⟩ = some (.int .u32 p0) ∧ W.cell? ⟨g, off + i * 2 + 1, none⟩ = some (.int .u32 p1) ∧ W.cell? ⟨g2, off2 + d * 2, none⟩ = some (.int .u32 q0) ∧ W.cell? ⟨g2, off2 + d * 2 + 1, none⟩ = some (.int .u32 q1)) (by kernel_rfl) ?_ (fun hHeld => ?_)
            · exact HTc.out.twoGG R1.out R2.out X0.out X1.out
            refine wpAnyH_take (i := 1) (v := ?_) rfl (by kernel_rfl) (by kernel_rfl) (by kernel_rfl) (fun _ _ _ h => h) (Or.inl ⟨by rfl, ?_⟩) (by assumption) ?_
            rotate_left
            · (intro w hSw; (try dsimp only at hSw); go_simp; first | done | with_reducible rfl)
            try simp only [Act.put, List.setIfInBounds_toArray, List.set_cons_zero, List.set_cons_succ, List.getElem_toArray, List.getElem_cons_succ, List.getElem_cons_zero]
            refine wpAnyH_take (i := 2) (v := ?_) rfl (by kernel_rfl) (by kernel_rfl) (by kernel_rfl) (fun _ _ _ h => h) (Or.inl ⟨by rfl, ?_⟩) (by assumption) ?_
            rotate_left
            · (intro w hSw; (try dsimp only at hSw); go_simp; first | done | with_reducible rfl)
            try simp only [Act.put, List.setIfInBounds_toArray, List.set_cons_zero, List.set_cons_succ, List.getElem_toArray, List.getElem_cons_succ, List.getElem_cons_zero]
            refine wpAnyH_take (i := 3) (v := ?_) rfl (by kernel_rfl) (by kernel_rfl) (by kernel_rfl) (fun _ _ _ h => h) (Or.inl ⟨by rfl, ?_⟩) (by assumption) ?_
            rotate_left
            · (intro w hSw; (try dsimp only at hSw); go_simp; first | done | with_reducible rfl)
            try simp only [Act.put, List.setIfInBounds_toArray, List.set_cons_zero, List.set_cons_succ, List.getElem_toArray, List.getElem_cons_succ, List.getElem_cons_zero]
            refine wpAnyH_take (i := 4) (v := ?_) rfl (by kernel_rfl) (by kernel_rfl) (by kernel_rfl) (fun _ _ _ h => h) (Or.inl ⟨by rfl, ?_⟩) (by assumption) ?_
            rotate_left
            · (intro w hSw; (try dsimp only at hSw); go_simp; first | done | with_reducible rfl)
            try simp only [Act.put, List.setIfInBounds_toArray, List.set_cons_zero, List.set_cons_succ, List.getElem_toArray, List.getElem_cons_succ, List.getElem_cons_zero]
            refine wpAnyH_take (i := 5) (v := ?_) rfl (by kernel_rfl) (by kernel_rfl) (by kernel_rfl) (fun _ _ _ h => h) (Or.inl ⟨by rfl, ?_⟩) (by assumption) ?_
            rotate_left
            · (intro w hSw; (try dsimp only at hSw); go_simp; first | done | with_reducible rfl)
            try simp only [Act.put, List.setIfInBounds_toArray, List.set_cons_zero, List.set_cons_succ, List.getElem_toArray, List.getElem_cons_succ, List.getElem_cons_zero]
            refine wpAnyH_take (i := 6) (v := ?_) rfl (by kernel_rfl) (by kernel_rfl) (by kernel_rfl) (fun _ _ _ h => h) (Or.inl ⟨by rfl, ?_⟩) (by assumption) ?_
            rotate_left
            · (intro w hSw; (try dsimp only at hSw); go_simp; first | done | with_reducible rfl)
            try simp only [Act.put, List.setIfInBounds_toArray, List.set_cons_zero, List.set_cons_succ, List.getElem_toArray, List.getElem_cons_succ, List.getElem_cons_zero]
            refine wpAnyH_take (i := 7) (v := ?_) rfl (by kernel_rfl) (by kernel_rfl) (by kernel_rfl) (fun _ _ _ h => h) (Or.inl ⟨by rfl, ?_⟩) (by assumption) ?_
            rotate_left
            · (intro w hSw; (try dsimp only at hSw); go_simp; first | done | with_reducible rfl)
            try simp only [Act.put, List.setIfInBounds_toArray, List.set_cons_zero, List.set_cons_succ, List.getElem_toArray, List.getElem_cons_succ, List.getElem_cons_zero]
            refine wpAnyH_take (i := 8) (v := ?_) rfl (by kernel_rfl) (by kernel_rfl) (by kernel_rfl) (fun _ _ _ h => h) (Or.inl ⟨by rfl, ?_⟩) (by assumption) ?_
            rotate_left
            · (intro w hSw; (try dsimp only at hSw); go_simp; first | done | with_reducible rfl)
            try simp only [Act.put, List.setIfInBounds_toArray, List.set_cons_zero, List.set_cons_succ, List.getElem_toArray, List.getElem_cons_succ, List.getElem_cons_zero]
            refine wpAnyH_take (i := 9) (v := ?_) rfl (by kernel_rfl) (by kernel_rfl) (by kernel_rfl) (fun _ _ _ h => h) (Or.inl ⟨by rfl, ?_⟩) (by assumption) ?_
            rotate_left
            · (intro w hSw; (try dsimp only at hSw); go_simp; first | done | with_reducible rfl)
            try simp only [Act.put, List.setIfInBounds_toArray, List.set_cons_zero, List.set_cons_succ, List.getElem_toArray, List.getElem_cons_succ, List.getElem_cons_zero]
            refine wpAnyH_take (i := 10) (v := ?_) rfl (by kernel_rfl) (by kernel_rfl) (by kernel_rfl) (fun _ _ _ h => h) (Or.inl ⟨by rfl, ?_⟩) (by assumption) ?_
            rotate_left
            · (intro w hSw; (try dsimp only at hSw); go_simp; first | done | with_reducible rfl)
            try simp only [Act.put, List.setIfInBounds_toArray, List.set_cons_zero, List.set_cons_succ, List.getElem_toArray, List.getElem_cons_succ, List.getElem_cons_zero]
            refine wpAnyH_ready (rs := [0, 11]) (by kernel_rfl) (by simp) ?_
            refine AllReadyH.cons (o := _) rfl ?_ (AllReadyH.cons (o := _) rfl ?_ AllReadyH.nil)
            · intro K hK
              obtain ⟨x0, x1⟩ := HTc.out.ptX
              go_simp
              clear x0 x1
              refine hK.out _ _ ?_ (fun hHeld => ?_)
              · exact HTc.out.twoGG R1.out R2.out X0.out X1.out
              clear hK K
              try simp only [Act.put, List.setIfInBounds_toArray, List.set_cons_zero, List.set_cons_succ, List.getElem_toArray, List.getElem_cons_succ, List.getElem_cons_zero]
              refine wpAnyH_ready (rs := [11]) (by kernel_rfl) (by simp) ?_
              refine AllReadyH.cons (o := _) rfl ?_ AllReadyH.nil
              intro K hK
              go_simp
              refine (R.mulc_at p0 p1 q0 q1 _).mono ?_
              rintro e Wn ⟨ma, mb, rfl, hpq, hb⟩
              have HMC := Lib.hid hpq
              clear hpq
              have HTn := Lib.hid (HTc.out.step hb)
              clear hb HTc; have HTc := HTn; clear HTn
              go_wp2_with fail
              refine hK.out _ _ ?_ (fun hHeld => ?_)
              · exact HTc.out.twoGG R1.out R2.out X0.out X1.out
              clear hK K
              try simp only [Act.put, List.setIfInBounds_toArray, List.set_cons_zero, List.set_cons_succ, List.getElem_toArray, List.getElem_cons_succ, List.getElem_cons_zero]
              refine wpAnyH_ready (rs := [12]) (by kernel_rfl) (by simp) ?_
              refine AllReadyH.cons (o := _) rfl ?_ AllReadyH.nil
              intro K hK
              go_simp
              refine (raddc_at s0 s1 ma mb _).mono ?_
              rintro e Wn ⟨ra, rb, rfl, hpq, hb⟩
              have HAC := Lib.hid hpq
              clear hpq
              have HTn := Lib.hid (HTc.out.step hb)
              clear hb HTc; have HTc := HTn; clear HTn
              go_wp2_with fail
              refine hK.out _ _ ?_ (fun hHeld => ?_)
              · exact HTc.out.twoGG R1.out R2.out X0.out X1.out
              clear hK K
              try simp only [Act.put, List.setIfInBounds_toArray, List.set_cons_zero, List.set_cons_succ, List.getElem_toArray, List.getElem_cons_succ, List.getElem_cons_zero]
              refine wpAnyH_ready (rs := [13]) (by kernel_rfl) (by simp) ?_
              refine AllReadyH.cons (o := _) rfl ?_ AllReadyH.nil
              intro K hK
              obtain ⟨x0, x1⟩ := HTc.out.ptX
              obtain ⟨z0, z1⟩ := (HTc.out.fresh _ (List.mem_singleton.2 rfl)).1.frz
              have HTn := Lib.hid (TN.store1 (a := ra) (b := rb) HTc.out rfl)
              go_simp
              clear x0 x1 z0 z1 HTc; have HTc := HTn; clear HTn
              refine hK.out _ _ ?_ (fun hHeld => ?_)
              · exact HTc.out.twoGG R1.out R2.out X0.out X1.out
              clear hK K
              try simp only [Act.put, List.setIfInBounds_toArray, List.set_cons_zero, List.set_cons_succ, List.getElem_toArray, List.getElem_cons_succ, List.getElem_cons_zero]
              refine wpAnyH_done (by kernel_rfl) ?_ _
              refine NoPanic.normal ?_
              go_wp2_with fail
              try rw [eki]
              go_roundw
              case rel => exact ⟨i + 1, ra, rb, HIL.out, rfl, by rw [HAC.out, HMC.out]; exact HP.out.symm, HTc.out⟩
              case measure =>
                have := HIL.out
                show n - ((i + 1 : Nat) : Int).toNat < n - (i : Int).toNat
                omega
            · intro K hK
              go_simp
              refine (R.mulc_at p0 p1 q0 q1 _).mono ?_
              rintro e Wn ⟨ma, mb, rfl, hpq, hb⟩
              have HMC := Lib.hid hpq
              clear hpq
              have HTn := Lib.hid (HTc.out.step hb)
              clear hb HTc; have HTc := HTn; clear HTn
              go_wp2_with fail
              refine hK.out _ _ ?_ (fun hHeld => ?_)
              · exact HTc.out.twoGG R1.out R2.out X0.out X1.out
              clear hK K
              try simp only [Act.put, List.setIfInBounds_toArray, List.set_cons_zero, List.set_cons_succ, List.getElem_toArray, List.getElem_cons_succ, List.getElem_cons_zero]
              refine wpAnyH_ready (rs := [0]) (by kernel_rfl) (by simp) ?_
              refine AllReadyH.cons (o := _) rfl ?_ AllReadyH.nil
              intro K hK
              obtain ⟨x0, x1⟩ := HTc.out.ptX
              go_simp
              clear x0 x1
              refine hK.out _ _ ?_ (fun hHeld => ?_)
              · exact HTc.out.twoGG R1.out R2.out X0.out X1.out
              clear hK K
              try simp only [Act.put, List.setIfInBounds_toArray, List.set_cons_zero, List.set_cons_succ, List.getElem_toArray, List.getElem_cons_succ, List.getElem_cons_zero]
              refine wpAnyH_ready (rs := [12]) (by kernel_rfl) (by simp) ?_
              refine AllReadyH.cons (o := _) rfl ?_ AllReadyH.nil
              intro K hK
              go_simp
              refine (raddc_at s0 s1 ma mb _).mono ?_
              rintro e Wn ⟨ra, rb, rfl, hpq, hb⟩
              have HAC := Lib.hid hpq
              clear hpq
              have HTn := Lib.hid (HTc.out.step hb)
              clear hb HTc; have HTc := HTn; clear HTn
              go_wp2_with fail
              refine hK.out _ _ ?_ (fun hHeld => ?_)
              · exact HTc.out.twoGG R1.out R2.out X0.out X1.out
              clear hK K
              try simp only [Act.put, List.setIfInBounds_toArray, List.set_cons_zero, List.set_cons_succ, List.getElem_toArray, List.getElem_cons_succ, List.getElem_cons_zero]
              refine wpAnyH_ready (rs := [13]) (by kernel_rfl) (by simp) ?_
              refine AllReadyH.cons (o := _) rfl ?_ AllReadyH.nil
              intro K hK
              obtain ⟨x0, x1⟩ := HTc.out.ptX
              obtain ⟨z0, z1⟩ := (HTc.out.fresh _ (List.mem_singleton.2 rfl)).1.frz
              have HTn := Lib.hid (TN.store1 (a := ra) (b := rb) HTc.out rfl)
              go_simp
              clear x0 x1 z0 z1 HTc; have HTc := HTn; clear HTn
              refine hK.out _ _ ?_ (fun hHeld => ?_)
              · exact HTc.out.twoGG R1.out R2.out X0.out X1.out
              clear hK K
              try simp only [Act.put, List.setIfInBounds_toArray, List.set_cons_zero, List.set_cons_succ, List.getElem_toArray, List.getElem_cons_succ, List.getElem_cons_zero]
              refine wpAnyH_done (by kernel_rfl) ?_ _
              refine NoPanic.normal ?_
              go_wp2_with fail
              try rw [eki]
              go_roundw
              case rel => exact ⟨i + 1, ra, rb, HIL.out, rfl, by rw [HAC.out, HMC.out]; exact HP.out.symm, HTc.out⟩
              case measure =>
                have := HIL.out
                show n - ((i + 1 : Nat) : Int).toNat < n - (i : Int).toNat
                omega
          · have hp : pc a b t (i + 1) = (s0, s1) := by
              show (if i ≤ t ∧ t - i < b.length then _ else _) = _
              rw [if_neg (by rw [← HM.out]; exact hc), ← HPC.out]
            have HP := Lib.hid hp
            clear hp
            by_cases hti : i ≤ t
            · obtain ⟨d, hd⟩ : ∃ d, d = t - i := ⟨_, rfl⟩
              have ekd : wrap64 ((t : Int) - (i : Int)) = (d : Int) := by unfold wrap64; omega
              have gg1 : decide ((0 : Int) ≤ (d : Int)) = true := decide_eq_true (by omega)
              have gg2 : decide ((d : Int) < (m : Int)) = false := decide_eq_false (by omega)
              have gg2' : decide (d < m) = false := decide_eq_false (by omega)
              clear hc hd hlt hi hb0 hti
              go_wp2_with fail
              try rw [eki]
              go_roundw
              case rel => exact ⟨i + 1, s0, s1, HIL.out, rfl, HP.out.symm, HT3.out⟩
              case measure =>
                have := HIL.out
                show n - ((i + 1 : Nat) : Int).toNat < n - (i : Int).toNat
                omega
            · obtain ⟨z, hz⟩ : ∃ z, z = (t : Int) - (i : Int) := ⟨_, rfl⟩
              have ekd : wrap64 ((t : Int) - (i : Int)) = z := by unfold wrap64; omega
              have gg1 : decide ((0 : Int) ≤ z) = false := decide_eq_false (by omega)
              clear hc hz hlt hi hb0 hti
              go_wp2_with fail
              try rw [eki]
              go_roundw
              case rel => exact ⟨i + 1, s0, s1, HIL.out, rfl, HP.out.symm, HT3.out⟩
              case measure =>
                have := HIL.out
                show n - ((i + 1 : Nat) : Int).toNat < n - (i : Int).toNat
                omega
        · have hin : i = n := by omega
          have ti : decide ((i : Int) < (n : Int)) = false := decide_eq_false (by omega)
          have ti' : decide (i < n) = false := decide_eq_false hlt
          have HC : Hid (upto f1 (t + 1) = upto f1 t ++ [(s0, s1)]) := by show _ = _; rw [upto_succ, F1.out, HPC.out, hin]
          clear hlt hi hin
          obtain ⟨x0, x1⟩ := HT3.out.ptX
          go_wp2_with (at_builtin; refine wpList_TN1 nt57 (HT3.out.alloc s0 s1) List.mem_cons_self rfl _ _ rfl rfl rfl L1.out HLE.out ?_; intro p8 k8 W8 h8; have HT8 := Lib.hid (h8.forget (fr' := []) (fun y hy => by cases hy)); clear h8)
          try rw [ekt]
          clear x0 x1
          go_roundw
          case rel => exact ⟨t + 1, _, HTL.out, rfl, rfl, by rw [HC.out]; exact HT8.out⟩
          case measure =>
            have := HTL.out
            show N - ((t + 1 : Nat) : Int).toNat < N - (t : Int).toNat
            omega
    · have htN : N = t := by omega
      have tl : decide ((t : Int) < (N : Int)) = false := decide_eq_false (by omega)
      have tl' : decide (t < N) = false := decide_eq_false hlt
      obtain ⟨ew1, ew2⟩ := EW.out
      have HPR2 : Hid (prod a b = upto f1 t) := by show _ = _; rw [HPR.out, F1.out, ← htN, HNN.out]
      clear hlt ht0 htN
      go_wp2_with fail
      refine bodyPost_ret (v := .tuple #[.slice pu t cu, .int .i64 0]) (by simp [results, Try.results31, go_sem]) rfl ⟨_, rfl, ?_, HT1.out.below⟩
      rw [HPR2.out]
      exact HT1.out.o1
end Go.Proofs.Ytlbgpfddmkpakaa.Nu
