/- Numeric: the program's Product. -/
import Derived.Test.YtlbgpfddmkpakaaJa
namespace Go.Proofs.Ytlbgpfddmkpakaa.Nu
open Go.RowKit
set_option linter.unusedVariables false
set_option linter.unusedSimpArgs false

/-- A coefficient within a round. -/
def pcp (a b : List (Nat × Nat)) (i k t : Nat) : Nat × Nat := if i ≤ t ∧ t - i < k then addc (pc a b t i) (mulc (el a i) (el b (t - i))) else pc a b t i
theorem pcp_zero (a b : List (Nat × Nat)) (i N : Nat) : upto (pcp a b i 0) N = upto (fun t => pc a b t i) N := upto_ext fun t _ => by unfold pcp; rw [if_neg (by omega)]
theorem pcp_end (a b : List (Nat × Nat)) (i N : Nat) : upto (pcp a b i b.length) N = upto (fun t => pc a b t (i + 1)) N := upto_ext fun t _ => rfl
theorem pcp_el (a b : List (Nat × Nat)) {i k N : Nat} (h : i + k < N) : el (upto (pcp a b i k) N) (i + k) = pc a b (i + k) i := by
  unfold el
  rw [List.getD_eq_getElem?_getD, upto_get _ h]
  show pcp a b i k (i + k) = _
  unfold pcp
  rw [if_neg (by omega)]
theorem pcp_step (a b : List (Nat × Nat)) {i k N : Nat} (h : i + k < N) : (upto (pcp a b i k) N).set (i + k) (addc (pc a b (i + k) i) (mulc (el a i) (el b k))) = upto (pcp a b i (k + 1)) N := by
  apply List.ext_getElem?
  intro t
  rw [List.getElem?_set, upto_length]
  by_cases ht : t < N
  · rw [upto_get _ ht, upto_get _ ht]
    by_cases h1 : i + k = t
    · subst h1
      rw [if_pos rfl, if_pos h]
      unfold pcp
      rw [if_pos (by omega), show i + k - i = k by omega]
    · rw [if_neg h1]
      unfold pcp
      by_cases h2 : i ≤ t ∧ t - i < k
      · rw [if_pos h2, if_pos (by omega)]
      · rw [if_neg h2, if_neg (by omega)]
  · rw [List.getElem?_eq_none (by rw [upto_length]; omega), List.getElem?_eq_none (by rw [upto_length]; omega)]
    split
    · exact absurd (by omega) ht
    · rfl
theorem ar_ik {i k n m N : Nat} (h1 : i < n) (h2 : k < m) (h3 : N = n + m - 1) : (k : Int) < (m : Int) ∧ (0 : Int) ≤ (i : Int) + (k : Int) ∧ (i : Int) + (k : Int) < (N : Int) ∧ ((i : Int) + (k : Int)).toNat = i + k ∧ i + k < N := by omega
theorem TN.pts2 {e : TypeId} {W0 : World} {u : Value} {xs : List (Nat × Nat)} {v : Value} {ys : List (Nat × Nat)} {X Y p0 p1 q0 q1 : Nat} {W : World} (h : TN e W0 u xs v ys [(Y, q0, q1), (X, p0, p1)] W) :
    W.cell? ⟨X, 0, none⟩ = some (.int .u32 p0) ∧ W.cell? ⟨X, 1, none⟩ = some (.int .u32 p1) ∧ W.cell? ⟨Y, 0, none⟩ = some (.int .u32 q0) ∧ W.cell? ⟨Y, 1, none⟩ = some (.int .u32 q1) :=
  ⟨(h.pt (List.mem_cons_of_mem _ (List.mem_singleton.2 rfl))).1, (h.pt (List.mem_cons_of_mem _ (List.mem_singleton.2 rfl))).2, (h.pt List.mem_cons_self).1, (h.pt List.mem_cons_self).2⟩
set_option maxRecDepth 100000 in
set_option maxHeartbeats 8000000 in
theorem pproduct_at (v u : Value) (a b : List (Nat × Nat)) (w : World) (hr : Row w v a) (hs : Row w u b) (ha : a.length ≤ 64) (hb : b.length ≤ 64) (hane : a ≠ []) (hbne : b ≠ []) :
    Calls Try.prog 30 #[v, u] w fun e w' => ∃ v', e = .returned (.tuple #[v', .int .i64 0]) ∧ Own 26 w.heap.size w' v' (prod a b) ∧ Below w.heap.size w w' := by
  obtain ⟨g, off, cap, rfl, hcap, hrd⟩ := hr.rd hane
  obtain ⟨g2, off2, cap2, rfl, hcap2, hrd2⟩ := hs.rd hbne
  have R1 := Lib.hid hrd
  have R2 := Lib.hid hrd2
  obtain ⟨n, hn⟩ : ∃ n, n = a.length := ⟨_, rfl⟩
  obtain ⟨m, hm⟩ : ∃ m, m = b.length := ⟨_, rfl⟩
  rw [← hn] at ha hcap ⊢
  rw [← hm] at hb hcap2 ⊢
  have hn1 : 1 ≤ n := by rw [hn]; exact List.length_pos_iff.2 hane
  have hm1 : 1 ≤ m := by rw [hm]; exact List.length_pos_iff.2 hbne
  have HPR : Hid (prod a b = upto (fun t => pc a b t n) (n + m - 1)) := by show _ = _; unfold prod; rw [if_neg (by intro h; rcases h with h | h; exact hane h; exact hbne h), hn, hm]
  have HN := Lib.hid hn
  have HM := Lib.hid hm
  have B := Lib.hid (And.intro ha (And.intro hb (And.intro hn1 hm1)))
  have ta : decide (64 < (n : Int)) = false := decide_eq_false (by omega)
  have tb : decide (64 < (m : Int)) = false := decide_eq_false (by omega)
  have tc : ((n : Int) == 0) = false := beq_false_of_ne (by omega)
  have td : ((m : Int) == 0) = false := beq_false_of_ne (by omega)
  obtain ⟨N, hN⟩ : ∃ N, N = n + m - 1 := ⟨_, rfl⟩
  have HNN := Lib.hid hN
  have ew1 : wrap64 ((n : Int) + (m : Int)) = (n : Int) + (m : Int) := by unfold wrap64; omega
  have ew2 : wrap64 ((n : Int) + (m : Int) - 1) = (N : Int) := by unfold wrap64; omega
  obtain ⟨W0, hmk, ht0⟩ := mk_row w N (by omega)
  have HT : Hid (TN 26 w (.slice (some ⟨w.heap.size, 0, none⟩) N N) (upto (fun t => pc a b t 0) N) (.slice none 0 0) [] [] W0) := ht0
  clear hr hs hrd hrd2 hn hm ha hb hane hbne hn1 hm1 hN ht0
  go_enter Try.func30, Try.ntmps30
  go_upto_region 6 with fail
  clear hmk ew1 ew2
  obtain ⟨G, hG⟩ : ∃ G, G = w.heap.size := ⟨_, rfl⟩
  have HGG : Hid (w.heap.size = G) := hG.symm
  have HT' := HT.out
  rw [← hG] at HT' ⊢
  have HT2 := Lib.hid HT'
  clear HT HT' hG
  go_wp2_with fail
  go_loopw [38] (fun s38 wr => ∃ i : Nat, i ≤ n ∧ s38 = .int .i64 i ∧ TN 26 w (.slice (some ⟨G, 0, none⟩) N N) (upto (fun t => pc a b t i) N) (.slice none 0 0) [] [] wr) (fun s38 _ => n - (intOf s38).toNat)
  case atStart => exact ⟨0, Nat.zero_le _, rfl, HT2.out⟩
  case round =>
    obtain ⟨i, hi, rfl, ht⟩ := hrel
    have HT1 := Lib.hid ht
    clear ht HT2
    by_cases hlt : i < n
    · have tl : decide ((i : Int) < (n : Int)) = true := decide_eq_true (by omega)
      have tl' : decide (i < n) = true := decide_eq_true hlt
      have HIL := Lib.hid hlt
      have hb0 := B.out
      have hx0 := el_get (l := a) (j := i) (by rw [← HN.out]; exact hlt)
      obtain ⟨c0, c1⟩ := (HT1.out.rd R1.out).2 _ _ hx0
      obtain ⟨p, hp⟩ : ∃ p, p = el a i := ⟨_, rfl⟩
      rw [← hp] at c0 c1
      have HPE := Lib.hid hp
      obtain ⟨p0, p1⟩ := p
      have bi : (i : Int) < (n : Int) := by omega
      have bi' : i < n := hlt
      have eki : wrap64 ((i : Int) + 1) = ((i + 1 : Nat) : Int) := by unfold wrap64; omega
      have hi128 : i ≤ 128 := by omega
      clear hlt hi hb0 hx0 hp
      go_upto_region 9 with fail
      have HT3 := Lib.hid (HT1.out.alloc p0 p1)
      generalize wr.alloc (Obj.cells #[.int .u32 p0, .int .u32 p1] 26) = W2 at *
      generalize wr.heap.size = X at *
      clear HT1 c0 c1
      go_wp2_with fail
      go_loopw [45] (fun s45 wr => ∃ k : Nat, k ≤ m ∧ s45 = .int .i64 k ∧ TN 26 w (.slice (some ⟨G, 0, none⟩) N N) (upto (pcp a b i k) N) (.slice none 0 0) [] [(X, p0, p1)] wr) (fun s45 _ => m - (intOf s45).toNat)
      case atStart => exact ⟨0, Nat.zero_le _, rfl, by rw [pcp_zero]; exact HT3.out⟩
      case round =>
        obtain ⟨k, hk, rfl, ht⟩ := hrel
        have HT4 := Lib.hid ht
        clear ht HT3
        by_cases hlt : k < m
        · have ti : decide ((k : Int) < (m : Int)) = true := decide_eq_true (by omega)
          have ti' : decide (k < m) = true := decide_eq_true hlt
          have HKL := Lib.hid hlt
          have hb0 := B.out
          have hNN := HNN.out
          have ekk : wrap64 ((k : Int) + 1) = ((k + 1 : Nat) : Int) := by unfold wrap64; omega
          have eks : wrap64 ((i : Int) + (k : Int)) = (i : Int) + (k : Int) := by unfold wrap64; omega
          have hx1 := el_get (l := b) (j := k) (by rw [← HM.out]; exact hlt)
          obtain ⟨c0, c1⟩ := (HT4.out.rd R2.out).2 _ _ hx1
          obtain ⟨q, hq⟩ : ∃ q, q = el b k := ⟨_, rfl⟩
          rw [← hq] at c0 c1
          have HQE := Lib.hid hq
          obtain ⟨q0, q1⟩ := q
          obtain ⟨bk, bs1, bs2, bs3, hikN⟩ := ar_ik HIL.out hlt hNN
          have bk' : k < m := hlt
          have BIK := Lib.hid hikN
          have HST := Lib.hid (pcp_step a b hikN)
          have HEL := Lib.hid (pcp_el a b hikN)
          clear hk hlt hb0 hNN hx1 hq hikN
          go_upto_region 12 with fail
          have HT5 := Lib.hid (HT4.out.alloc q0 q1)
          generalize wr.alloc (Obj.cells #[.int .u32 q0, .int .u32 q1] 26) = W5 at *
          generalize wr.heap.size = Y at *
          clear HT4 c0 c1
          have eksW : IntKind.i64.wrap ((i : Int) + (k : Int)) = (i : Int) + (k : Int) := (Go.IntWalk.i64_left _).trans eks
          have HTc := Lib.hid HT5.out.drew
          refine wp_region_noPanic ?_
          refine wp_region_held_drew (S := fun W => W.cell? ⟨X, 0, none⟩ = some (.int .u32 p0) ∧ W.cell? ⟨X, 1, none⟩ = some (.int .u32 p1) ∧ W.cell? ⟨Y, 0, none⟩ = some (.int .u32 q0) ∧ W.cell? ⟨Y, 1, none⟩ = some (.int .u32 q1)) (by kernel_rfl) ?_ (fun hHeld => ?_)
          · exact HTc.out.pts2
          refine wpAnyH_take (i := 0) (v := ?_) rfl (by kernel_rfl) (by kernel_rfl) (by kernel_rfl) (fun _ _ _ h => h) (Or.inl ⟨by rfl, ?_⟩) (by assumption) ?_
          rotate_left
          · (intro w hSw; (try dsimp only at hSw); go_simp; first | done | with_reducible rfl)
          try simp only [Act.put, List.setIfInBounds_toArray, List.set_cons_zero, List.set_cons_succ, List.getElem_toArray, List.getElem_cons_succ, List.getElem_cons_zero]
          refine wpAnyH_take (i := 1) (v := ?_) rfl (by kernel_rfl) (by kernel_rfl) (by kernel_rfl) (fun _ _ _ h => h) (Or.inl ⟨by rfl, ?_⟩) (by assumption) ?_
          rotate_left
          · (intro w hSw; (try dsimp only at hSw); go_simp; first | done | with_reducible rfl)
          try simp only [Act.put, List.setIfInBounds_toArray, List.set_cons_zero, List.set_cons_succ, List.getElem_toArray, List.getElem_cons_succ, List.getElem_cons_zero]
          refine wpAnyH_take (i := 2) (v := ?_) rfl (by kernel_rfl) (by kernel_rfl) (by kernel_rfl) (fun _ _ _ h => h) (Or.inl ⟨by rfl, ?_⟩) (by assumption) ?_
          rotate_left
          · (intro w hSw; (try dsimp only at hSw); go_simp; first | done | with_reducible rfl)
          try simp only [Act.put, List.setIfInBounds_toArray, List.set_cons_zero, List.set_cons_succ, List.getElem_toArray, List.getElem_cons_succ, List.getElem_cons_zero]
          refine wpAnyH_take (i := 3) (v := ?_) rfl (by kernel_rfl) (by kernel_rfl) (by kernel_rfl) (fun _ _ _ h => h) (Or.inl ⟨by rfl, ?_⟩) (by assumption) ?_
          rotate_left
          · (intro w hSw; (try dsimp only at hSw); go_simp; first | done | with_reducible rfl)
          try simp only [Act.put, List.setIfInBounds_toArray, List.set_cons_zero, List.set_cons_succ, List.getElem_toArray, List.getElem_cons_succ, List.getElem_cons_zero]
          refine wpAnyH_take (i := 4) (v := ?_) rfl (by kernel_rfl) (by kernel_rfl) (by kernel_rfl) (fun _ _ _ h => h) (Or.inl ⟨by rfl, ?_⟩) (by assumption) ?_
          rotate_left
          · (intro w hSw; (try dsimp only at hSw); go_simp; first | done | with_reducible rfl)
          try simp only [Act.put, List.setIfInBounds_toArray, List.set_cons_zero, List.set_cons_succ, List.getElem_toArray, List.getElem_cons_succ, List.getElem_cons_zero]
          refine wpAnyH_take (i := 5) (v := ?_) rfl (by kernel_rfl) (by kernel_rfl) (by kernel_rfl) (fun _ _ _ h => h) (Or.inl ⟨by rfl, ?_⟩) (by assumption) ?_
          rotate_left
          · (intro w hSw; (try dsimp only at hSw); go_simp; first | done | with_reducible rfl)
          try simp only [Act.put, List.setIfInBounds_toArray, List.set_cons_zero, List.set_cons_succ, List.getElem_toArray, List.getElem_cons_succ, List.getElem_cons_zero]
          refine wpAnyH_take (i := 6) (v := ?_) rfl (by kernel_rfl) (by kernel_rfl) (by kernel_rfl) (fun _ _ _ h => h) (Or.inl ⟨by rfl, ?_⟩) (by assumption) ?_
          rotate_left
          · (intro w hSw; (try dsimp only at hSw); go_simp; first | done | with_reducible rfl)
          try simp only [Act.put, List.setIfInBounds_toArray, List.set_cons_zero, List.set_cons_succ, List.getElem_toArray, List.getElem_cons_succ, List.getElem_cons_zero]
          refine wpAnyH_take (i := 7) (v := ?_) rfl (by kernel_rfl) (by kernel_rfl) (by kernel_rfl) (fun _ _ _ h => h) (Or.inl ⟨by rfl, ?_⟩) (by assumption) ?_
          rotate_left
          · (intro w hSw; (try dsimp only at hSw); go_simp; first | done | with_reducible rfl)
          try simp only [Act.put, List.setIfInBounds_toArray, List.set_cons_zero, List.set_cons_succ, List.getElem_toArray, List.getElem_cons_succ, List.getElem_cons_zero]
          refine wpAnyH_take (i := 8) (v := ?_) rfl (by kernel_rfl) (by kernel_rfl) (by kernel_rfl) (fun _ _ _ h => h) (Or.inl ⟨by rfl, ?_⟩) (by assumption) ?_
          rotate_left
          · (intro w hSw; (try dsimp only at hSw); go_simp; first | done | with_reducible rfl)
          try simp only [Act.put, List.setIfInBounds_toArray, List.set_cons_zero, List.set_cons_succ, List.getElem_toArray, List.getElem_cons_succ, List.getElem_cons_zero]
          refine wpAnyH_take (i := 10) (v := ?_) rfl (by kernel_rfl) (by kernel_rfl) (by kernel_rfl) (fun _ _ _ h => h) (Or.inl ⟨by rfl, ?_⟩) (by assumption) ?_
          rotate_left
          · (intro w hSw; (try dsimp only at hSw); go_simp; first | done | with_reducible rfl)
          try simp only [Act.put, List.setIfInBounds_toArray, List.set_cons_zero, List.set_cons_succ, List.getElem_toArray, List.getElem_cons_succ, List.getElem_cons_zero]
          refine wpAnyH_take (i := 11) (v := ?_) rfl (by kernel_rfl) (by kernel_rfl) (by kernel_rfl) (fun _ _ _ h => h) (Or.inl ⟨by rfl, ?_⟩) (by assumption) ?_
          rotate_left
          · (intro w hSw; (try dsimp only at hSw); go_simp; first | done | with_reducible rfl)
          try simp only [Act.put, List.setIfInBounds_toArray, List.set_cons_zero, List.set_cons_succ, List.getElem_toArray, List.getElem_cons_succ, List.getElem_cons_zero]
          refine wpAnyH_ready (rs := [9, 12]) (by kernel_rfl) (by simp) ?_
          refine AllReadyH.cons (o := _) rfl ?_ (AllReadyH.cons (o := _) rfl ?_ AllReadyH.nil)
          · intro K hK
            obtain ⟨x0, x1, z0, z1⟩ := HTc.out.there (j := i + k) (by rw [upto_length]; exact BIK.out)
            rw [HEL.out] at x0 x1
            go_simp
            clear x0 x1 z0 z1
            refine hK.out _ _ ?_ (fun hHeld => ?_)
            · exact HTc.out.pts2
            clear hK K
            try simp only [Act.put, List.setIfInBounds_toArray, List.set_cons_zero, List.set_cons_succ, List.getElem_toArray, List.getElem_cons_succ, List.getElem_cons_zero]
            refine wpAnyH_ready (rs := [12]) (by kernel_rfl) (by simp) ?_
            refine AllReadyH.cons (o := _) rfl ?_ AllReadyH.nil
            intro K hK
            go_simp
            refine (pmulc_at p0 p1 q0 q1 _).mono ?_
            rintro e Wn ⟨ma, mb, rfl, hpq, hb⟩
            have HMC := Lib.hid hpq
            clear hpq
            have HTn := Lib.hid (HTc.out.step hb)
            clear hb HTc; have HTc := HTn; clear HTn
            go_wp2_with fail
            refine hK.out _ _ ?_ (fun hHeld => ?_)
            · exact HTc.out.pts2
            clear hK K
            try simp only [Act.put, List.setIfInBounds_toArray, List.set_cons_zero, List.set_cons_succ, List.getElem_toArray, List.getElem_cons_succ, List.getElem_cons_zero]
            refine wpAnyH_ready (rs := [13]) (by kernel_rfl) (by simp) ?_
            refine AllReadyH.cons (o := _) rfl ?_ AllReadyH.nil
            intro K hK
            go_simp
            refine (addc_at _ _ ma mb _).mono ?_
            rintro e Wn ⟨ra, rb, rfl, hpq, hb⟩
            have HAC := Lib.hid hpq
            clear hpq
            have HTn := Lib.hid (HTc.out.step hb)
            clear hb HTc; have HTc := HTn; clear HTn
            go_wp2_with fail
            refine hK.out _ _ ?_ (fun hHeld => ?_)
            · exact HTc.out.pts2
            clear hK K
            try simp only [Act.put, List.setIfInBounds_toArray, List.set_cons_zero, List.set_cons_succ, List.getElem_toArray, List.getElem_cons_succ, List.getElem_cons_zero]
            refine wpAnyH_take (i := 14) (v := ?_) rfl (by kernel_rfl) (by kernel_rfl) (by kernel_rfl) (fun _ _ _ h => h) (Or.inl ⟨by rfl, ?_⟩) (by assumption) ?_
            rotate_left
            · (intro w hSw; (try dsimp only at hSw); go_simp; first | done | with_reducible rfl)
            try simp only [Act.put, List.setIfInBounds_toArray, List.set_cons_zero, List.set_cons_succ, List.getElem_toArray, List.getElem_cons_succ, List.getElem_cons_zero]
            refine wpAnyH_ready (rs := [15]) (by kernel_rfl) (by simp) ?_
            refine AllReadyH.cons (o := _) rfl ?_ AllReadyH.nil
            intro K hK
            obtain ⟨x0, x1, z0, z1⟩ := HTc.out.there (j := i + k) (by rw [upto_length]; exact BIK.out)
            have HTn := Lib.hid (TN.set (j := i + k) (a := ra) (b := rb) HTc.out (by rw [upto_length]; exact BIK.out) rfl)
            go_simp
            clear x0 x1 z0 z1 HTc; have HTc := HTn; clear HTn
            refine hK.out _ _ ?_ (fun hHeld => ?_)
            · exact HTc.out.pts2
            clear hK K
            try simp only [Act.put, List.setIfInBounds_toArray, List.set_cons_zero, List.set_cons_succ, List.getElem_toArray, List.getElem_cons_succ, List.getElem_cons_zero]
            refine wpAnyH_done (by kernel_rfl) ?_ _
            refine NoPanic.normal ?_
            go_wp2_with fail
            try rw [ekk]
            go_roundw
            case rel => exact ⟨k + 1, HKL.out, rfl, by rw [← HST.out, ← HPE.out, ← HQE.out, ← HMC.out]; first | (rw [← HAC.out]; exact HTc.out.forget (fun y hy => List.mem_cons_of_mem _ hy)) | exact HAC.out ▸ HTc.out⟩
            case measure =>
              have := HKL.out
              show m - ((k + 1 : Nat) : Int).toNat < m - (k : Int).toNat
              omega
          · intro K hK
            go_simp
            refine (pmulc_at p0 p1 q0 q1 _).mono ?_
            rintro e Wn ⟨ma, mb, rfl, hpq, hb⟩
            have HMC := Lib.hid hpq
            clear hpq
            have HTn := Lib.hid (HTc.out.step hb)
            clear hb HTc; have HTc := HTn; clear HTn
            go_wp2_with fail
            refine hK.out _ _ ?_ (fun hHeld => ?_)
            · exact HTc.out.pts2
            clear hK K
            try simp only [Act.put, List.setIfInBounds_toArray, List.set_cons_zero, List.set_cons_succ, List.getElem_toArray, List.getElem_cons_succ, List.getElem_cons_zero]
            refine wpAnyH_ready (rs := [9]) (by kernel_rfl) (by simp) ?_
            refine AllReadyH.cons (o := _) rfl ?_ AllReadyH.nil
            intro K hK
            obtain ⟨x0, x1, z0, z1⟩ := HTc.out.there (j := i + k) (by rw [upto_length]; exact BIK.out)
            rw [HEL.out] at x0 x1
            go_simp
            clear x0 x1 z0 z1
            refine hK.out _ _ ?_ (fun hHeld => ?_)
            · exact HTc.out.pts2
            clear hK K
            try simp only [Act.put, List.setIfInBounds_toArray, List.set_cons_zero, List.set_cons_succ, List.getElem_toArray, List.getElem_cons_succ, List.getElem_cons_zero]
            refine wpAnyH_ready (rs := [13]) (by kernel_rfl) (by simp) ?_
            refine AllReadyH.cons (o := _) rfl ?_ AllReadyH.nil
            intro K hK
            go_simp
            refine (addc_at _ _ ma mb _).mono ?_
            rintro e Wn ⟨ra, rb, rfl, hpq, hb⟩
            have HAC := Lib.hid hpq
            clear hpq
            have HTn := Lib.hid (HTc.out.step hb)
            clear hb HTc; have HTc := HTn; clear HTn
            go_wp2_with fail
            refine hK.out _ _ ?_ (fun hHeld => ?_)
            · exact HTc.out.pts2
            clear hK K
            try simp only [Act.put, List.setIfInBounds_toArray, List.set_cons_zero, List.set_cons_succ, List.getElem_toArray, List.getElem_cons_succ, List.getElem_cons_zero]
            refine wpAnyH_take (i := 14) (v := ?_) rfl (by kernel_rfl) (by kernel_rfl) (by kernel_rfl) (fun _ _ _ h => h) (Or.inl ⟨by rfl, ?_⟩) (by assumption) ?_
            rotate_left
            · (intro w hSw; (try dsimp only at hSw); go_simp; first | done | with_reducible rfl)
            try simp only [Act.put, List.setIfInBounds_toArray, List.set_cons_zero, List.set_cons_succ, List.getElem_toArray, List.getElem_cons_succ, List.getElem_cons_zero]
            refine wpAnyH_ready (rs := [15]) (by kernel_rfl) (by simp) ?_
            refine AllReadyH.cons (o := _) rfl ?_ AllReadyH.nil
            intro K hK
            obtain ⟨x0, x1, z0, z1⟩ := HTc.out.there (j := i + k) (by rw [upto_length]; exact BIK.out)
            have HTn := Lib.hid (TN.set (j := i + k) (a := ra) (b := rb) HTc.out (by rw [upto_length]; exact BIK.out) rfl)
            go_simp
            clear x0 x1 z0 z1 HTc; have HTc := HTn; clear HTn
            refine hK.out _ _ ?_ (fun hHeld => ?_)
            · exact HTc.out.pts2
            clear hK K
            try simp only [Act.put, List.setIfInBounds_toArray, List.set_cons_zero, List.set_cons_succ, List.getElem_toArray, List.getElem_cons_succ, List.getElem_cons_zero]
            refine wpAnyH_done (by kernel_rfl) ?_ _
            refine NoPanic.normal ?_
            go_wp2_with fail
            try rw [ekk]
            go_roundw
            case rel => exact ⟨k + 1, HKL.out, rfl, by rw [← HST.out, ← HPE.out, ← HQE.out, ← HMC.out]; first | (rw [← HAC.out]; exact HTc.out.forget (fun y hy => List.mem_cons_of_mem _ hy)) | exact HAC.out ▸ HTc.out⟩
            case measure =>
              have := HKL.out
              show m - ((k + 1 : Nat) : Int).toNat < m - (k : Int).toNat
              omega
        · have hkm : k = m := by omega
          have ti : decide ((k : Int) < (m : Int)) = false := decide_eq_false (by omega)
          have ti' : decide (k < m) = false := decide_eq_false hlt
          have HKM := Lib.hid hkm
          clear hk hlt hkm
          go_wp2_with fail
          try rw [eki]
          go_roundw
          case rel => exact ⟨i + 1, HIL.out, rfl, by rw [← pcp_end, ← HM.out, ← HKM.out]; exact HT4.out.forget (fun y hy => by cases hy)⟩
          case measure =>
            have := HIL.out
            show n - ((i + 1 : Nat) : Int).toNat < n - (i : Int).toNat
            omega
    · have hin : i = n := by omega
      have tl : decide ((i : Int) < (n : Int)) = false := decide_eq_false (by omega)
      have tl' : decide (i < n) = false := decide_eq_false hlt
      have HIN := Lib.hid hin
      clear hlt hi hin
      go_wp2_with fail
      refine bodyPost_ret (v := .tuple #[.slice (some ⟨G, 0, none⟩) N N, .int .i64 0]) (by simp [results, Try.results30, go_sem]) rfl ⟨_, rfl, ?_, HT1.out.below⟩
      rw [HPR.out, ← HNN.out, ← HIN.out]
      exact HT1.out.o1
end Go.Proofs.Ytlbgpfddmkpakaa.Nu
