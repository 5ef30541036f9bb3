/- MailboxProgress: the walk. -/
import Derived.Test.YtgbafpjeapkklaaMs
namespace Go.Proofs.Ytgbafpjeapkklaa.Mb
open Go.RowKit
set_option linter.unusedVariables false
set_option linter.unusedSimpArgs false

set_option maxRecDepth 100000 in
set_option maxHeartbeats 8000000 in
theorem progress_walk (v o : Value) (xs ys : List Int) (w : World) (hv : NumK w .i16 v xs) (ho : NumK w .u8 o ys) (hx : ∀ x ∈ xs, -32768 ≤ x ∧ x ≤ 32767) (hy : ∀ y ∈ ys, 0 ≤ y ∧ y ≤ 255) :
    Calls Try.prog 3 #[v, o] w fun e w' => e = .returned (.bool true) ∧ Below w.heap.size w w' := by
  have HXB := Lib.hid hx; clear hx
  have HYB := Lib.hid hy; clear hy
  obtain ⟨pv, cv, rfl, hv⟩ := hv
  obtain ⟨po, co, rfl, ho⟩ := ho
  have HV := Lib.hid hv; clear hv
  have HO := Lib.hid ho; clear ho
  generalize hN : xs.length = N at *
  generalize hM : ys.length = M at *
  have HN := Lib.hid hN; clear hN
  have HM := Lib.hid hM; clear hM
  by_cases hg : 30 < N
  · have t1 : decide ((30 : Int) < (N : Int)) = true := decide_eq_true (by omega)
    go_enter Try.func3, Try.ntmps3
    go_wp2_with fail
    refine (awake_at w).mono ?_
    rintro e w' ⟨rfl, hb⟩
    have HB := Lib.hid hb; clear hb
    go_wp2_with fail
    go_ret
    exact ⟨rfl, HB.out⟩
  by_cases hg2 : M < N
  · have t1 : decide ((30 : Int) < (N : Int)) = false := decide_eq_false (by omega)
    have t1' : decide (30 < N) = false := decide_eq_false (by omega)
    have t2 : decide (M < N) = true := decide_eq_true (by omega)
    clear hg hg2
    go_enter Try.func3, Try.ntmps3
    go_wp2_with fail
    refine (awake_at w).mono ?_
    rintro e w' ⟨rfl, hb⟩
    have HB := Lib.hid hb; clear hb
    go_wp2_with fail
    go_ret
    exact ⟨rfl, HB.out⟩
  have t1 : decide ((30 : Int) < (N : Int)) = false := decide_eq_false (by omega)
  have t1' : decide (30 < N) = false := decide_eq_false (by omega)
  have t2 : decide (M < N) = false := decide_eq_false (by omega)
  have HGN : Hid (N ≤ 30) := by show _ ≤ _; omega
  have HGM : Hid (N ≤ M) := by show _ ≤ _; omega
  clear hg hg2
  go_enter Try.func3, Try.ntmps3
  go_wp2_with fail
  refine (new_at w).mono ?_
  rintro e W1 ⟨v1, rfl, ⟨ns1, ps1, rfl, h1, h2⟩, hb1⟩
  obtain ⟨pn1, cn1, e1⟩ := h1.slice
  obtain ⟨pp1, cp1, e2⟩ := h2.slice
  subst e1
  subst e2
  obtain ⟨X, W2, hX, hW2, hsb, _⟩ := SB.mk' hb1 h1 h2
  have HS2 := Lib.hid hsb
  clear hb1 h1 h2 hsb
  go_upto_region 5 with fail
  rw [← hX, ← hW2]
  clear hX hW2 t1 t1' t2
  have HL0 : Hid (∃ G W3, G = W2.heap.size ∧ W3 = W2.alloc (Obj.cells #[] 3) ∧ L1 w X xs 0 (.slice none 0 0) (.slice (some ⟨G, 0, none⟩) 0 0) W3) := by
    have ha : Below W2.heap.size W2 (W2.alloc (Obj.cells #[] 3)) := (Below.refl _ _).alloc (Nat.le_refl _) _
    refine ⟨_, _, rfl, rfl, _, _, HS2.out.step ha, HS2.out.step ha, World.ownsRow_nil _ _ _ _, World.ownsRow_made _ #[] 0 HS2.out.below.size (by decide) rfl, ?_, ?_⟩
    · intro g hg; simp [Value.ownBlock] at hg
    · intro y hy; cases hy
  obtain ⟨G, W3, hG, hW3, hl1⟩ := HL0.out
  have HL1 := Lib.hid hl1; clear hl1 HL0
  go_upto_region 7 with fail
  rw [← hG, ← hW3]
  clear hG hW3
  go_loopw [6, 7, 37] (fun s6 s7 s37 wr => ∃ k : Nat, k ≤ N ∧ s37 = .int .i64 k ∧ (∃ p6 c6 p7 c7, s6 = .slice p6 k c6 ∧ s7 = .slice p7 k c7) ∧ L1 w X xs k s6 s7 wr) (fun _ _ s37 _ => N - (intOf s37).toNat)
  case atStart => exact ⟨0, by omega, rfl, ⟨_, _, _, _, rfl, rfl⟩, HL1.out⟩
  case round =>
    obtain ⟨k, hk, rfl, ⟨p6, c6, p7, c7, rfl, rfl⟩, hl⟩ := hrel
    obtain ⟨ns, ps, hl⟩ := hl
    obtain ⟨pn, cn, e1⟩ := hl.sb.t1.slice
    obtain ⟨pp, cp, e2⟩ := hl.sb.t2.slice
    subst e1
    subst e2
    have HT := Lib.hid hl; clear hl
    by_cases hlt : k < N
    · have tl : decide ((k : Int) < (N : Int)) = true := decide_eq_true (by omega)
      have tl' : (k : Int) < (N : Int) := by omega
      obtain ⟨x, hx⟩ : ∃ x, xs[k]? = some x := ⟨xs[k]'(by rw [HN.out]; exact hlt), by simp⟩
      obtain ⟨hx1, hx2⟩ := HXB.out x (List.mem_of_getElem? hx)
      obtain ⟨gv, ov, rfl, hgv, hcv⟩ : ∃ g off, pv = some ⟨g, off, none⟩ ∧ g < w.heap.size ∧ ∀ (j : Nat) (x : Int), xs[j]? = some x → w.cell? ⟨g, off + j, none⟩ = some (.int .i16 x) := by
        rcases HV.out with h | h
        · rw [h] at hx; simp at hx
        · exact h
      have cx : wr.cell? ⟨gv, ov + k, none⟩ = some (.int .i16 x) := (HT.out.sb.below.cell (p := ⟨gv, ov + k, none⟩) hgv).trans (hcv k x hx)
      have HXK := Lib.hid hx
      have ex : wrap64 x = x := by unfold wrap64; omega
      have HX1 := Lib.hid hx1
      have HX2 := Lib.hid hx2
      clear hx hcv hx1 hx2
      obtain ⟨c0, c1, c2, c3, c4⟩ := HT.out.sb.facts
      go_wp2_with fail
      refine (begin_qb (by rw [HN.out]; exact hlt) (by rw [HN.out]; exact HGN.out) HT.out.sb.st HXK.out).mono ?_
      rintro e W4 ⟨v4, rfl, ⟨ns4, ps4, rfl, h1, h2⟩, hb4⟩
      obtain ⟨pn4, cn4, e1⟩ := h1.slice
      obtain ⟨pp4, cp4, e2⟩ := h2.slice
      subst e1
      subst e2
      have HT4 := Lib.hid (HT.out.step hb4)
      obtain ⟨Y, W5, hY, hW5, hsb5, hb5⟩ := SB.mk' HT4.out.sb.below h1 h2
      have HT5 : Hid (TR w X (.slice pn (qb xs k).nodes.length cn) (.slice pp (qb xs k).pushes.length cp) (qb xs k) Y (.slice pn4 (qb xs (k + 1)).nodes.length cn4) (.slice pp4 (qb xs (k + 1)).pushes.length cp4) (qb xs (k + 1)) (.slice p6 k c6) k (xs.take k) (.slice p7 k c7) k (qb xs k).prods [] W5) :=
        { HT4.out.step hb5 with sb2 := hsb5 }
      have HXY : Hid (X < Y) := by rw [hY]; exact blk_lt HT4.out.sb.box
      clear h1 h2 hb4 hb5 hsb5 c0 c1 c2 c3 c4
      go_upto_region 12 with fail
      rw [← hY, ← hW5]
      clear hY hW5
      obtain ⟨d0, d1, d2, d3, d4⟩ := HT5.out.sb2.facts
      have hYX : Y ≠ X := by have := HXY.out; omega
      have ex2 : IntKind.i64.wrap x = x := (Go.IntWalk.i64_left x).trans ex
      have hk2 : k ≤ 2000 := by have := HGN.out; omega
      go_region_held3 (fun W => W.cell? ⟨Y, 0, none⟩ = some (.slice pn4 (qb xs (k + 1)).nodes.length cn4) ∧ W.cell? ⟨Y, 1, none⟩ = some (.int .i64 (qb xs (k + 1)).m) ∧ W.cell? ⟨Y, 2, none⟩ = some (.int .i64 (qb xs (k + 1)).done) ∧ W.cell? ⟨Y, 3, none⟩ = some (.slice pp4 (qb xs (k + 1)).pushes.length cp4) ∧ W.cell? ⟨Y, 4, none⟩ = some (.bool (qb xs (k + 1)).empty))
        (first | with_reducible exact HT7.out.sb2.facts | with_reducible exact (HT7.out.putX hYX rfl).sb2.facts | with_reducible exact (HT6.out.alloc _).sb2.facts | with_reducible exact HT6.out.sb2.facts | with_reducible exact ((HT5.out.alloc _).alloc _).drew.sb2.facts | with_reducible exact (HT5.out.alloc _).drew.sb2.facts | with_reducible exact HT5.out.drew.sb2.facts | (refine ⟨?_, ?_, ?_, ?_, ?_⟩ <;> assumption))
        (first
          | (refine step_TR1 (c := x) (HT5.out.alloc _).drew (List.mem_cons_self ..) rfl (.tmp 54) (.tmp 57) rfl (by simp [Act.eval, Act.put]) (by simp [Act.eval, Act.put]) hk2 ?_; intro p8 c8 w8 h8; have HT6 := Lib.hid h8; clear h8)
          | (refine step_TR1 (c := x) ((HT5.out.alloc _).alloc _).drew (List.mem_cons_of_mem _ (List.mem_cons_self ..)) rfl (.tmp 54) (.tmp 57) rfl (by simp [Act.eval, Act.put]) (by simp [Act.eval, Act.put]) hk2 ?_; intro p8 c8 w8 h8; have HT6 := Lib.hid h8; clear h8)
          | (refine step_TR1 (c := x) ((HT5.out.alloc _).alloc _).drew (List.mem_cons_self ..) rfl (.tmp 54) (.tmp 57) rfl (by simp [Act.eval, Act.put]) (by simp [Act.eval, Act.put]) hk2 ?_; intro p8 c8 w8 h8; have HT6 := Lib.hid h8; clear h8)
          | (refine step_TR2 (c := (k : Int)) (HT6.out.alloc _) (List.mem_cons_self ..) rfl (.tmp 59) (.tmp 61) rfl (by simp [Act.eval, Act.put]) (by simp [Act.eval, Act.put]) hk2 ?_; intro p9 c9 w9 h9; have HT7 := Lib.hid h9; obtain ⟨e0, e1, e2, e3, e4⟩ := h9.sb.facts; obtain ⟨g0, g1, g2, g3, g4⟩ := h9.sb.frz; clear h9)
          | (refine step_TR2 (c := (k : Int)) HT6.out (List.mem_cons_self ..) rfl (.tmp 59) (.tmp 61) rfl (by simp [Act.eval, Act.put]) (by simp [Act.eval, Act.put]) hk2 ?_; intro p9 c9 w9 h9; have HT7 := Lib.hid h9; obtain ⟨e0, e1, e2, e3, e4⟩ := h9.sb.facts; obtain ⟨g0, g1, g2, g3, g4⟩ := h9.sb.frz; clear h9)
          | (refine step_TR2 (c := (k : Int)) HT6.out (List.mem_cons_of_mem _ (List.mem_cons_self ..)) rfl (.tmp 59) (.tmp 61) rfl (by simp [Act.eval, Act.put]) (by simp [Act.eval, Act.put]) hk2 ?_; intro p9 c9 w9 h9; have HT7 := Lib.hid h9; obtain ⟨e0, e1, e2, e3, e4⟩ := h9.sb.facts; obtain ⟨g0, g1, g2, g3, g4⟩ := h9.sb.frz; clear h9))
      all_goals
        obtain ⟨W10, hW10⟩ : ∃ W10, W10 = (((((w9.setCell ⟨X, 0, none⟩ (.slice pn4 (qb xs (k + 1)).nodes.length cn4)).setCell ⟨X, 1, none⟩ (.int .i64 (qb xs (k + 1)).m)).setCell ⟨X, 2, none⟩ (.int .i64 (qb xs (k + 1)).done)).setCell ⟨X, 3, none⟩ (.slice pp4 (qb xs (k + 1)).pushes.length cp4)).setCell ⟨X, 4, none⟩ (.bool (qb xs (k + 1)).empty)) := ⟨_, rfl⟩
        rw [← hW10]
        have HT8 := Lib.hid (HT7.out.putX hYX hW10)
        clear hW10 e0 e1 e2 e3 e4 g0 g1 g2 g3 g4 d0 d1 d2 d3 d4 tl'
        go_wp2_with fail
        go_roundw
        case rel =>
          refine ⟨k + 1, by omega, by go_num, ⟨_, _, _, _, rfl, rfl⟩, _, _, HT8.out.sb, HT8.out.sb, ?_, ?_, HT8.out.ap, fun y hy => by cases hy⟩
          · rw [List.take_add_one, HXK.out]; exact HT8.out.o1
          · rw [qb_prods]; exact HT8.out.o2
        case measure => simp [intOf]; omega
    · obtain rfl : k = N := by omega
      have tl : decide ((k : Int) < (k : Int)) = false := decide_eq_false (by omega)
      obtain ⟨wq, hwq⟩ : ∃ x, x = wr := ⟨_, rfl⟩
      subst hwq
      go_upto_region 15 with fail
      have HF0 : Hid (Fq xs 0 (qb xs k)) := by have := Fq.start (xs := xs) (by rw [HN.out]; exact HGN.out); rw [HN.out] at this; exact this
      have HQL : Hid ((qb xs k).opn.length = k) := qb_len xs k
      have HTK : Hid (xs.take k = xs) := List.take_of_length_le (by rw [HN.out]; exact Nat.le_refl _)
      rw [HTK.out] at HT
      have HAL2 : Hid (∀ (W : World) (C : Array Value), Below W.heap.size W (W.alloc (Obj.cells C 28))) := fun W C => (Below.refl _ _).alloc (Nat.le_refl _) _
      have HAL : Hid (∀ W : World, Below W.heap.size W (W.alloc (Obj.cells #[.slice none 0 0, .int .i64 0, .int .i64 0, .slice none 0 0, .bool false] 28))) := fun W => (Below.refl _ _).alloc (Nat.le_refl _) _
      go_loopw [7, 66] (fun s7 s66 wr => ∃ i : Nat, i ≤ k ∧ s66 = .int .i64 i ∧ ∃ q ns ps L c7 p7, L + i = k ∧ s7 = .slice p7 L c7 ∧ Fq xs i q ∧ TR w X ns ps q X ns ps q (.slice p6 k c6) k xs s7 L q.prods [] wr) (fun _ s66 _ => k - (intOf s66).toNat)
      case atStart => exact ⟨0, by omega, rfl, _, _, _, k, _, _, by omega, rfl, HF0.out, HT.out⟩
      case round =>
        obtain ⟨i, hi, rfl, q, ns, ps, L, c7', p7', hL, rfl, hf, ht⟩ := hrel
        obtain ⟨pn', cn', e1⟩ := ht.sb.t1.slice
        obtain ⟨pp', cp', e2⟩ := ht.sb.t2.slice
        subst e1
        subst e2
        have HTi := Lib.hid ht; clear ht
        have HF := Lib.hid hf; clear hf
        clear tl
        by_cases hil : i < k
        · have tl : decide ((i : Int) < (k : Int)) = true := decide_eq_true (by omega)
          have tl' : (i : Int) < (k : Int) := by omega
          have HLI := Lib.hid hL
          obtain ⟨y, hy⟩ : ∃ y, ys[i]? = some y := ⟨ys[i]'(by have := HM.out; have := HGM.out; omega), by simp⟩
          obtain ⟨hy1, hy2⟩ := HYB.out y (List.mem_of_getElem? hy)
          obtain ⟨go, oo, rfl, hgo, hco⟩ : ∃ g off, po = some ⟨g, off, none⟩ ∧ g < w.heap.size ∧ ∀ (j : Nat) (x : Int), ys[j]? = some x → w.cell? ⟨g, off + j, none⟩ = some (.int .u8 x) := by
            rcases HO.out with h | h
            · rw [h] at hy; simp at hy
            · exact h
          have cy : wr.cell? ⟨go, oo + i, none⟩ = some (.int .u8 y) := (HTi.out.sb.below.cell (p := ⟨go, oo + i, none⟩) hgo).trans (hco i y hy)
          have hL0 : 0 < L := by omega
          obtain ⟨kk, hkk⟩ : ∃ kk : Nat, kk = y.toNat % L := ⟨_, rfl⟩
          have hkl : kk < L := by rw [hkk]; exact Nat.mod_lt _ hL0
          have erem : y.tmod (L : Int) = (kk : Int) := by
            obtain ⟨yn, rfl⟩ : ∃ yn : Nat, y = yn := ⟨y.toNat, by omega⟩
            rw [hkk]
            rfl
          have iM : (i : Int) < (M : Int) := by have := HGM.out; omega
          have hl30 : L ≤ 30 := by have := HGN.out; omega
          clear hy hco hL hkk
          obtain ⟨g7, cap7, e7, hb7, _, ⟨cur7, hcur7⟩, hc7⟩ := own_one HTi.out.o2 hL0
          injection e7 with e7 _ e8
          subst e7
          subst e8
          have HPL : Hid (q.prods.length = L) := by show _ = _; have := HTi.out.o2.1; simpa [ints] using this
          obtain ⟨⟨pr, jj⟩, hok⟩ : ∃ o, q.opn[kk]? = some o := ⟨q.opn[kk]'(by have := HPL.out; rw [prods_len] at this; rw [this]; exact hkl), by simp⟩
          have hpk : q.prods[kk]? = some pr := by simp [Q.prods, hok]
          have HFIN : Hid (∀ W v, St W v q → Calls Try.prog 11 #[v, .int .i64 pr] W fun e w' => ∃ v', e = .returned (.tuple #[v', .int .i64 0]) ∧ St w' v' (q.fin kk) ∧ Below W.heap.size W w') := fun W v h => finish_at HF.out.wf hok W h
          have HS18 : Hid (∀ W, SB w X (.slice pn' q.nodes.length cn') (.slice pp' q.pushes.length cp') q W → W.ownsRow w.heap.size 3 1 (.slice (some ⟨g7, 0, none⟩) L c7') L (ints q.prods) →
              W.cell? ⟨X, 0, none⟩ = some (.slice pn' q.nodes.length cn') ∧ W.cell? ⟨X, 1, none⟩ = some (.int .i64 q.m) ∧ W.cell? ⟨X, 2, none⟩ = some (.int .i64 q.done) ∧ W.cell? ⟨X, 3, none⟩ = some (.slice pp' q.pushes.length cp') ∧ W.cell? ⟨X, 4, none⟩ = some (.bool q.empty) ∧ W.cell? ⟨g7, kk, none⟩ = some (.int .i64 pr)) := by
            intro W h1 h2
            have h3 := h2.cells (g := g7) rfl kk (.int .i64 pr) (by simp [ints, hpk])
            rw [Addr.add_lit, Nat.zero_add] at h3
            obtain ⟨a, b, c, d, e⟩ := h1.facts
            exact ⟨a, b, c, d, e, h3⟩
          have HOK := Lib.hid hok
          have HKL := Lib.hid hkl
          have hkl' : (kk : Int) < (L : Int) := by omega
          have ey : wrap64 y = y := by clear tl' iM hkl' erem; unfold wrap64; omega
          have ey2 : IntKind.i64.wrap y = y := (Go.IntWalk.i64_left y).trans ey
          have ekk : wrap64 (kk : Int) = (kk : Int) := by clear tl' iM hkl' erem ey ey2; unfold wrap64; omega
          have ekk2 : IntKind.i64.wrap (kk : Int) = (kk : Int) := (Go.IntWalk.i64_left _).trans ekk
          have hk0 : (0 : Int) ≤ (kk : Int) := by clear ey ey2 ekk ekk2; omega
          have hkd : decide ((kk : Int) < (L : Int)) = true := decide_eq_true hkl'
          clear hc7 hcur7 hok hpk hb7 hl30 hy1 hy2
          go_upto_region 18 with fail
          have hXY : X ≠ wr.heap.size := Nat.ne_of_lt (blk_lt HTi.out.sb.box)
          have HLW : Hid (w.heap.size ≤ wr.heap.size) := HTi.out.sb.below.size
          go_region_held3 (fun W => W.cell? ⟨X, 0, none⟩ = some (.slice pn' q.nodes.length cn') ∧ W.cell? ⟨X, 1, none⟩ = some (.int .i64 q.m) ∧ W.cell? ⟨X, 2, none⟩ = some (.int .i64 q.done) ∧ W.cell? ⟨X, 3, none⟩ = some (.slice pp' q.pushes.length cp') ∧ W.cell? ⟨X, 4, none⟩ = some (.bool q.empty) ∧ W.cell? ⟨g7, kk, none⟩ = some (.int .i64 pr))
            (first | with_reducible exact HS18.out _ HTi.out.drew.sb HTi.out.drew.o2 | with_reducible exact HS18.out _ (HTi.out.step (HAL.out wr)).drew.sb (HTi.out.step (HAL.out wr)).drew.o2 | with_reducible exact HS18.out _ HT6.out.sb HT6.out.o2 | with_reducible exact HS18.out _ (HT6.out.step (HAL2.out w6 _)).sb (HT6.out.step (HAL2.out w6 _)).o2 | with_reducible exact HS18.out _ (HT6.out.putY hXY HLW.out rfl HZ6.out HH1.out HH2.out rfl).sb (HT6.out.putY hXY HLW.out rfl HZ6.out HH1.out HH2.out rfl).o2 | (trace_state; fail))
            (first
              | (go_at_call 11; refine (HFIN.out _ _ HTi.out.drew.sb.st).mono ?_; rintro e w6 ⟨v6, rfl, ⟨ns6, ps6, rfl, h1, h2⟩, hb⟩; obtain ⟨pn6, cn6, e1⟩ := h1.slice; obtain ⟨pp6, cp6, e2⟩ := h2.slice; subst e1; subst e2; have HT6 := Lib.hid (HTi.out.drew.step hb); have HH1 := Lib.hid h1; have HH2 := Lib.hid h2; clear h1 h2 hb)
              | (go_at_call 11; refine (HFIN.out _ _ (HTi.out.step (HAL.out wr)).drew.sb.st).mono ?_; rintro e w6 ⟨v6, rfl, ⟨ns6, ps6, rfl, h1, h2⟩, hb⟩; obtain ⟨pn6, cn6, e1⟩ := h1.slice; obtain ⟨pp6, cp6, e2⟩ := h2.slice; subst e1; subst e2; have HT6 := Lib.hid ((HTi.out.step (HAL.out wr)).drew.step hb); have HH1 := Lib.hid h1; have HH2 := Lib.hid h2; have HZ6 := Lib.hid (z_kept hb); obtain ⟨z0, z1, z2, z3, z4⟩ := z_cells (z_kept hb); obtain ⟨f0, f1, f2, f3, f4⟩ := z_frz (z_kept hb); clear h1 h2 hb))
          · have ht7 := HT6.out.newY HH1.out HH2.out
            obtain ⟨Y, hY⟩ : ∃ Y, Y = w6.heap.size := ⟨_, rfl⟩
            obtain ⟨W7, hW7⟩ : ∃ W7, W7 = w6.alloc (Obj.cells #[.slice pn6 (q.fin kk).nodes.length cn6, .int .i64 (q.fin kk).m, .int .i64 (q.fin kk).done, .slice pp6 (q.fin kk).pushes.length cp6, .bool (q.fin kk).empty] 28) := ⟨_, rfl⟩
            rw [← hY, ← hW7] at ht7
            have hYX : Y ≠ X := by have := blk_lt HT6.out.sb.box; omega
            rw [← hY, ← hW7]
            have HT7 := Lib.hid ht7
            clear ht7 hY hW7
            obtain ⟨d0, d1, d2, d3, d4⟩ := HT7.out.sb2.facts
            obtain ⟨LL, rfl⟩ : ∃ LL, L = LL + 1 := ⟨L - 1, by omega⟩
            clear hkl' hkd hkl tl' erem ey ey2 ekk ekk2 cy iM
            have hkL : kk ≤ LL := by have := HKL.out; omega
            obtain ⟨A, hA, hLc, hcm, W8, hap, ho8, hg8⟩ := del_int HT7.out.drew.o2 hkL
            have hl8 : LL = (q.fin kk).opn.length := by
              have h1 := HPL.out
              rw [prods_len] at h1
              have h2 := HKL.out
              rw [Q.fin, List.length_eraseIdx, if_pos (by omega)]
              omega
            rw [← fin_prods] at ho8
            have HT8 := Lib.hid (HT7.out.drew.re2 hg8 ho8 (.inl rfl))
            have HAP := Lib.hid hap
            have HL8 := Lib.hid hl8
            have hwk : wrap64 ((kk : Int) + 1) = (kk : Int) + 1 := by have := HGN.out; have := HLI.out; unfold wrap64; omega
            have hwk2 : IntKind.i64.wrap ((kk : Int) + 1) = (kk : Int) + 1 := (Go.IntWalk.i64_left _).trans hwk
            clear hap ho8 hg8 hl8
            obtain ⟨e0, e1, e2, e3, e4⟩ := HT8.out.sb.facts
            obtain ⟨f0, f1, f2, f3, f4⟩ := HT8.out.sb.frz
            go_upto_region 21 with fail
            have s1 : kk ≤ c7' := by omega
            have s2 : kk + 1 ≤ c7' := by omega
            have s3 : (kk : Int) ≤ (c7' : Int) := by omega
            have s4 : (kk : Int) + 1 ≤ ((LL + 1 : Nat) : Int) := by omega
            have s5 : (0 : Int) ≤ (kk : Int) + 1 := by omega
            have s6 : ¬ c7' = kk := by omega
            have s7 : c7' ≤ 9223372036854775807 := by unfold maxLen at hcm; omega
            clear hcm
            go_region_held3 (fun W => W.cell? ⟨Y, 0, none⟩ = some (.slice pn6 (q.fin kk).nodes.length cn6) ∧ W.cell? ⟨Y, 1, none⟩ = some (.int .i64 (q.fin kk).m) ∧ W.cell? ⟨Y, 2, none⟩ = some (.int .i64 (q.fin kk).done) ∧ W.cell? ⟨Y, 3, none⟩ = some (.slice pp6 (q.fin kk).pushes.length cp6) ∧ W.cell? ⟨Y, 4, none⟩ = some (.bool (q.fin kk).empty))
              (first | with_reducible exact HT7.out.drew.sb2.facts | with_reducible exact HT8.out.sb2.facts | with_reducible exact (HT8.out.putX hYX rfl).sb2.facts | (trace_state; fail))
              (refine step_append_run rfl (.tmp 91) (.tmp 95) 30 rfl (.slice (some ⟨g7, 0, none⟩) kk c7') (.slice (some A) (LL - kk) (c7' - (kk + 1))) (by simp [Act.eval, Act.put]) (by simp [Act.eval, Act.put]) (HAP.out _) ?_)
            obtain ⟨W9, hW9⟩ : ∃ W9, W9 = (((((W8.setCell ⟨X, 0, none⟩ (.slice pn6 (q.fin kk).nodes.length cn6)).setCell ⟨X, 1, none⟩ (.int .i64 (q.fin kk).m)).setCell ⟨X, 2, none⟩ (.int .i64 (q.fin kk).done)).setCell ⟨X, 3, none⟩ (.slice pp6 (q.fin kk).pushes.length cp6)).setCell ⟨X, 4, none⟩ (.bool (q.fin kk).empty)) := ⟨_, rfl⟩
            rw [← hW9]
            have HT9 := Lib.hid (HT8.out.putX hYX hW9)
            clear hW9 d0 d1 d2 d3 d4 e0 e1 e2 e3 e4 f0 f1 f2 f3 f4 s1 s2 s3 s4 s5 s6 s7 hwk hwk2 hk0 hLc hkL
            go_wp2_with fail
            have ei : wrap64 ((i : Int) + 1) = (i : Int) + 1 := by have := HGN.out; unfold wrap64; omega
            try rw [ei]
            go_roundw
            case rel =>
              refine ⟨i + 1, by omega, by go_num, q.fin kk, _, _, LL, _, _, by have := HLI.out; omega, rfl, HF.out.next (List.getElem?_eq_some_iff.1 HOK.out).1, HT9.out.sb, HT9.out.sb, HT9.out.o1, HT9.out.o2, HT9.out.ap, fun y hy => by cases hy⟩
            case measure => simp [intOf]; omega
          · have ht7 := HT6.out.putY hXY HLW.out rfl HZ6.out HH1.out HH2.out rfl
            obtain ⟨Y, hY⟩ : ∃ Y, Y = wr.heap.size := ⟨_, rfl⟩
            rw [← hY] at ht7
            obtain ⟨W7, hW7⟩ : ∃ W7, W7 = (((((w6.setCell ⟨Y, 0, none⟩ (.slice pn6 (q.fin kk).nodes.length cn6)).setCell ⟨Y, 1, none⟩ (.int .i64 (q.fin kk).m)).setCell ⟨Y, 2, none⟩ (.int .i64 (q.fin kk).done)).setCell ⟨Y, 3, none⟩ (.slice pp6 (q.fin kk).pushes.length cp6)).setCell ⟨Y, 4, none⟩ (.bool (q.fin kk).empty)) := ⟨_, rfl⟩
            rw [← hW7] at ht7
            have hYX : Y ≠ X := by rw [hY]; exact fun e => hXY e.symm
            rw [← hY, ← hW7]
            have HT7 := Lib.hid ht7
            clear ht7 hY hW7 z0 z1 z2 z3 z4 f0 f1 f2 f3 f4
            obtain ⟨d0, d1, d2, d3, d4⟩ := HT7.out.sb2.facts
            obtain ⟨LL, rfl⟩ : ∃ LL, L = LL + 1 := ⟨L - 1, by omega⟩
            clear hkl' hkd hkl tl' erem ey ey2 ekk ekk2 cy iM
            have hkL : kk ≤ LL := by have := HKL.out; omega
            obtain ⟨A, hA, hLc, hcm, W8, hap, ho8, hg8⟩ := del_int HT7.out.drew.o2 hkL
            have hl8 : LL = (q.fin kk).opn.length := by
              have h1 := HPL.out
              rw [prods_len] at h1
              have h2 := HKL.out
              rw [Q.fin, List.length_eraseIdx, if_pos (by omega)]
              omega
            rw [← fin_prods] at ho8
            have HT8 := Lib.hid (HT7.out.drew.re2 hg8 ho8 (.inl rfl))
            have HAP := Lib.hid hap
            have HL8 := Lib.hid hl8
            have hwk : wrap64 ((kk : Int) + 1) = (kk : Int) + 1 := by have := HGN.out; have := HLI.out; unfold wrap64; omega
            have hwk2 : IntKind.i64.wrap ((kk : Int) + 1) = (kk : Int) + 1 := (Go.IntWalk.i64_left _).trans hwk
            clear hap ho8 hg8 hl8
            obtain ⟨e0, e1, e2, e3, e4⟩ := HT8.out.sb.facts
            obtain ⟨f0, f1, f2, f3, f4⟩ := HT8.out.sb.frz
            go_upto_region 21 with fail
            have s1 : kk ≤ c7' := by omega
            have s2 : kk + 1 ≤ c7' := by omega
            have s3 : (kk : Int) ≤ (c7' : Int) := by omega
            have s4 : (kk : Int) + 1 ≤ ((LL + 1 : Nat) : Int) := by omega
            have s5 : (0 : Int) ≤ (kk : Int) + 1 := by omega
            have s6 : ¬ c7' = kk := by omega
            have s7 : c7' ≤ 9223372036854775807 := by unfold maxLen at hcm; omega
            clear hcm
            go_region_held3 (fun W => W.cell? ⟨Y, 0, none⟩ = some (.slice pn6 (q.fin kk).nodes.length cn6) ∧ W.cell? ⟨Y, 1, none⟩ = some (.int .i64 (q.fin kk).m) ∧ W.cell? ⟨Y, 2, none⟩ = some (.int .i64 (q.fin kk).done) ∧ W.cell? ⟨Y, 3, none⟩ = some (.slice pp6 (q.fin kk).pushes.length cp6) ∧ W.cell? ⟨Y, 4, none⟩ = some (.bool (q.fin kk).empty))
              (first | with_reducible exact HT7.out.drew.sb2.facts | with_reducible exact HT8.out.sb2.facts | with_reducible exact (HT8.out.putX hYX rfl).sb2.facts | (trace_state; fail))
              (refine step_append_run rfl (.tmp 91) (.tmp 95) 30 rfl (.slice (some ⟨g7, 0, none⟩) kk c7') (.slice (some A) (LL - kk) (c7' - (kk + 1))) (by simp [Act.eval, Act.put]) (by simp [Act.eval, Act.put]) (HAP.out _) ?_)
            obtain ⟨W9, hW9⟩ : ∃ W9, W9 = (((((W8.setCell ⟨X, 0, none⟩ (.slice pn6 (q.fin kk).nodes.length cn6)).setCell ⟨X, 1, none⟩ (.int .i64 (q.fin kk).m)).setCell ⟨X, 2, none⟩ (.int .i64 (q.fin kk).done)).setCell ⟨X, 3, none⟩ (.slice pp6 (q.fin kk).pushes.length cp6)).setCell ⟨X, 4, none⟩ (.bool (q.fin kk).empty)) := ⟨_, rfl⟩
            rw [← hW9]
            have HT9 := Lib.hid (HT8.out.putX hYX hW9)
            clear hW9 d0 d1 d2 d3 d4 e0 e1 e2 e3 e4 f0 f1 f2 f3 f4 s1 s2 s3 s4 s5 s6 s7 hwk hwk2 hk0 hLc hkL
            go_wp2_with fail
            have ei : wrap64 ((i : Int) + 1) = (i : Int) + 1 := by have := HGN.out; unfold wrap64; omega
            try rw [ei]
            go_roundw
            case rel =>
              refine ⟨i + 1, by omega, by go_num, q.fin kk, _, _, LL, _, _, by have := HLI.out; omega, rfl, HF.out.next (List.getElem?_eq_some_iff.1 HOK.out).1, HT9.out.sb, HT9.out.sb, HT9.out.o1, HT9.out.o2, HT9.out.ap, fun y hy => by cases hy⟩
            case measure => simp [intOf]; omega
        · obtain rfl : i = k := by omega
          obtain rfl : L = 0 := by omega
          have tl : decide ((i : Int) < (i : Int)) = false := decide_eq_false (by omega)
          have HQ0 : Hid (q.opn = []) := List.eq_nil_of_length_eq_zero (by have := HF.out.len; have := HN.out; omega)
          have HBA : Hid (∀ W v, St W v q → Calls Try.prog 12 #[v, .int .i64 1000] W fun e w' => ∃ v' u, e = .returned (.tuple #[v', u, .int .i64 0]) ∧ St w' v' { q with done := i } ∧ w'.ownsRow W.heap.size 3 1 u i (ints xs) ∧ Below W.heap.size W w') := by
            intro W v hv
            have h := batch_at HF.out.wf 1000 W hv
            have e1 : q.done = 0 := HF.out.done
            have e2 : q.pops 1000 0 = i := by
              rw [pops_all HQ0.out 1000 0 (by omega) (by have h1 := HF.out.m; have := HN.out; have := HGN.out; omega), HF.out.m, HN.out]; rfl
            have e3 : q.took 0 i = xs := by have := HF.out.taken; rw [HN.out] at this; exact this
            rw [e1, e2, e3, Nat.zero_add] at h
            exact h
          have HWF : Hid (WF { q with done := i }) := by
            have h := HF.out.wf
            exact ⟨h.few, h.fewo, h.prod, h.sorted, h.opn, by show i ≤ q.m; rw [HF.out.m, HN.out]; exact Nat.le_refl _, fun j _ _ => by show q.opn.any _ = false; rw [HQ0.out]; rfl, fun _ => by show i = q.m; rw [HF.out.m, HN.out]⟩
          have HMK : Hid (∀ W v, St W v { q with done := i } → Calls Try.prog 13 #[v] W fun e w' => ∃ v', e = .returned (.tuple #[v', .bool true, .int .i64 0]) ∧ (∃ q', St w' v' q') ∧ Below W.heap.size W w') := by
            intro W v hv
            refine (mark_at HWF.out W hv).mono ?_
            rintro e w' ⟨v', he, h1, h2⟩
            have e1 : decide (i = q.m) = true := decide_eq_true (by rw [HF.out.m, HN.out])
            exact ⟨v', by rw [he]; show Ending.returned (.tuple #[v', .bool (decide (i = q.m)), .int .i64 0]) = _; rw [e1], ⟨_, h1⟩, h2⟩
          obtain ⟨c0, c1, c2, c3, c4⟩ := HTi.out.sb.facts
          go_wp2_with fail
          refine (HBA.out _ _ HTi.out.sb.st).mono ?_
          rintro e W5 ⟨v5, u5, rfl, ⟨ns5, ps5, rfl, h1, h2⟩, hu, hb⟩
          obtain ⟨pn5, cn5, e1⟩ := h1.slice
          obtain ⟨pp5, cp5, e2⟩ := h2.slice
          subst e1
          subst e2
          obtain ⟨pu5, cu5, e3⟩ := own1_slice hu
          subst e3
          have HT5 := Lib.hid (HTi.out.step hb)
          have HU5 : Hid (W5.ownsRow w.heap.size 3 1 (.slice pu5 i cu5) i (ints xs)) := ownsRow_base hu HTi.out.sb.below.size
          clear hb hu c0 c1 c2 c3 c4
          obtain ⟨W6, hW6⟩ : ∃ W6, W6 = (((((W5.setCell ⟨X, 0, none⟩ (.slice pn5 { q with done := i }.nodes.length cn5)).setCell ⟨X, 1, none⟩ (.int .i64 { q with done := i }.m)).setCell ⟨X, 2, none⟩ (.int .i64 { q with done := i }.done)).setCell ⟨X, 3, none⟩ (.slice pp5 { q with done := i }.pushes.length cp5)).setCell ⟨X, 4, none⟩ (.bool { q with done := i }.empty)) := ⟨_, rfl⟩
          have HS6 := Lib.hid (HT5.out.sb.put h1 h2 hW6)
          have HU6 : Hid (W6.ownsRow w.heap.size 3 1 (.slice pu5 i cu5) i (ints xs)) := by rw [hW6]; exact own5 HU5.out HT5.out.sb.box (by decide) _ _ _ _ _
          have HW6 : Hid (W6.ownsRow w.heap.size 3 1 (.slice p6 i c6) i (ints xs)) := by rw [hW6]; exact own5 HT5.out.o1 HT5.out.sb.box (by decide) _ _ _ _ _
          obtain ⟨c0, c1, c2, c3, c4⟩ := HT5.out.sb.facts
          obtain ⟨f0, f1, f2, f3, f4⟩ := HT5.out.sb.frz
          clear h1 h2
          go_upto_region 24 with fail
          rw [← hW6]
          clear hW6 c0 c1 c2 c3 c4 f0 f1 f2 f3 f4
          obtain ⟨c0, c1, c2, c3, c4⟩ := HS6.out.facts
          go_wp2_with fail
          refine (HMK.out _ _ HS6.out.st).mono ?_
          rintro e W7 ⟨v7, rfl, ⟨q7, ⟨ns7, ps7, rfl, h1, h2⟩⟩, hb⟩
          obtain ⟨pn7, cn7, e1⟩ := h1.slice
          obtain ⟨pp7, cp7, e2⟩ := h2.slice
          subst e1
          subst e2
          obtain ⟨Y, W8, hY, hW8, hsb8, hb8⟩ := SB.mk' (HS6.out.step hb).below h1 h2
          have HB8 : Hid (Below w.heap.size w W8) := hsb8.below
          have HU8 : Hid (W8.ownsRow w.heap.size 3 1 (.slice pu5 i cu5) i (ints xs)) := own1_below (own1_below HU6.out hb) hb8
          have HW8 : Hid (W8.ownsRow w.heap.size 3 1 (.slice p6 i c6) i (ints xs)) := own1_below (own1_below HW6.out hb) hb8
          clear h1 h2 hb hb8 hsb8 c0 c1 c2 c3 c4
          go_upto_region 25 with fail
          rw [← hY, ← hW8]
          clear hY hW8
          go_wp2_with fail
          refine (equal_at HU8.out HW8.out (by have := HGN.out; omega)).mono ?_
          rintro e W9 ⟨rfl, hb9⟩
          have HB9 : Hid (Below w.heap.size w W9) := HB8.out.trans (hb9.mono HB8.out.size)
          clear hb9
          go_wp2_with fail
          refine (awake_at W9).mono ?_
          rintro e W10 ⟨rfl, hb10⟩
          have HB10 : Hid (Below w.heap.size w W10) := HB9.out.trans (hb10.mono HB9.out.size)
          clear hb10
          go_wp2_with fail
          go_ret
          exact ⟨rfl, HB10.out⟩
end Go.Proofs.Ytgbafpjeapkklaa.Mb
