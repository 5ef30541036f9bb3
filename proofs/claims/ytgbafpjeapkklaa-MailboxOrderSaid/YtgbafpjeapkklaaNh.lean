/- MailboxOrder: the walk. -/
import Derived.Test.YtgbafpjeapkklaaNg
namespace Go.Proofs.Ytgbafpjeapkklaa.Mb
open Go.RowKit
set_option linter.unusedVariables false
set_option linter.unusedSimpArgs false

set_option maxRecDepth 100000 in
set_option maxHeartbeats 16000000 in
theorem order_walk (v : Value) (l : List (Int × Int × Int)) (w : World) (hv : OpsS w v l) (hb : ∀ x ∈ l, (-128 ≤ x.1 ∧ x.1 ≤ 127) ∧ (-128 ≤ x.2.1 ∧ x.2.1 ≤ 127) ∧ (-128 ≤ x.2.2 ∧ x.2.2 ≤ 127)) :
    Calls Try.prog 6 #[v] w fun e w' => e = .returned (.bool true) ∧ Below w.heap.size w w' := by
  have HLB := Lib.hid hb; clear hb
  obtain ⟨pv, cv, rfl, hv⟩ := hv
  have HV := Lib.hid hv; clear hv
  generalize hN : l.length = N at *
  have HN := Lib.hid hN; clear hN
  by_cases hg : 80 < N
  · have t1 : decide ((80 : Int) < (N : Int)) = true := decide_eq_true (by omega)
    have t1' : decide (80 < N) = true := decide_eq_true (by omega)
    go_enter Try.func6, Try.ntmps6
    go_wp2_with fail
    refine (awake_at w).mono ?_
    rintro e w' ⟨rfl, hb⟩
    have HB := Lib.hid hb; clear hb
    go_wp2_with fail
    go_ret
    exact ⟨rfl, HB.out⟩
  have t1 : decide ((80 : Int) < (N : Int)) = false := decide_eq_false (by omega)
  have t1' : decide (80 < N) = false := decide_eq_false (by omega)
  have HGN : Hid (N ≤ 80) := by show _ ≤ _; omega
  clear hg
  go_enter Try.func6, Try.ntmps6
  go_wp2_with fail
  refine (new_at w).mono ?_
  rintro e W1 ⟨v1, rfl, ⟨ns1, ps1, rfl, h1, h2⟩, hb1⟩
  obtain ⟨pn1, cn1, e1⟩ := h1.slice
  obtain ⟨pp1, cp1, e2⟩ := h2.slice
  subst e1
  subst e2
  obtain ⟨X, W2, hX, hW2, hsb, _⟩ := SB.mk' hb1 h1 h2
  have HL0 : Hid (OL w X 0 (.slice none 0 0) (.slice none 0 0) (.bool true) W2) :=
    ⟨q0, _, _, none, 0, none, 0, q0_wf, Nat.le_refl _, rfl, rfl, rfl, hsb, hsb, World.ownsRow_nil _ _ _ _, World.ownsRow_nil _ _ _ _, fun g hg => by simp [Value.ownBlock] at hg, fun y hy => by cases hy⟩
  clear hb1 h1 h2 hsb
  go_upto_region 7 with fail
  rw [← hX, ← hW2]
  clear hX hW2 t1 t1'
  go_loopw [4, 5, 6, 33] (fun s4 s5 s6 s33 wr => ∃ i : Nat, i ≤ N ∧ s33 = .int .i64 i ∧ OL w X i s4 s5 s6 wr) (fun _ _ _ s33 _ => N - (intOf s33).toNat)
  case atStart => exact ⟨0, by omega, rfl, HL0.out⟩
  case round =>
    obtain ⟨i, hi, rfl, q, ns, ps, p4, c4, p5, c5, hwf, hqm, rfl, rfl, rfl, ht⟩ := hrel
    obtain ⟨pn, cn, e1⟩ := ht.sb.t1.slice
    obtain ⟨pp, cp, e2⟩ := ht.sb.t2.slice
    subst e1
    subst e2
    have HT := Lib.hid ht; clear ht
    have HWF := Lib.hid hwf; clear hwf
    have HQM := Lib.hid hqm; clear hqm
    have HAL2 : Hid (∀ (W : World) (C : Array Value) (t : TypeId), Below W.heap.size W (W.alloc (Obj.cells C t))) := fun W C t => (Below.refl _ _).alloc (Nat.le_refl _) _
    by_cases hlt : i < N
    · have tl : decide ((i : Int) < (N : Int)) = true := decide_eq_true (by omega)
      have tl' : (i : Int) < (N : Int) := by omega
      obtain ⟨⟨x0, x1, x2⟩, hx⟩ : ∃ x, l[i]? = some x := ⟨l[i]'(by rw [HN.out]; exact hlt), by simp⟩
      obtain ⟨⟨g1, g2⟩, ⟨g3, g4⟩, ⟨g5, g6⟩⟩ := HLB.out _ (List.mem_of_getElem? hx)
      obtain ⟨gv, ov, rfl, hgv, hcv⟩ : ∃ g off, pv = some ⟨g, off, none⟩ ∧ g < w.heap.size ∧ ∀ (k : Nat) (x : Int × Int × Int), l[k]? = some x → w.cell? ⟨g, off + k * 3, none⟩ = some (.int .i8 x.1) ∧ w.cell? ⟨g, off + k * 3 + 1, none⟩ = some (.int .i8 x.2.1) ∧ w.cell? ⟨g, off + k * 3 + 2, none⟩ = some (.int .i8 x.2.2) := by
        rcases HV.out with h | h
        · rw [h] at hx; simp at hx
        · exact h
      obtain ⟨y0, y1, y2⟩ := hcv i _ hx
      simp only at y0 y1 y2 g1 g2 g3 g4 g5 g6
      have c0 : wr.cell? ⟨gv, ov + i * 3, none⟩ = some (.int .i8 x0) := (HT.out.sb.below.cell (p := ⟨gv, ov + i * 3, none⟩) hgv).trans y0
      have c1 : wr.cell? ⟨gv, ov + i * 3 + 1, none⟩ = some (.int .i8 x1) := (HT.out.sb.below.cell (p := ⟨gv, ov + i * 3 + 1, none⟩) hgv).trans y1
      have c2 : wr.cell? ⟨gv, ov + i * 3 + 2, none⟩ = some (.int .i8 x2) := (HT.out.sb.below.cell (p := ⟨gv, ov + i * 3 + 2, none⟩) hgv).trans y2
      obtain ⟨Z, hZ⟩ : ∃ Z, Z = wr.heap.size := ⟨_, rfl⟩
      obtain ⟨W3, hW3⟩ : ∃ W3, W3 = wr.alloc (Obj.cells #[.int .i8 x0, .int .i8 x1, .int .i8 x2] 51) := ⟨_, rfl⟩
      have HT3 := Lib.hid (HT.out.step (HAL2.out wr #[.int .i8 x0, .int .i8 x1, .int .i8 x2] 51))
      rw [← hW3] at HT3
      have HZ3 : Hid (W3.heap[Z]? = some (.cells #[.int .i8 x0, .int .i8 x1, .int .i8 x2] 51 (0, 0))) := by rw [hW3, hZ]; exact (MapKept.heap_alloc _ _).1
      obtain ⟨r, kk, er, hr1, hr2, ek, hkk⟩ := kind_of x0 g1 g2
      have f0 : wrap64 x0 = x0 := by clear tl tl' hr1 hr2 ek er; unfold wrap64; omega
      have f1 : wrap64 x1 = x1 := by clear tl tl' hr1 hr2 ek er f0; unfold wrap64; omega
      have f0' : IntKind.i64.wrap x0 = x0 := (Go.IntWalk.i64_left _).trans f0
      have f1' : IntKind.i64.wrap x1 = x1 := (Go.IntWalk.i64_left _).trans f1
      have fr : wrap64 r = r := by clear tl tl' g1 g2 g3 g4 g5 g6 ek er f0 f1 f0' f1'; unfold wrap64; omega
      have fr' : IntKind.i64.wrap r = r := (Go.IntWalk.i64_left _).trans fr
      have fs : wrap64 (r + 6) = r + 6 := by clear tl tl' g1 g2 g3 g4 g5 g6 ek er f0 f1 f0' f1' fr fr'; unfold wrap64; omega
      have fs' : IntKind.i64.wrap (r + 6) = r + 6 := (Go.IntWalk.i64_left _).trans fs
      have fk : wrap64 (kk : Int) = (kk : Int) := by clear tl tl' g1 g2 g3 g4 g5 g6 ek er f0 f1 f0' f1' fr fr' fs fs' hr1 hr2; unfold wrap64; omega
      have fk' : IntKind.i64.wrap (kk : Int) = (kk : Int) := (Go.IntWalk.i64_left _).trans fk
      have HX1 : Hid (-128 ≤ x1 ∧ x1 ≤ 127) := ⟨g3, g4⟩
      have HX2 : Hid (-128 ≤ x2 ∧ x2 ≤ 127) := ⟨g5, g6⟩
      clear g1 g2 g3 g4 g5 g6 hx hcv y0 y1 y2 hr1 hr2
      go_upto_region 9 with fail
      rw [← hW3, ← hZ]
      clear hW3 hZ c0 c1 c2 tl tl'
      have z0 : W3.cell? ⟨Z, 0, none⟩ = some (.int .i8 x0) := cell_blk HZ3.out 0
      go_upto_region 14 with fail
      clear z0 er ek fr fr' fs fs' f0 f0' fk fk'
      have hkc : kk = 0 ∨ kk = 1 ∨ kk = 2 ∨ kk = 3 ∨ kk = 4 ∨ kk = 5 := by omega
      clear hkk
      rcases hkc with rfl | rfl | rfl | rfl | rfl | rfl
      · have z1 : W3.cell? ⟨Z, 1, none⟩ = some (.int .i8 x1) := cell_blk HZ3.out 1
        obtain ⟨b0, b1, b2, b3, b4⟩ := HT3.out.sb.facts
        by_cases hneg : x1 < 0
        · go_wp2_with fail
          refine (begin_neg HWF.out hneg _ HT3.out.sb.st).mono ?_
          rintro e W4 ⟨he, hb4⟩
          rw [zv] at he
          subst he
          have HT4 := Lib.hid (HT3.out.step hb4)
          clear hb4 z1 b0 b1 b2 b3 b4
          go_wp2_with fail
          have ei : wrap64 ((i : Int) + 1) = ((i + 1 : Nat) : Int) := (wrap_small (by omega) (by have := HGN.out; omega)).trans (by omega)
          try rw [ei]
          go_roundw
          case rel => exact ⟨i + 1, by omega, by first | rfl | go_num, q, _, _, _, _, _, _, HWF.out, by have := HQM.out; omega, rfl, rfl, rfl, HT4.out.step (HAL2.out W4 _ 28)⟩
          case measure => simp [intOf]; omega
        by_cases hbusy : ∃ (a b : Nat), q.opn[a]? = some (x1, b)
        · obtain ⟨ia, ib, hab⟩ := hbusy
          go_wp2_with fail
          refine (begin_busy HWF.out (by omega) hab _ HT3.out.sb.st).mono ?_
          rintro e W4 ⟨he, hb4⟩
          rw [zv] at he
          subst he
          clear hab
          have HT4 := Lib.hid (HT3.out.step hb4)
          clear hb4 z1 b0 b1 b2 b3 b4
          go_wp2_with fail
          have ei : wrap64 ((i : Int) + 1) = ((i + 1 : Nat) : Int) := (wrap_small (by omega) (by have := HGN.out; omega)).trans (by omega)
          try rw [ei]
          go_roundw
          case rel => exact ⟨i + 1, by omega, by first | rfl | go_num, q, _, _, _, _, _, _, HWF.out, by have := HQM.out; omega, rfl, rfl, rfl, HT4.out.step (HAL2.out W4 _ 28)⟩
          case measure => simp [intOf]; omega
        have hno : ∀ o ∈ q.opn, o.1 ≠ x1 := fun o ho e => hbusy (done_free ho e)
        clear hbusy
        go_wp2_with fail
        refine (begin_at HWF.out (by omega) hno (by have := HQM.out; have := HGN.out; omega) (insert_any (by rw [pushes_len]; exact pos_le q x1) (by rw [pushes_len]; have := HWF.out.fewo; have := HWF.out.few; omega) _) _ HT3.out.sb.st).mono ?_
        rintro e W4 ⟨v4, rfl, ⟨ns4, ps4, rfl, h1, h2⟩, hb4⟩
        have HWQ0 : Hid (WF (q.beg x1 (i : Int))) := beg_wf HWF.out (by have := HQM.out; have := HGN.out; omega) (by omega) hno
        have HPT : Hid ((q.beg x1 (i : Int)).took 0 (q.beg x1 (i : Int)).m = q.took 0 q.m ++ [(i : Int)] ∧ (q.beg x1 (i : Int)).took 0 q.done = q.took 0 q.done ∧ (q.beg x1 (i : Int)).m = q.m + 1 ∧ (q.beg x1 (i : Int)).done = q.done ∧ (q.beg x1 (i : Int)).empty = false) := ⟨beg_puts _ _ _, beg_took _ _ _ HWF.out.done, beg_m _ _ _, rfl, rfl⟩
        obtain ⟨qq, hqq⟩ : ∃ qq, qq = q.beg x1 (i : Int) := ⟨_, rfl⟩
        rw [← hqq] at h1 h2 HWQ0 HPT ⊢
        obtain ⟨pn4, cn4, e1⟩ := h1.slice
        obtain ⟨pp4, cp4, e2⟩ := h2.slice
        subst e1
        subst e2
        obtain ⟨Y, hY⟩ : ∃ Y, Y = W4.heap.size := ⟨_, rfl⟩
        obtain ⟨W5, hW5⟩ : ∃ W5, W5 = W4.alloc (Obj.cells #[.slice pn4 qq.nodes.length cn4, .int .i64 qq.m, .int .i64 qq.done, .slice pp4 qq.pushes.length cp4, .bool qq.empty] 28) := ⟨_, rfl⟩
        have ht5 := (HT3.out.step hb4).newY h1 h2
        rw [← hY, ← hW5] at ht5
        have HT5 := Lib.hid ht5
        have hYX : Y ≠ X := by have := blk_lt (HT3.out.step hb4).sb.box; omega
        clear hb4 z1 b0 b1 b2 b3 b4 ht5 h1 h2 hno hqq
        go_upto_region 19 with fail
        rw [← hY, ← hW5]
        clear hY hW5
        obtain ⟨d0, d1, d2, d3, d4⟩ := HT5.out.sb2.facts
        have hk2 : q.m ≤ 2000 := by have := HQM.out; have := HGN.out; omega
        go_region_held3 (fun W => W.cell? ⟨Y, 0, none⟩ = some (.slice pn4 qq.nodes.length cn4) ∧ W.cell? ⟨Y, 1, none⟩ = some (.int .i64 qq.m) ∧ W.cell? ⟨Y, 2, none⟩ = some (.int .i64 qq.done) ∧ W.cell? ⟨Y, 3, none⟩ = some (.slice pp4 qq.pushes.length cp4) ∧ W.cell? ⟨Y, 4, none⟩ = some (.bool qq.empty))
          (first | with_reducible exact HT7.out.sb2.facts | with_reducible exact (HT7.out.putX hYX rfl).sb2.facts | with_reducible exact (HT5.out.alloc _).drew.sb2.facts | with_reducible exact HT5.out.drew.sb2.facts | (refine ⟨?_, ?_, ?_, ?_, ?_⟩ <;> assumption))
          ((refine step_TR1 (c := (i : Int)) (HT5.out.alloc _).drew (List.mem_cons_self ..) rfl (.tmp 81) (.tmp 83) rfl (by simp [Act.eval, Act.put]) (by simp [Act.eval, Act.put]) hk2 ?_; intro p8 c8 w8 h8; have HT7 := Lib.hid h8; obtain ⟨e0, e1, e2, e3, e4⟩ := h8.sb.facts; obtain ⟨g0, g1, g2, g3, g4⟩ := h8.sb.frz; clear h8))
        obtain ⟨WX, hWX⟩ : ∃ WX, WX = (((((w8.setCell ⟨X, 0, none⟩ (.slice pn4 qq.nodes.length cn4)).setCell ⟨X, 1, none⟩ (.int .i64 qq.m)).setCell ⟨X, 2, none⟩ (.int .i64 qq.done)).setCell ⟨X, 3, none⟩ (.slice pp4 qq.pushes.length cp4)).setCell ⟨X, 4, none⟩ (.bool qq.empty)) := ⟨_, rfl⟩
        rw [← hWX]
        have HT8 := Lib.hid (HT7.out.putX hYX hWX)
        obtain ⟨k1, k2, k3, k4, k5⟩ := HPT.out
        have HTQ : Hid (TR w X (.slice pn4 qq.nodes.length cn4) (.slice pp4 qq.pushes.length cp4) qq X (.slice pn4 qq.nodes.length cn4) (.slice pp4 qq.pushes.length cp4) qq (.slice p8 qq.m c8) qq.m (qq.took 0 qq.m) (.slice p5 qq.done c5) qq.done (qq.took 0 qq.done) [] WX) := by
          have h := HT8.out
          show TR _ _ _ _ _ _ _ _ _ _ _ _ _ _ _ _ _
          rw [k4, k1, k2, k3]
          exact ⟨h.sb, h.sb, h.o1, h.o2, h.ap, fun y hy => by cases hy⟩
        rw [show q.m + 1 = qq.m from k3.symm, show q.done = qq.done from k4.symm]
        have HK5 := Lib.hid k5
        have HWQ := HWQ0
        have HMQ : Hid (qq.m ≤ i + 1) := by show _ ≤ _; have := HQM.out; omega
        clear hWX d0 d1 d2 d3 d4 e0 e1 e2 e3 e4 g0 g1 g2 g3 g4 k1 k2 k3 k4 k5 hk2
        obtain ⟨b0, b1, b2, b3, b4⟩ := HTQ.out.sb.facts
        have HBM : Hid (qq.m ≤ 81) := by have h1 := HMQ.out; have h2 := HGN.out; show _ ≤ _; omega
        have HBD : Hid (qq.done ≤ qq.m) := HWQ.out.done
        go_wp2_with fail
        refine (waiting_at HWQ.out _ HTQ.out.sb.st).mono ?_
        rintro e Wa ⟨uw, rfl, huw, hba⟩
        obtain ⟨pw, cw, ew⟩ := own1_slice huw
        subst ew
        have HTa := Lib.hid (HTQ.out.step hba)
        have HUW : Hid (Wa.ownsRow w.heap.size 3 1 (.slice pw (qq.m - qq.done) cw) (qq.m - qq.done) (ints (qq.took qq.done (qq.m - qq.done)))) := ownsRow_base huw HTQ.out.sb.below.size
        clear huw hba b0 b1 b2 b3 b4
        go_wp2_with fail
        refine (clone23 HTa.out.o2 (by have := HBM.out; have := HBD.out; omega)).mono ?_
        rintro e Wb ⟨vc, rfl, hvc, hbb⟩
        obtain ⟨pc, cc, ec⟩ := own1_slice hvc
        subst ec
        have HUWb := Lib.hid (own1_below HUW.out hbb)
        obtain ⟨uu, Wc, hrc, hoc, hgc, _, pu, cu, eu⟩ := run_append_many Wb 30 hvc HUWb.out (by have := HBM.out; have := HBD.out; omega) hbb.size
        subst eu
        have HTc := Lib.hid (HTa.out.step (hbb.grown hgc hbb.size (fun k hk => (hvc.lt k hk).1)))
        have elen : qq.done + (qq.m - qq.done) = qq.m := by have := HBD.out; omega
        rw [took_all HBD.out, elen] at hoc
        rw [elen] at hrc
        have HOC := Lib.hid hoc
        clear hoc hgc hvc hbb elen
        go_wp2_with (at_builtin; refine wpList_append_want _ (by kernel_rfl) _ _ _ _ rfl _ _ rfl rfl _ _ hrc ?_)
        refine (equal_at HOC.out HTc.out.o1 (by have := HBM.out; omega)).mono ?_
        rintro e Wd ⟨rfl, hbd⟩
        have HTd := Lib.hid (HTc.out.step hbd)
        clear hbd hrc
        obtain ⟨b0, b1, b2, b3, b4⟩ := HTd.out.sb.facts
        cases hqe : qq.empty with
        | true =>
          have k5 := HK5.out
          rw [hqe] at k5
          cases k5
        | false =>
          rw [hqe] at b4
          go_wp2_with fail
          have ei : wrap64 ((i : Int) + 1) = ((i + 1 : Nat) : Int) := (wrap_small (by omega) (by have := HGN.out; omega)).trans (by omega)
          try rw [ei]
          go_roundw
          case rel => exact ⟨i + 1, by omega, by first | rfl | go_num, qq, _, _, _, _, _, _, HWQ.out, HMQ.out, by rw [hqe], rfl, rfl, HTd.out⟩
          case measure => simp [intOf]; omega
      · have z1 : W3.cell? ⟨Z, 1, none⟩ = some (.int .i8 x1) := cell_blk HZ3.out 1
        obtain ⟨b0, b1, b2, b3, b4⟩ := HT3.out.sb.facts
        by_cases hbusy : ∃ (a b : Nat), q.opn[a]? = some (x1, b)
        · obtain ⟨ia, ib, hab⟩ := hbusy
          go_wp2_with fail
          refine (finish_at HWF.out hab _ HT3.out.sb.st).mono ?_
          rintro e W4 ⟨v4, rfl, ⟨ns4, ps4, rfl, h1, h2⟩, hb4⟩
          have HWQ : Hid (WF (q.fin ia)) := fin_wf HWF.out hab
          have HPT : Hid ((q.fin ia).m = q.m ∧ (q.fin ia).done = q.done ∧ (q.fin ia).empty = q.empty ∧ (q.fin ia).took = q.took) := ⟨rfl, rfl, rfl, rfl⟩
          obtain ⟨qq, hqq⟩ : ∃ qq, qq = q.fin ia := ⟨_, rfl⟩
          rw [← hqq] at h1 h2 HWQ HPT ⊢
          clear hqq hab
          obtain ⟨pn4, cn4, e1⟩ := h1.slice
          obtain ⟨pp4, cp4, e2⟩ := h2.slice
          subst e1
          subst e2
          obtain ⟨Y, hY⟩ : ∃ Y, Y = W4.heap.size := ⟨_, rfl⟩
          obtain ⟨W5, hW5⟩ : ∃ W5, W5 = W4.alloc (Obj.cells #[.slice pn4 qq.nodes.length cn4, .int .i64 qq.m, .int .i64 qq.done, .slice pp4 qq.pushes.length cp4, .bool qq.empty] 28) := ⟨_, rfl⟩
          have ht5 := (HT3.out.step hb4).newY h1 h2
          rw [← hY, ← hW5] at ht5
          have HT5 := Lib.hid ht5
          have hYX : Y ≠ X := by have := blk_lt (HT3.out.step hb4).sb.box; omega
          clear hb4 z1 b0 b1 b2 b3 b4 ht5 h1 h2
          go_upto_region 23 with fail
          rw [← hY, ← hW5]
          clear hY hW5

          obtain ⟨d0, d1, d2, d3, d4⟩ := HT5.out.sb2.facts
          obtain ⟨e0, e1, e2, e3, e4⟩ := HT5.out.sb.facts
          obtain ⟨g0, g1, g2, g3, g4⟩ := HT5.out.sb.frz
          obtain ⟨WX, hWX⟩ : ∃ WX, WX = (((((W5.setCell ⟨X, 0, none⟩ (.slice pn4 qq.nodes.length cn4)).setCell ⟨X, 1, none⟩ (.int .i64 qq.m)).setCell ⟨X, 2, none⟩ (.int .i64 qq.done)).setCell ⟨X, 3, none⟩ (.slice pp4 qq.pushes.length cp4)).setCell ⟨X, 4, none⟩ (.bool qq.empty)) := ⟨_, rfl⟩
          have HT8 := Lib.hid (HT5.out.putX hYX hWX)
          go_upto_region 36 with fail
          rw [← hWX]
          clear hWX d0 d1 d2 d3 d4 e0 e1 e2 e3 e4 g0 g1 g2 g3 g4
          obtain ⟨k1, k2, k3, k4⟩ := HPT.out
          have HTQ : Hid (TR w X (.slice pn4 qq.nodes.length cn4) (.slice pp4 qq.pushes.length cp4) qq X (.slice pn4 qq.nodes.length cn4) (.slice pp4 qq.pushes.length cp4) qq (.slice p4 qq.m c4) qq.m (qq.took 0 qq.m) (.slice p5 qq.done c5) qq.done (qq.took 0 qq.done) [] WX) := by
            have h := HT8.out
            show TR _ _ _ _ _ _ _ _ _ _ _ _ _ _ _ _ _
            rw [k4, k1, k2]
            exact ⟨h.sb, h.sb, h.o1, h.o2, h.ap, fun y hy => by cases hy⟩
          rw [show q.m = qq.m from k1.symm, show q.done = qq.done from k2.symm, show q.empty = qq.empty from k3.symm]
          have HMQ : Hid (qq.m ≤ i + 1) := by show _ ≤ _; have := HQM.out; omega
          clear k1 k2 k3 k4
          obtain ⟨b0, b1, b2, b3, b4⟩ := HTQ.out.sb.facts
          have HBM : Hid (qq.m ≤ 81) := by have h1 := HMQ.out; have h2 := HGN.out; show _ ≤ _; omega
          have HBD : Hid (qq.done ≤ qq.m) := HWQ.out.done
          go_wp2_with fail
          refine (waiting_at HWQ.out _ HTQ.out.sb.st).mono ?_
          rintro e Wa ⟨uw, rfl, huw, hba⟩
          obtain ⟨pw, cw, ew⟩ := own1_slice huw
          subst ew
          have HTa := Lib.hid (HTQ.out.step hba)
          have HUW : Hid (Wa.ownsRow w.heap.size 3 1 (.slice pw (qq.m - qq.done) cw) (qq.m - qq.done) (ints (qq.took qq.done (qq.m - qq.done)))) := ownsRow_base huw HTQ.out.sb.below.size
          clear huw hba b0 b1 b2 b3 b4
          go_wp2_with fail
          refine (clone23 HTa.out.o2 (by have := HBM.out; have := HBD.out; omega)).mono ?_
          rintro e Wb ⟨vc, rfl, hvc, hbb⟩
          obtain ⟨pc, cc, ec⟩ := own1_slice hvc
          subst ec
          have HUWb := Lib.hid (own1_below HUW.out hbb)
          obtain ⟨uu, Wc, hrc, hoc, hgc, _, pu, cu, eu⟩ := run_append_many Wb 30 hvc HUWb.out (by have := HBM.out; have := HBD.out; omega) hbb.size
          subst eu
          have HTc := Lib.hid (HTa.out.step (hbb.grown hgc hbb.size (fun k hk => (hvc.lt k hk).1)))
          have elen : qq.done + (qq.m - qq.done) = qq.m := by have := HBD.out; omega
          rw [took_all HBD.out, elen] at hoc
          rw [elen] at hrc
          have HOC := Lib.hid hoc
          clear hoc hgc hvc hbb elen
          go_wp2_with (at_builtin; refine wpList_append_want _ (by kernel_rfl) _ _ _ _ rfl _ _ rfl rfl _ _ hrc ?_)
          refine (equal_at HOC.out HTc.out.o1 (by have := HBM.out; omega)).mono ?_
          rintro e Wd ⟨rfl, hbd⟩
          have HTd := Lib.hid (HTc.out.step hbd)
          clear hbd hrc
          obtain ⟨b0, b1, b2, b3, b4⟩ := HTd.out.sb.facts
          cases hqe : qq.empty with
          | true =>
            have hz : qq.m - qq.done = 0 := by have := HWQ.out.mt hqe; omega
            have tz : decide ((0 : Int) < ((qq.m - qq.done : Nat) : Int)) = false := decide_eq_false (by omega)
            have tz' : decide (0 < qq.m - qq.done) = false := decide_eq_false (by omega)
            have tz'' : decide (qq.done < qq.m) = false := decide_eq_false (by omega)
            clear hz
            rw [hqe] at b4
            go_wp2_with fail
            have ei : wrap64 ((i : Int) + 1) = ((i + 1 : Nat) : Int) := (wrap_small (by omega) (by have := HGN.out; omega)).trans (by omega)
            try rw [ei]
            go_roundw
            case rel => exact ⟨i + 1, by omega, by first | rfl | go_num, qq, _, _, _, _, _, _, HWQ.out, HMQ.out, by rw [hqe], rfl, rfl, HTd.out⟩
            case measure => simp [intOf]; omega
          | false =>
            rw [hqe] at b4
            go_wp2_with fail
            have ei : wrap64 ((i : Int) + 1) = ((i + 1 : Nat) : Int) := (wrap_small (by omega) (by have := HGN.out; omega)).trans (by omega)
            try rw [ei]
            go_roundw
            case rel => exact ⟨i + 1, by omega, by first | rfl | go_num, qq, _, _, _, _, _, _, HWQ.out, HMQ.out, by rw [hqe], rfl, rfl, HTd.out⟩
            case measure => simp [intOf]; omega
        · have hno : ∀ o ∈ q.opn, o.1 ≠ x1 := fun o ho e => hbusy (done_free ho e)
          clear hbusy
          go_wp2_with fail
          refine (finish_none HWF.out hno _ HT3.out.sb.st).mono ?_
          rintro e W4 ⟨he, hb4⟩
          rw [zv] at he
          subst he
          clear hno z1 b0 b1 b2 b3 b4
          obtain ⟨WX, hWX⟩ : ∃ WX, WX = W4.alloc (Obj.cells #[.slice none 0 0, .int .i64 0, .int .i64 0, .slice none 0 0, .bool false] 28) := ⟨_, rfl⟩
          obtain ⟨qq, hqq⟩ : ∃ qq, qq = q := ⟨_, rfl⟩
          subst hqq
          have HTQ := Lib.hid ((HT3.out.step hb4).step (HAL2.out W4 #[.slice none 0 0, .int .i64 0, .int .i64 0, .slice none 0 0, .bool false] 28))
          rw [← hWX] at HTQ
          have HWQ := HWF
          have HMQ : Hid (qq.m ≤ i + 1) := by show _ ≤ _; have := HQM.out; omega
          clear hb4
          go_upto_region 36 with fail
          rw [← hWX]
          clear hWX
          obtain ⟨b0, b1, b2, b3, b4⟩ := HTQ.out.sb.facts
          have HBM : Hid (qq.m ≤ 81) := by have h1 := HMQ.out; have h2 := HGN.out; show _ ≤ _; omega
          have HBD : Hid (qq.done ≤ qq.m) := HWQ.out.done
          go_wp2_with fail
          refine (waiting_at HWQ.out _ HTQ.out.sb.st).mono ?_
          rintro e Wa ⟨uw, rfl, huw, hba⟩
          obtain ⟨pw, cw, ew⟩ := own1_slice huw
          subst ew
          have HTa := Lib.hid (HTQ.out.step hba)
          have HUW : Hid (Wa.ownsRow w.heap.size 3 1 (.slice pw (qq.m - qq.done) cw) (qq.m - qq.done) (ints (qq.took qq.done (qq.m - qq.done)))) := ownsRow_base huw HTQ.out.sb.below.size
          clear huw hba b0 b1 b2 b3 b4
          go_wp2_with fail
          refine (clone23 HTa.out.o2 (by have := HBM.out; have := HBD.out; omega)).mono ?_
          rintro e Wb ⟨vc, rfl, hvc, hbb⟩
          obtain ⟨pc, cc, ec⟩ := own1_slice hvc
          subst ec
          have HUWb := Lib.hid (own1_below HUW.out hbb)
          obtain ⟨uu, Wc, hrc, hoc, hgc, _, pu, cu, eu⟩ := run_append_many Wb 30 hvc HUWb.out (by have := HBM.out; have := HBD.out; omega) hbb.size
          subst eu
          have HTc := Lib.hid (HTa.out.step (hbb.grown hgc hbb.size (fun k hk => (hvc.lt k hk).1)))
          have elen : qq.done + (qq.m - qq.done) = qq.m := by have := HBD.out; omega
          rw [took_all HBD.out, elen] at hoc
          rw [elen] at hrc
          have HOC := Lib.hid hoc
          clear hoc hgc hvc hbb elen
          go_wp2_with (at_builtin; refine wpList_append_want _ (by kernel_rfl) _ _ _ _ rfl _ _ rfl rfl _ _ hrc ?_)
          refine (equal_at HOC.out HTc.out.o1 (by have := HBM.out; omega)).mono ?_
          rintro e Wd ⟨rfl, hbd⟩
          have HTd := Lib.hid (HTc.out.step hbd)
          clear hbd hrc
          obtain ⟨b0, b1, b2, b3, b4⟩ := HTd.out.sb.facts
          cases hqe : qq.empty with
          | true =>
            have hz : qq.m - qq.done = 0 := by have := HWQ.out.mt hqe; omega
            have tz : decide ((0 : Int) < ((qq.m - qq.done : Nat) : Int)) = false := decide_eq_false (by omega)
            have tz' : decide (0 < qq.m - qq.done) = false := decide_eq_false (by omega)
            have tz'' : decide (qq.done < qq.m) = false := decide_eq_false (by omega)
            clear hz
            rw [hqe] at b4
            go_wp2_with fail
            have ei : wrap64 ((i : Int) + 1) = ((i + 1 : Nat) : Int) := (wrap_small (by omega) (by have := HGN.out; omega)).trans (by omega)
            try rw [ei]
            go_roundw
            case rel => exact ⟨i + 1, by omega, by first | rfl | go_num, qq, _, _, _, _, _, _, HWQ.out, HMQ.out, by rw [hqe], rfl, rfl, HTd.out⟩
            case measure => simp [intOf]; omega
          | false =>
            rw [hqe] at b4
            go_wp2_with fail
            have ei : wrap64 ((i : Int) + 1) = ((i + 1 : Nat) : Int) := (wrap_small (by omega) (by have := HGN.out; omega)).trans (by omega)
            try rw [ei]
            go_roundw
            case rel => exact ⟨i + 1, by omega, by first | rfl | go_num, qq, _, _, _, _, _, _, HWQ.out, HMQ.out, by rw [hqe], rfl, rfl, HTd.out⟩
            case measure => simp [intOf]; omega
      · obtain ⟨b0, b1, b2, b3, b4⟩ := HT3.out.sb.facts
        cases hcan : q.can q.done with
        | false =>
          go_wp2_with fail
          refine (PopNo_at HWF.out hcan _ HT3.out.sb.st).mono ?_
          rintro e W4 ⟨v4, rfl, ⟨ns4, ps4, rfl, h1, h2⟩, hb4⟩
          have HWQ := HWF
          have HPT : Hid (True ∧ True ∧ True ∧ True) := ⟨trivial, trivial, trivial, trivial⟩
          obtain ⟨qq, hqq⟩ : ∃ qq : Mb.Q, qq = q := ⟨_, rfl⟩
          subst hqq
          clear hcan
          obtain ⟨pn4, cn4, e1⟩ := h1.slice
          obtain ⟨pp4, cp4, e2⟩ := h2.slice
          subst e1
          subst e2
          obtain ⟨Y, hY⟩ : ∃ Y, Y = W4.heap.size := ⟨_, rfl⟩
          obtain ⟨W5, hW5⟩ : ∃ W5, W5 = W4.alloc (Obj.cells #[.slice pn4 qq.nodes.length cn4, .int .i64 qq.m, .int .i64 qq.done, .slice pp4 qq.pushes.length cp4, .bool qq.empty] 28) := ⟨_, rfl⟩
          have ht5 := (HT3.out.step hb4).newY h1 h2
          rw [← hY, ← hW5] at ht5
          have HT5 := Lib.hid ht5
          have hYX : Y ≠ X := by have := blk_lt (HT3.out.step hb4).sb.box; omega
          clear hb4  b0 b1 b2 b3 b4 ht5 h1 h2
          go_upto_region 30 with fail
          rw [← hY, ← hW5]
          clear hY hW5

          obtain ⟨d0, d1, d2, d3, d4⟩ := HT5.out.sb2.facts
          obtain ⟨e0, e1, e2, e3, e4⟩ := HT5.out.sb.facts
          obtain ⟨g0, g1, g2, g3, g4⟩ := HT5.out.sb.frz
          obtain ⟨WX, hWX⟩ : ∃ WX, WX = (((((W5.setCell ⟨X, 0, none⟩ (.slice pn4 qq.nodes.length cn4)).setCell ⟨X, 1, none⟩ (.int .i64 qq.m)).setCell ⟨X, 2, none⟩ (.int .i64 qq.done)).setCell ⟨X, 3, none⟩ (.slice pp4 qq.pushes.length cp4)).setCell ⟨X, 4, none⟩ (.bool qq.empty)) := ⟨_, rfl⟩
          have HT8 := Lib.hid (HT5.out.putX hYX hWX)
          go_upto_region 36 with fail
          rw [← hWX]
          clear hWX d0 d1 d2 d3 d4 e0 e1 e2 e3 e4 g0 g1 g2 g3 g4
          obtain ⟨k1, k2, k3, k4⟩ := HPT.out
          have HTQ : Hid (TR w X (.slice pn4 qq.nodes.length cn4) (.slice pp4 qq.pushes.length cp4) qq X (.slice pn4 qq.nodes.length cn4) (.slice pp4 qq.pushes.length cp4) qq (.slice p4 qq.m c4) qq.m (qq.took 0 qq.m) (.slice p5 qq.done c5) qq.done (qq.took 0 qq.done) [] WX) := by
            have h := HT8.out
            exact ⟨h.sb, h.sb, h.o1, h.o2, h.ap, fun y hy => by cases hy⟩
          have HMQ : Hid (qq.m ≤ i + 1) := by show _ ≤ _; have := HQM.out; omega
          clear k1 k2 k3 k4
          obtain ⟨b0, b1, b2, b3, b4⟩ := HTQ.out.sb.facts
          have HBM : Hid (qq.m ≤ 81) := by have h1 := HMQ.out; have h2 := HGN.out; show _ ≤ _; omega
          have HBD : Hid (qq.done ≤ qq.m) := HWQ.out.done
          go_wp2_with fail
          refine (waiting_at HWQ.out _ HTQ.out.sb.st).mono ?_
          rintro e Wa ⟨uw, rfl, huw, hba⟩
          obtain ⟨pw, cw, ew⟩ := own1_slice huw
          subst ew
          have HTa := Lib.hid (HTQ.out.step hba)
          have HUW : Hid (Wa.ownsRow w.heap.size 3 1 (.slice pw (qq.m - qq.done) cw) (qq.m - qq.done) (ints (qq.took qq.done (qq.m - qq.done)))) := ownsRow_base huw HTQ.out.sb.below.size
          clear huw hba b0 b1 b2 b3 b4
          go_wp2_with fail
          refine (clone23 HTa.out.o2 (by have := HBM.out; have := HBD.out; omega)).mono ?_
          rintro e Wb ⟨vc, rfl, hvc, hbb⟩
          obtain ⟨pc, cc, ec⟩ := own1_slice hvc
          subst ec
          have HUWb := Lib.hid (own1_below HUW.out hbb)
          obtain ⟨uu, Wc, hrc, hoc, hgc, _, pu, cu, eu⟩ := run_append_many Wb 30 hvc HUWb.out (by have := HBM.out; have := HBD.out; omega) hbb.size
          subst eu
          have HTc := Lib.hid (HTa.out.step (hbb.grown hgc hbb.size (fun k hk => (hvc.lt k hk).1)))
          have elen : qq.done + (qq.m - qq.done) = qq.m := by have := HBD.out; omega
          rw [took_all HBD.out, elen] at hoc
          rw [elen] at hrc
          have HOC := Lib.hid hoc
          clear hoc hgc hvc hbb elen
          go_wp2_with (at_builtin; refine wpList_append_want _ (by kernel_rfl) _ _ _ _ rfl _ _ rfl rfl _ _ hrc ?_)
          refine (equal_at HOC.out HTc.out.o1 (by have := HBM.out; omega)).mono ?_
          rintro e Wd ⟨rfl, hbd⟩
          have HTd := Lib.hid (HTc.out.step hbd)
          clear hbd hrc
          obtain ⟨b0, b1, b2, b3, b4⟩ := HTd.out.sb.facts
          cases hqe : qq.empty with
          | true =>
            have hz : qq.m - qq.done = 0 := by have := HWQ.out.mt hqe; omega
            have tz : decide ((0 : Int) < ((qq.m - qq.done : Nat) : Int)) = false := decide_eq_false (by omega)
            have tz' : decide (0 < qq.m - qq.done) = false := decide_eq_false (by omega)
            have tz'' : decide (qq.done < qq.m) = false := decide_eq_false (by omega)
            clear hz
            rw [hqe] at b4
            go_wp2_with fail
            have ei : wrap64 ((i : Int) + 1) = ((i + 1 : Nat) : Int) := (wrap_small (by omega) (by have := HGN.out; omega)).trans (by omega)
            try rw [ei]
            go_roundw
            case rel => exact ⟨i + 1, by omega, by first | rfl | go_num, qq, _, _, _, _, _, _, HWQ.out, HMQ.out, by rw [hqe], rfl, rfl, HTd.out⟩
            case measure => simp [intOf]; omega
          | false =>
            rw [hqe] at b4
            go_wp2_with fail
            have ei : wrap64 ((i : Int) + 1) = ((i + 1 : Nat) : Int) := (wrap_small (by omega) (by have := HGN.out; omega)).trans (by omega)
            try rw [ei]
            go_roundw
            case rel => exact ⟨i + 1, by omega, by first | rfl | go_num, qq, _, _, _, _, _, _, HWQ.out, HMQ.out, by rw [hqe], rfl, rfl, HTd.out⟩
            case measure => simp [intOf]; omega
        | true =>
          go_wp2_with fail
          refine (PopYes_at HWF.out hcan _ HT3.out.sb.st).mono ?_
          rintro e W4 ⟨v4, rfl, ⟨ns4, ps4, rfl, h1, h2⟩, hb4⟩
          have HWQ : Hid (WF { q with done := q.done + 1 }) := pop_wf HWF.out hcan
          have HPT : Hid ({ q with done := q.done + 1 }.m = q.m ∧ { q with done := q.done + 1 }.done = q.done + 1 ∧ { q with done := q.done + 1 }.empty = q.empty ∧ { q with done := q.done + 1 }.took = q.took) := ⟨rfl, rfl, rfl, rfl⟩
          obtain ⟨qq, hqq⟩ : ∃ qq : Mb.Q, qq = { q with done := q.done + 1 } := ⟨_, rfl⟩
          rw [← hqq] at h1 h2 HWQ HPT ⊢
          clear hcan hqq
          obtain ⟨pn4, cn4, e1⟩ := h1.slice
          obtain ⟨pp4, cp4, e2⟩ := h2.slice
          subst e1
          subst e2
          obtain ⟨Y, hY⟩ : ∃ Y, Y = W4.heap.size := ⟨_, rfl⟩
          obtain ⟨W5, hW5⟩ : ∃ W5, W5 = W4.alloc (Obj.cells #[.slice pn4 qq.nodes.length cn4, .int .i64 qq.m, .int .i64 qq.done, .slice pp4 qq.pushes.length cp4, .bool qq.empty] 28) := ⟨_, rfl⟩
          have ht5 := (HT3.out.step hb4).newY h1 h2
          rw [← hY, ← hW5] at ht5
          have HT5 := Lib.hid ht5
          have hYX : Y ≠ X := by have := blk_lt (HT3.out.step hb4).sb.box; omega
          clear hb4  b0 b1 b2 b3 b4 ht5 h1 h2
          go_upto_region 29 with fail
          rw [← hY, ← hW5]
          clear hY hW5
          obtain ⟨NY, hNY⟩ : ∃ NY, NY = W5.heap.size := ⟨_, rfl⟩
          obtain ⟨xv, hxv⟩ : ∃ xv, xv = q.val q.done := ⟨_, rfl⟩
          rw [← hxv]
          have HXV := Lib.hid hxv
          have ht6 := HT5.out.alloc xv
          obtain ⟨u7, W7, hr7, ho7, hg7, hb7, p7, c7, e7⟩ := run_append_one (W5.alloc (Obj.cells #[.int .i64 xv] 3)) 30 ht6.o2 (ht6.fresh _ (List.mem_cons_self ..)).1 (by have h1 := HWF.out.done; have h2 := HWF.out.few; omega) ht6.sb.below.size
          subst e7
          have HT7 := Lib.hid (ht6.re2 hg7 ho7 hb7)
          clear ht6 ho7 hg7 hb7 hxv hNY
          go_upto_region 30 with (at_builtin; refine Lib.wpList_append_run _ rfl _ _ _ _ rfl _ _ rfl rfl _ _ hr7 ?_)
          clear hr7
          obtain ⟨d0, d1, d2, d3, d4⟩ := HT7.out.sb2.facts
          obtain ⟨e0, e1, e2, e3, e4⟩ := HT7.out.sb.facts
          obtain ⟨g0, g1, g2, g3, g4⟩ := HT7.out.sb.frz
          obtain ⟨WX, hWX⟩ : ∃ WX, WX = (((((W7.setCell ⟨X, 0, none⟩ (.slice pn4 qq.nodes.length cn4)).setCell ⟨X, 1, none⟩ (.int .i64 qq.m)).setCell ⟨X, 2, none⟩ (.int .i64 qq.done)).setCell ⟨X, 3, none⟩ (.slice pp4 qq.pushes.length cp4)).setCell ⟨X, 4, none⟩ (.bool qq.empty)) := ⟨_, rfl⟩
          have HT8 := Lib.hid (HT7.out.putX hYX hWX)
          go_upto_region 36 with fail
          rw [← hWX]
          clear hWX d0 d1 d2 d3 d4 e0 e1 e2 e3 e4 g0 g1 g2 g3 g4
          obtain ⟨k1, k2, k3, k4⟩ := HPT.out
          have HTQ : Hid (TR w X (.slice pn4 qq.nodes.length cn4) (.slice pp4 qq.pushes.length cp4) qq X (.slice pn4 qq.nodes.length cn4) (.slice pp4 qq.pushes.length cp4) qq (.slice p4 qq.m c4) qq.m (qq.took 0 qq.m) (.slice p7 qq.done c7) qq.done (qq.took 0 qq.done) [] WX) := by
            have h := HT8.out
            show TR _ _ _ _ _ _ _ _ _ _ _ _ _ _ _ _ _
            rw [k4, k1, k2, ← took_snoc, Nat.zero_add, ← HXV.out]
            exact ⟨h.sb, h.sb, h.o1, h.o2, h.ap, fun y hy => by cases hy⟩
          rw [show q.m = qq.m from k1.symm, show q.done + 1 = qq.done from k2.symm, show q.empty = qq.empty from k3.symm]
          have HMQ : Hid (qq.m ≤ i + 1) := by show _ ≤ _; have := HQM.out; omega
          clear k1 k2 k3 k4
          obtain ⟨b0, b1, b2, b3, b4⟩ := HTQ.out.sb.facts
          have HBM : Hid (qq.m ≤ 81) := by have h1 := HMQ.out; have h2 := HGN.out; show _ ≤ _; omega
          have HBD : Hid (qq.done ≤ qq.m) := HWQ.out.done
          go_wp2_with fail
          refine (waiting_at HWQ.out _ HTQ.out.sb.st).mono ?_
          rintro e Wa ⟨uw, rfl, huw, hba⟩
          obtain ⟨pw, cw, ew⟩ := own1_slice huw
          subst ew
          have HTa := Lib.hid (HTQ.out.step hba)
          have HUW : Hid (Wa.ownsRow w.heap.size 3 1 (.slice pw (qq.m - qq.done) cw) (qq.m - qq.done) (ints (qq.took qq.done (qq.m - qq.done)))) := ownsRow_base huw HTQ.out.sb.below.size
          clear huw hba b0 b1 b2 b3 b4
          go_wp2_with fail
          refine (clone23 HTa.out.o2 (by have := HBM.out; have := HBD.out; omega)).mono ?_
          rintro e Wb ⟨vc, rfl, hvc, hbb⟩
          obtain ⟨pc, cc, ec⟩ := own1_slice hvc
          subst ec
          have HUWb := Lib.hid (own1_below HUW.out hbb)
          obtain ⟨uu, Wc, hrc, hoc, hgc, _, pu, cu, eu⟩ := run_append_many Wb 30 hvc HUWb.out (by have := HBM.out; have := HBD.out; omega) hbb.size
          subst eu
          have HTc := Lib.hid (HTa.out.step (hbb.grown hgc hbb.size (fun k hk => (hvc.lt k hk).1)))
          have elen : qq.done + (qq.m - qq.done) = qq.m := by have := HBD.out; omega
          rw [took_all HBD.out, elen] at hoc
          rw [elen] at hrc
          have HOC := Lib.hid hoc
          clear hoc hgc hvc hbb elen
          go_wp2_with (at_builtin; refine wpList_append_want _ (by kernel_rfl) _ _ _ _ rfl _ _ rfl rfl _ _ hrc ?_)
          refine (equal_at HOC.out HTc.out.o1 (by have := HBM.out; omega)).mono ?_
          rintro e Wd ⟨rfl, hbd⟩
          have HTd := Lib.hid (HTc.out.step hbd)
          clear hbd hrc
          obtain ⟨b0, b1, b2, b3, b4⟩ := HTd.out.sb.facts
          cases hqe : qq.empty with
          | true =>
            have hz : qq.m - qq.done = 0 := by have := HWQ.out.mt hqe; omega
            have tz : decide ((0 : Int) < ((qq.m - qq.done : Nat) : Int)) = false := decide_eq_false (by omega)
            have tz' : decide (0 < qq.m - qq.done) = false := decide_eq_false (by omega)
            have tz'' : decide (qq.done < qq.m) = false := decide_eq_false (by omega)
            clear hz
            rw [hqe] at b4
            go_wp2_with fail
            have ei : wrap64 ((i : Int) + 1) = ((i + 1 : Nat) : Int) := (wrap_small (by omega) (by have := HGN.out; omega)).trans (by omega)
            try rw [ei]
            go_roundw
            case rel => exact ⟨i + 1, by omega, by first | rfl | go_num, qq, _, _, _, _, _, _, HWQ.out, HMQ.out, by rw [hqe], rfl, rfl, HTd.out⟩
            case measure => simp [intOf]; omega
          | false =>
            rw [hqe] at b4
            go_wp2_with fail
            have ei : wrap64 ((i : Int) + 1) = ((i + 1 : Nat) : Int) := (wrap_small (by omega) (by have := HGN.out; omega)).trans (by omega)
            try rw [ei]
            go_roundw
            case rel => exact ⟨i + 1, by omega, by first | rfl | go_num, qq, _, _, _, _, _, _, HWQ.out, HMQ.out, by rw [hqe], rfl, rfl, HTd.out⟩
            case measure => simp [intOf]; omega
      · have z2 : W3.cell? ⟨Z, 2, none⟩ = some (.int .i8 x2) := cell_blk HZ3.out 2
        obtain ⟨b0, b1, b2, b3, b4⟩ := HT3.out.sb.facts
        obtain ⟨mm, hmm, hm256⟩ : ∃ mm : Nat, IntKind.u8.wrap x2 = (mm : Int) ∧ mm < 256 := by
          have e : IntKind.u8.wrap x2 = x2 % 256 := by simp [IntKind.wrap, IntKind.bits, IntKind.signed]
          refine ⟨(x2 % 256).toNat, ?_, ?_⟩
          · rw [e]; omega
          · omega
        have fm : wrap64 (mm : Int) = (mm : Int) := wrap_small (by omega) (by omega)
        have fm' : IntKind.i64.wrap (mm : Int) = (mm : Int) := (Go.IntWalk.i64_left _).trans fm
        clear hm256
        go_wp2_with fail
        refine (batch_at HWF.out mm _ HT3.out.sb.st).mono ?_
        rintro e W4 ⟨v4, u4, rfl, ⟨ns4, ps4, rfl, h1, h2⟩, hu4, hb4⟩
        have HWQ : Hid (WF { q with done := q.done + q.pops mm q.done }) := batch_wf' HWF.out mm
        have HPT : Hid ({ q with done := q.done + q.pops mm q.done }.m = q.m ∧ { q with done := q.done + q.pops mm q.done }.done = q.done + q.pops mm q.done ∧ { q with done := q.done + q.pops mm q.done }.empty = q.empty ∧ { q with done := q.done + q.pops mm q.done }.took = q.took) := ⟨rfl, rfl, rfl, rfl⟩
        obtain ⟨qq, hqq⟩ : ∃ qq : Mb.Q, qq = { q with done := q.done + q.pops mm q.done } := ⟨_, rfl⟩
        rw [← hqq] at h1 h2 HWQ HPT ⊢
        clear hqq
        obtain ⟨PN, hPN⟩ : ∃ PN, PN = q.pops mm q.done := ⟨_, rfl⟩
        rw [← hPN] at hu4 HPT
        obtain ⟨pu, cu, eu⟩ := own1_slice hu4
        subst eu
        have HU4 := Lib.hid hu4
        clear hu4 hPN fm fm' hmm
        obtain ⟨pn4, cn4, e1⟩ := h1.slice
        obtain ⟨pp4, cp4, e2⟩ := h2.slice
        subst e1
        subst e2
        obtain ⟨Y, hY⟩ : ∃ Y, Y = W4.heap.size := ⟨_, rfl⟩
        obtain ⟨W5, hW5⟩ : ∃ W5, W5 = W4.alloc (Obj.cells #[.slice pn4 qq.nodes.length cn4, .int .i64 qq.m, .int .i64 qq.done, .slice pp4 qq.pushes.length cp4, .bool qq.empty] 28) := ⟨_, rfl⟩
        have ht5 := (HT3.out.step hb4).newY h1 h2
        have hal := HAL2.out W4 #[.slice pn4 qq.nodes.length cn4, .int .i64 qq.m, .int .i64 qq.done, .slice pp4 qq.pushes.length cp4, .bool qq.empty] 28
        rw [← hY, ← hW5] at ht5
        rw [← hW5] at hal
        have HT5 := Lib.hid ht5
        have HU5 := Lib.hid (own1_below (own1_below HU4.out hal) (Below.refl _ _).drew)
        have hYX : Y ≠ X := by have := blk_lt (HT3.out.step hb4).sb.box; omega
        clear hb4 z2 b0 b1 b2 b3 b4 ht5 hal h1 h2
        go_upto_region 35 with fail
        rw [← hY, ← hW5]
        clear hY hW5
        obtain ⟨d0, d1, d2, d3, d4⟩ := HT5.out.sb2.facts
        have hk2 : q.done + PN ≤ 100000 := by
          obtain ⟨k1, k2, k3, k4⟩ := HPT.out
          have h1 := HWQ.out.done
          have h2 := HWQ.out.few
          omega
        go_region_held3 (fun W => W.cell? ⟨Y, 0, none⟩ = some (.slice pn4 qq.nodes.length cn4) ∧ W.cell? ⟨Y, 1, none⟩ = some (.int .i64 qq.m) ∧ W.cell? ⟨Y, 2, none⟩ = some (.int .i64 qq.done) ∧ W.cell? ⟨Y, 3, none⟩ = some (.slice pp4 qq.pushes.length cp4) ∧ W.cell? ⟨Y, 4, none⟩ = some (.bool qq.empty))
          (first | with_reducible exact HT7.out.sb2.facts | with_reducible exact (HT7.out.putX hYX rfl).sb2.facts | with_reducible exact HT5.out.drew.sb2.facts | (refine ⟨?_, ?_, ?_, ?_, ?_⟩ <;> assumption))
          ((refine step_TRm HT5.out.drew HU5.out rfl (.tmp 130) (.tmp 131) rfl (by simp [Act.eval, Act.put]) (by simp [Act.eval, Act.put]) hk2 ?_; intro p8 c8 w8 h8; have HT7 := Lib.hid h8; obtain ⟨e0, e1, e2, e3, e4⟩ := h8.sb.facts; obtain ⟨g0, g1, g2, g3, g4⟩ := h8.sb.frz; clear h8))
        obtain ⟨WX, hWX⟩ : ∃ WX, WX = (((((w8.setCell ⟨X, 0, none⟩ (.slice pn4 qq.nodes.length cn4)).setCell ⟨X, 1, none⟩ (.int .i64 qq.m)).setCell ⟨X, 2, none⟩ (.int .i64 qq.done)).setCell ⟨X, 3, none⟩ (.slice pp4 qq.pushes.length cp4)).setCell ⟨X, 4, none⟩ (.bool qq.empty)) := ⟨_, rfl⟩
        rw [← hWX]
        have HT8 := Lib.hid (HT7.out.putX hYX hWX)
        obtain ⟨k1, k2, k3, k4⟩ := HPT.out
        have HTQ : Hid (TR w X (.slice pn4 qq.nodes.length cn4) (.slice pp4 qq.pushes.length cp4) qq X (.slice pn4 qq.nodes.length cn4) (.slice pp4 qq.pushes.length cp4) qq (.slice p4 qq.m c4) qq.m (qq.took 0 qq.m) (.slice p8 qq.done c8) qq.done (qq.took 0 qq.done) [] WX) := by
          have h := HT8.out
          show TR _ _ _ _ _ _ _ _ _ _ _ _ _ _ _ _ _
          rw [k4, k1, k2, took_add]
          exact ⟨h.sb, h.sb, h.o1, h.o2, h.ap, fun y hy => by cases hy⟩
        rw [show q.m = qq.m from k1.symm, show q.done + PN = qq.done from k2.symm, show q.empty = qq.empty from k3.symm]
        have HMQ : Hid (qq.m ≤ i + 1) := by show _ ≤ _; have := HQM.out; omega
        clear hWX d0 d1 d2 d3 d4 e0 e1 e2 e3 e4 g0 g1 g2 g3 g4 k1 k2 k3 k4 hk2
        obtain ⟨b0, b1, b2, b3, b4⟩ := HTQ.out.sb.facts
        have HBM : Hid (qq.m ≤ 81) := by have h1 := HMQ.out; have h2 := HGN.out; show _ ≤ _; omega
        have HBD : Hid (qq.done ≤ qq.m) := HWQ.out.done
        go_wp2_with fail
        refine (waiting_at HWQ.out _ HTQ.out.sb.st).mono ?_
        rintro e Wa ⟨uw, rfl, huw, hba⟩
        obtain ⟨pw, cw, ew⟩ := own1_slice huw
        subst ew
        have HTa := Lib.hid (HTQ.out.step hba)
        have HUW : Hid (Wa.ownsRow w.heap.size 3 1 (.slice pw (qq.m - qq.done) cw) (qq.m - qq.done) (ints (qq.took qq.done (qq.m - qq.done)))) := ownsRow_base huw HTQ.out.sb.below.size
        clear huw hba b0 b1 b2 b3 b4
        go_wp2_with fail
        refine (clone23 HTa.out.o2 (by have := HBM.out; have := HBD.out; omega)).mono ?_
        rintro e Wb ⟨vc, rfl, hvc, hbb⟩
        obtain ⟨pc, cc, ec⟩ := own1_slice hvc
        subst ec
        have HUWb := Lib.hid (own1_below HUW.out hbb)
        obtain ⟨uu, Wc, hrc, hoc, hgc, _, pu, cu, eu⟩ := run_append_many Wb 30 hvc HUWb.out (by have := HBM.out; have := HBD.out; omega) hbb.size
        subst eu
        have HTc := Lib.hid (HTa.out.step (hbb.grown hgc hbb.size (fun k hk => (hvc.lt k hk).1)))
        have elen : qq.done + (qq.m - qq.done) = qq.m := by have := HBD.out; omega
        rw [took_all HBD.out, elen] at hoc
        rw [elen] at hrc
        have HOC := Lib.hid hoc
        clear hoc hgc hvc hbb elen
        go_wp2_with (at_builtin; refine wpList_append_want _ (by kernel_rfl) _ _ _ _ rfl _ _ rfl rfl _ _ hrc ?_)
        refine (equal_at HOC.out HTc.out.o1 (by have := HBM.out; omega)).mono ?_
        rintro e Wd ⟨rfl, hbd⟩
        have HTd := Lib.hid (HTc.out.step hbd)
        clear hbd hrc
        obtain ⟨b0, b1, b2, b3, b4⟩ := HTd.out.sb.facts
        cases hqe : qq.empty with
        | true =>
          have hz : qq.m - qq.done = 0 := by have := HWQ.out.mt hqe; omega
          have tz : decide ((0 : Int) < ((qq.m - qq.done : Nat) : Int)) = false := decide_eq_false (by omega)
          have tz' : decide (0 < qq.m - qq.done) = false := decide_eq_false (by omega)
          have tz'' : decide (qq.done < qq.m) = false := decide_eq_false (by omega)
          clear hz
          rw [hqe] at b4
          go_wp2_with fail
          have ei : wrap64 ((i : Int) + 1) = ((i + 1 : Nat) : Int) := (wrap_small (by omega) (by have := HGN.out; omega)).trans (by omega)
          try rw [ei]
          go_roundw
          case rel => exact ⟨i + 1, by omega, by first | rfl | go_num, qq, _, _, _, _, _, _, HWQ.out, HMQ.out, by rw [hqe], rfl, rfl, HTd.out⟩
          case measure => simp [intOf]; omega
        | false =>
          rw [hqe] at b4
          go_wp2_with fail
          have ei : wrap64 ((i : Int) + 1) = ((i + 1 : Nat) : Int) := (wrap_small (by omega) (by have := HGN.out; omega)).trans (by omega)
          try rw [ei]
          go_roundw
          case rel => exact ⟨i + 1, by omega, by first | rfl | go_num, qq, _, _, _, _, _, _, HWQ.out, HMQ.out, by rw [hqe], rfl, rfl, HTd.out⟩
          case measure => simp [intOf]; omega
      · obtain ⟨b0, b1, b2, b3, b4⟩ := HT3.out.sb.facts
        obtain ⟨t, ht⟩ : ∃ t : Bool, t = decide (q.done = q.m) := ⟨_, rfl⟩
        have et : ((q.done : Int) == (q.m : Int)) = t := by
          rw [ht]
          by_cases h : q.done = q.m
          · simp [h]
          · simp [h]; omega
        have HMK : Hid (Calls Try.prog 13 #[.agg #[.slice pn q.nodes.length cn, .int .i64 q.m, .int .i64 q.done, .slice pp q.pushes.length cp, .bool q.empty]] W3 fun e w' => ∃ v', e = .returned (.tuple #[v', .bool t, .int .i64 0]) ∧ St w' v' { q with empty := t } ∧ Below W3.heap.size W3 w') := by
          rw [ht]; exact mark_at HWF.out _ HT3.out.sb.st
        have HWQ : Hid (WF { q with empty := t }) := by rw [ht]; exact mark_wf HWF.out
        clear ht
        go_wp2_with fail
        refine HMK.out.mono ?_
        rintro e W4 ⟨v4, rfl, ⟨ns4, ps4, rfl, h1, h2⟩, hb4⟩
        clear HMK
        have HPT : Hid ({ q with empty := t }.m = q.m ∧ { q with empty := t }.done = q.done ∧ { q with empty := t }.empty = t ∧ { q with empty := t }.took = q.took) := ⟨rfl, rfl, rfl, rfl⟩
        obtain ⟨qq, hqq⟩ : ∃ qq : Mb.Q, qq = { q with empty := t } := ⟨_, rfl⟩
        rw [← hqq] at h1 h2 HWQ HPT ⊢
        clear hqq
        obtain ⟨pn4, cn4, e1⟩ := h1.slice
        obtain ⟨pp4, cp4, e2⟩ := h2.slice
        subst e1
        subst e2
        obtain ⟨Y, hY⟩ : ∃ Y, Y = W4.heap.size := ⟨_, rfl⟩
        obtain ⟨W5, hW5⟩ : ∃ W5, W5 = W4.alloc (Obj.cells #[.slice pn4 qq.nodes.length cn4, .int .i64 qq.m, .int .i64 qq.done, .slice pp4 qq.pushes.length cp4, .bool qq.empty] 28) := ⟨_, rfl⟩
        have ht5 := (HT3.out.step hb4).newY h1 h2
        rw [← hY, ← hW5] at ht5
        have HT5 := Lib.hid ht5
        have hYX : Y ≠ X := by have := blk_lt (HT3.out.step hb4).sb.box; omega
        clear hb4  b0 b1 b2 b3 b4 ht5 h1 h2
        go_upto_region 13 with fail
        rw [← hY, ← hW5]
        clear hY hW5

        obtain ⟨d0, d1, d2, d3, d4⟩ := HT5.out.sb2.facts
        obtain ⟨e0, e1, e2, e3, e4⟩ := HT5.out.sb.facts
        obtain ⟨g0, g1, g2, g3, g4⟩ := HT5.out.sb.frz
        obtain ⟨WX, hWX⟩ : ∃ WX, WX = (((((W5.setCell ⟨X, 0, none⟩ (.slice pn4 qq.nodes.length cn4)).setCell ⟨X, 1, none⟩ (.int .i64 qq.m)).setCell ⟨X, 2, none⟩ (.int .i64 qq.done)).setCell ⟨X, 3, none⟩ (.slice pp4 qq.pushes.length cp4)).setCell ⟨X, 4, none⟩ (.bool qq.empty)) := ⟨_, rfl⟩
        have HT8 := Lib.hid (HT5.out.putX hYX hWX)
        go_upto_region 36 with fail
        rw [← hWX]
        clear hWX d0 d1 d2 d3 d4 e0 e1 e2 e3 e4 g0 g1 g2 g3 g4
        obtain ⟨k1, k2, k3, k4⟩ := HPT.out
        have HTQ : Hid (TR w X (.slice pn4 qq.nodes.length cn4) (.slice pp4 qq.pushes.length cp4) qq X (.slice pn4 qq.nodes.length cn4) (.slice pp4 qq.pushes.length cp4) qq (.slice p4 qq.m c4) qq.m (qq.took 0 qq.m) (.slice p5 qq.done c5) qq.done (qq.took 0 qq.done) [] WX) := by
          have h := HT8.out
          show TR _ _ _ _ _ _ _ _ _ _ _ _ _ _ _ _ _
          rw [k4, k1, k2]
          exact ⟨h.sb, h.sb, h.o1, h.o2, h.ap, fun y hy => by cases hy⟩
        rw [show q.m = qq.m from k1.symm, show q.done = qq.done from k2.symm, show t = qq.empty from k3.symm]
        have HMQ : Hid (qq.m ≤ i + 1) := by show _ ≤ _; have := HQM.out; omega
        clear k1 k2 k3 k4 et

        obtain ⟨b0, b1, b2, b3, b4⟩ := HTQ.out.sb.facts
        have HBM : Hid (qq.m ≤ 81) := by have h1 := HMQ.out; have h2 := HGN.out; show _ ≤ _; omega
        have HBD : Hid (qq.done ≤ qq.m) := HWQ.out.done
        go_wp2_with fail
        refine (waiting_at HWQ.out _ HTQ.out.sb.st).mono ?_
        rintro e Wa ⟨uw, rfl, huw, hba⟩
        obtain ⟨pw, cw, ew⟩ := own1_slice huw
        subst ew
        have HTa := Lib.hid (HTQ.out.step hba)
        have HUW : Hid (Wa.ownsRow w.heap.size 3 1 (.slice pw (qq.m - qq.done) cw) (qq.m - qq.done) (ints (qq.took qq.done (qq.m - qq.done)))) := ownsRow_base huw HTQ.out.sb.below.size
        clear huw hba b0 b1 b2 b3 b4
        go_wp2_with fail
        refine (clone23 HTa.out.o2 (by have := HBM.out; have := HBD.out; omega)).mono ?_
        rintro e Wb ⟨vc, rfl, hvc, hbb⟩
        obtain ⟨pc, cc, ec⟩ := own1_slice hvc
        subst ec
        have HUWb := Lib.hid (own1_below HUW.out hbb)
        obtain ⟨uu, Wc, hrc, hoc, hgc, _, pu, cu, eu⟩ := run_append_many Wb 30 hvc HUWb.out (by have := HBM.out; have := HBD.out; omega) hbb.size
        subst eu
        have HTc := Lib.hid (HTa.out.step (hbb.grown hgc hbb.size (fun k hk => (hvc.lt k hk).1)))
        have elen : qq.done + (qq.m - qq.done) = qq.m := by have := HBD.out; omega
        rw [took_all HBD.out, elen] at hoc
        rw [elen] at hrc
        have HOC := Lib.hid hoc
        clear hoc hgc hvc hbb elen
        go_wp2_with (at_builtin; refine wpList_append_want _ (by kernel_rfl) _ _ _ _ rfl _ _ rfl rfl _ _ hrc ?_)
        refine (equal_at HOC.out HTc.out.o1 (by have := HBM.out; omega)).mono ?_
        rintro e Wd ⟨rfl, hbd⟩
        have HTd := Lib.hid (HTc.out.step hbd)
        clear hbd hrc
        obtain ⟨b0, b1, b2, b3, b4⟩ := HTd.out.sb.facts
        cases hqe : qq.empty with
        | true =>
          have hz : qq.m - qq.done = 0 := by have := HWQ.out.mt hqe; omega
          have tz : decide ((0 : Int) < ((qq.m - qq.done : Nat) : Int)) = false := decide_eq_false (by omega)
          have tz' : decide (0 < qq.m - qq.done) = false := decide_eq_false (by omega)
          have tz'' : decide (qq.done < qq.m) = false := decide_eq_false (by omega)
          clear hz
          rw [hqe] at b4
          go_wp2_with fail
          have ei : wrap64 ((i : Int) + 1) = ((i + 1 : Nat) : Int) := (wrap_small (by omega) (by have := HGN.out; omega)).trans (by omega)
          try rw [ei]
          go_roundw
          case rel => exact ⟨i + 1, by omega, by first | rfl | go_num, qq, _, _, _, _, _, _, HWQ.out, HMQ.out, by rw [hqe], rfl, rfl, HTd.out⟩
          case measure => simp [intOf]; omega
        | false =>
          rw [hqe] at b4
          go_wp2_with fail
          have ei : wrap64 ((i : Int) + 1) = ((i + 1 : Nat) : Int) := (wrap_small (by omega) (by have := HGN.out; omega)).trans (by omega)
          try rw [ei]
          go_roundw
          case rel => exact ⟨i + 1, by omega, by first | rfl | go_num, qq, _, _, _, _, _, _, HWQ.out, HMQ.out, by rw [hqe], rfl, rfl, HTd.out⟩
          case measure => simp [intOf]; omega
      · obtain ⟨b0, b1, b2, b3, b4⟩ := HT3.out.sb.facts
        obtain ⟨t, ht⟩ : ∃ t : Bool, t = decide (q.done = q.m) := ⟨_, rfl⟩
        have et : ((q.done : Int) == (q.m : Int)) = t := by
          rw [ht]
          by_cases h : q.done = q.m
          · simp [h]
          · simp [h]; omega
        have HMK : Hid (Calls Try.prog 13 #[.agg #[.slice pn q.nodes.length cn, .int .i64 q.m, .int .i64 q.done, .slice pp q.pushes.length cp, .bool q.empty]] W3 fun e w' => ∃ v', e = .returned (.tuple #[v', .bool t, .int .i64 0]) ∧ St w' v' { q with empty := t } ∧ Below W3.heap.size W3 w') := by
          rw [ht]; exact mark_at HWF.out _ HT3.out.sb.st
        have HWQ : Hid (WF { q with empty := t }) := by rw [ht]; exact mark_wf HWF.out
        clear ht
        go_wp2_with fail
        refine HMK.out.mono ?_
        rintro e W4 ⟨v4, rfl, ⟨ns4, ps4, rfl, h1, h2⟩, hb4⟩
        clear HMK
        have HPT : Hid ({ q with empty := t }.m = q.m ∧ { q with empty := t }.done = q.done ∧ { q with empty := t }.empty = t ∧ { q with empty := t }.took = q.took) := ⟨rfl, rfl, rfl, rfl⟩
        obtain ⟨qq, hqq⟩ : ∃ qq : Mb.Q, qq = { q with empty := t } := ⟨_, rfl⟩
        rw [← hqq] at h1 h2 HWQ HPT ⊢
        clear hqq
        obtain ⟨pn4, cn4, e1⟩ := h1.slice
        obtain ⟨pp4, cp4, e2⟩ := h2.slice
        subst e1
        subst e2
        obtain ⟨Y, hY⟩ : ∃ Y, Y = W4.heap.size := ⟨_, rfl⟩
        obtain ⟨W5, hW5⟩ : ∃ W5, W5 = W4.alloc (Obj.cells #[.slice pn4 qq.nodes.length cn4, .int .i64 qq.m, .int .i64 qq.done, .slice pp4 qq.pushes.length cp4, .bool qq.empty] 28) := ⟨_, rfl⟩
        have ht5 := (HT3.out.step hb4).newY h1 h2
        rw [← hY, ← hW5] at ht5
        have HT5 := Lib.hid ht5
        have hYX : Y ≠ X := by have := blk_lt (HT3.out.step hb4).sb.box; omega
        clear hb4  b0 b1 b2 b3 b4 ht5 h1 h2
        go_upto_region 13 with fail
        rw [← hY, ← hW5]
        clear hY hW5

        obtain ⟨d0, d1, d2, d3, d4⟩ := HT5.out.sb2.facts
        obtain ⟨e0, e1, e2, e3, e4⟩ := HT5.out.sb.facts
        obtain ⟨g0, g1, g2, g3, g4⟩ := HT5.out.sb.frz
        obtain ⟨WX, hWX⟩ : ∃ WX, WX = (((((W5.setCell ⟨X, 0, none⟩ (.slice pn4 qq.nodes.length cn4)).setCell ⟨X, 1, none⟩ (.int .i64 qq.m)).setCell ⟨X, 2, none⟩ (.int .i64 qq.done)).setCell ⟨X, 3, none⟩ (.slice pp4 qq.pushes.length cp4)).setCell ⟨X, 4, none⟩ (.bool qq.empty)) := ⟨_, rfl⟩
        have HT8 := Lib.hid (HT5.out.putX hYX hWX)
        go_upto_region 36 with fail
        rw [← hWX]
        clear hWX d0 d1 d2 d3 d4 e0 e1 e2 e3 e4 g0 g1 g2 g3 g4
        obtain ⟨k1, k2, k3, k4⟩ := HPT.out
        have HTQ : Hid (TR w X (.slice pn4 qq.nodes.length cn4) (.slice pp4 qq.pushes.length cp4) qq X (.slice pn4 qq.nodes.length cn4) (.slice pp4 qq.pushes.length cp4) qq (.slice p4 qq.m c4) qq.m (qq.took 0 qq.m) (.slice p5 qq.done c5) qq.done (qq.took 0 qq.done) [] WX) := by
          have h := HT8.out
          show TR _ _ _ _ _ _ _ _ _ _ _ _ _ _ _ _ _
          rw [k4, k1, k2]
          exact ⟨h.sb, h.sb, h.o1, h.o2, h.ap, fun y hy => by cases hy⟩
        rw [show q.m = qq.m from k1.symm, show q.done = qq.done from k2.symm, show t = qq.empty from k3.symm]
        have HMQ : Hid (qq.m ≤ i + 1) := by show _ ≤ _; have := HQM.out; omega
        clear k1 k2 k3 k4 et

        obtain ⟨b0, b1, b2, b3, b4⟩ := HTQ.out.sb.facts
        have HBM : Hid (qq.m ≤ 81) := by have h1 := HMQ.out; have h2 := HGN.out; show _ ≤ _; omega
        have HBD : Hid (qq.done ≤ qq.m) := HWQ.out.done
        go_wp2_with fail
        refine (waiting_at HWQ.out _ HTQ.out.sb.st).mono ?_
        rintro e Wa ⟨uw, rfl, huw, hba⟩
        obtain ⟨pw, cw, ew⟩ := own1_slice huw
        subst ew
        have HTa := Lib.hid (HTQ.out.step hba)
        have HUW : Hid (Wa.ownsRow w.heap.size 3 1 (.slice pw (qq.m - qq.done) cw) (qq.m - qq.done) (ints (qq.took qq.done (qq.m - qq.done)))) := ownsRow_base huw HTQ.out.sb.below.size
        clear huw hba b0 b1 b2 b3 b4
        go_wp2_with fail
        refine (clone23 HTa.out.o2 (by have := HBM.out; have := HBD.out; omega)).mono ?_
        rintro e Wb ⟨vc, rfl, hvc, hbb⟩
        obtain ⟨pc, cc, ec⟩ := own1_slice hvc
        subst ec
        have HUWb := Lib.hid (own1_below HUW.out hbb)
        obtain ⟨uu, Wc, hrc, hoc, hgc, _, pu, cu, eu⟩ := run_append_many Wb 30 hvc HUWb.out (by have := HBM.out; have := HBD.out; omega) hbb.size
        subst eu
        have HTc := Lib.hid (HTa.out.step (hbb.grown hgc hbb.size (fun k hk => (hvc.lt k hk).1)))
        have elen : qq.done + (qq.m - qq.done) = qq.m := by have := HBD.out; omega
        rw [took_all HBD.out, elen] at hoc
        rw [elen] at hrc
        have HOC := Lib.hid hoc
        clear hoc hgc hvc hbb elen
        go_wp2_with (at_builtin; refine wpList_append_want _ (by kernel_rfl) _ _ _ _ rfl _ _ rfl rfl _ _ hrc ?_)
        refine (equal_at HOC.out HTc.out.o1 (by have := HBM.out; omega)).mono ?_
        rintro e Wd ⟨rfl, hbd⟩
        have HTd := Lib.hid (HTc.out.step hbd)
        clear hbd hrc
        obtain ⟨b0, b1, b2, b3, b4⟩ := HTd.out.sb.facts
        cases hqe : qq.empty with
        | true =>
          have hz : qq.m - qq.done = 0 := by have := HWQ.out.mt hqe; omega
          have tz : decide ((0 : Int) < ((qq.m - qq.done : Nat) : Int)) = false := decide_eq_false (by omega)
          have tz' : decide (0 < qq.m - qq.done) = false := decide_eq_false (by omega)
          have tz'' : decide (qq.done < qq.m) = false := decide_eq_false (by omega)
          clear hz
          rw [hqe] at b4
          go_wp2_with fail
          have ei : wrap64 ((i : Int) + 1) = ((i + 1 : Nat) : Int) := (wrap_small (by omega) (by have := HGN.out; omega)).trans (by omega)
          try rw [ei]
          go_roundw
          case rel => exact ⟨i + 1, by omega, by first | rfl | go_num, qq, _, _, _, _, _, _, HWQ.out, HMQ.out, by rw [hqe], rfl, rfl, HTd.out⟩
          case measure => simp [intOf]; omega
        | false =>
          rw [hqe] at b4
          go_wp2_with fail
          have ei : wrap64 ((i : Int) + 1) = ((i + 1 : Nat) : Int) := (wrap_small (by omega) (by have := HGN.out; omega)).trans (by omega)
          try rw [ei]
          go_roundw
          case rel => exact ⟨i + 1, by omega, by first | rfl | go_num, qq, _, _, _, _, _, _, HWQ.out, HMQ.out, by rw [hqe], rfl, rfl, HTd.out⟩
          case measure => simp [intOf]; omega
    · obtain rfl : i = N := by omega
      have tl : decide ((i : Int) < (i : Int)) = false := decide_eq_false (by omega)
      go_wp2_with fail
      refine (awake_at wr).mono ?_
      rintro e w' ⟨rfl, hb⟩
      have HB : Hid (Below w.heap.size w w') := HT.out.sb.below.trans (hb.mono HT.out.sb.below.size)
      clear hb
      go_wp2_with fail
      go_ret
      exact ⟨rfl, HB.out⟩
end Go.Proofs.Ytgbafpjeapkklaa.Mb
