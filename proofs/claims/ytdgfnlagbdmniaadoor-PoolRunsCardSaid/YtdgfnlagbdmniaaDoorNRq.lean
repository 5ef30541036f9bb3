/- PoolRuns: do, the act that sweeps. -/
import Derived.Test.YtdgfnlagbdmniaaDoorMf
import Derived.Deep.RegionWith
namespace Go.Proofs.YtdgfnlagbdmniaaDoor.Pl
open Go.RowKit Go.Proofs.YtdgfnlagbdmniaaDoor.PPoolRuns Go.Proofs.YtdgfnlagbdmniaaDoorW.PrintWords Go.Proofs.YtdgfnlagbdmniaaDoorW.PrintLast Go.Proofs.YtdgfnlagbdmniaaDoorW.PrintMore

set_option maxRecDepth 100000 in
set_option maxHeartbeats 4000000 in
theorem do_sweep {cs : List Chunk} (hG : Good cs) (hN : cs.length ≤ 256) {w0 w : World} (hB : Below w0.heap.size w0 w) {a b : Nat} (hA : At w a b cs) (hb : w0.heap.size ≤ b) {A : Option Addr} {n cap : Nat} (hR : RL w w0.heap.size (.slice A n cap) (objs cs)) (k x : Int) (hk : k.tmod 5 = 4) :
    Calls Tryd.prog 26 #[.pointer (some ⟨a, 0, none⟩), .agg #[.int .i64 cs.length, .slice A n cap], .agg #[.int .u8 k, .int .i64 x]] w (DoPost w0 w a b (.slice A n cap) cs.length) := by
  have HG := Lib.hid hG
  have HLN := Lib.hid hN
  have HB0 := Lib.hid hB.size
  have HBB := Lib.hid hb
  obtain ⟨N, hNN⟩ : ∃ N, N = cs.length := ⟨_, rfl⟩
  rw [← hNN]
  have HN := Lib.hid hNN; clear hNN hN hG
  obtain ⟨g4, hg4⟩ : ∃ g4, g4 = w.heap.size := ⟨_, rfl⟩
  obtain ⟨g5, hg5⟩ : ∃ g5, g5 = g4 + 1 := ⟨_, rfl⟩
  obtain ⟨g6, hg6⟩ : ∃ g6, g6 = g5 + 1 := ⟨_, rfl⟩
  have H6 : Hid (w.heap.size ≤ g6) := by show _ ≤ _; omega
  have HS := do_start hB b (.slice A n cap) N k x
  have hb3 : Below w.heap.size w (((w.alloc (Obj.cells #[.int .i64 N, .slice A n cap] 57)).alloc (Obj.cells #[.int .u8 k, .int .i64 x] 61)).alloc (Obj.cells #[.int .i64 0, .slice none 0 0] 57)) :=
    (((Below.refl _ _).alloc (Nat.le_refl _) _).alloc (by simp) _).alloc (by simp; omega) _
  have HA0 := Lib.hid (hA.below hb3 hA.lt_a hA.lt_b)
  have HR0 := Lib.hid (hR.below hb3)
  clear hb3 hA hR hB hb
  rw [← hg4, ← hg5, ← hg6] at HS
  have HS0 := Lib.hid HS; clear HS
  go_enter Tryd.func26, Tryd.ntmps26
  go_upto_region 1 with fail
  rw [← hg4, ← hg5, ← hg6]
  clear hg4 hg5 hg6
  generalize (((w.alloc (Obj.cells #[.int .i64 N, .slice A n cap] 57)).alloc (Obj.cells #[.int .u8 k, .int .i64 x] 61)).alloc (Obj.cells #[.int .i64 0, .slice none 0 0] 57)) = W0 at *
  obtain ⟨c0, c1, c2, c3, c4, c5, f4, f5⟩ := HS0.out.facts
  go_wp2_with fail
  refine (sweep_walk HA0.out HG.out (HG.out.small HLN.out).1).mono ?_
  rintro e W1 ⟨u, cs', rfl, hown, hA1, hG1, hl1, ho1, hg1⟩
  have HS1 := Lib.hid (HS0.out.pool HBB.out HA0.out hg1)
  have HR1 := Lib.hid (HR0.out.pool HA0.out hg1)
  have HA1 := Lib.hid hA1; clear hA1
  have HG1 := Lib.hid hG1; clear hG1
  have HO1 := Lib.hid ho1; clear ho1
  have HOW := Lib.hid (objS_of hown); clear hown
  have HL1 : Hid (cs'.length = N) := by show _ = _; rw [hl1, HN.out]
  have HRF := Lib.hid (rsweep_at (N : Int) (objs cs) (HG.out.small HLN.out).1 _ W1 (R_refS HR1.out))
  have HOK : Hid (∀ o ∈ outs (objs cs), OOk o) := fun o ho => (obj_in HG.out (List.mem_filter.1 ho).1).1
  have HOL : Hid ((outs (objs cs)).length ≤ 100000) := Nat.le_trans (List.length_filter_le _ _) (HG.out.small HLN.out).1
  obtain ⟨Au, lu, cu, rfl⟩ : ∃ Au lu cu, u = .slice Au lu cu := by
    obtain ⟨Au, cu, h, _⟩ := HOW.out
    exact ⟨_, _, _, h⟩
  clear hg1 hl1 c0 c1 c2 c3 c4 c5 f4 f5
  obtain ⟨c0, c1, c2, c3, c4, c5, f4, f5⟩ := HS1.out.facts
  go_wp2_with fail
  refine HRF.out.mono ?_
  rintro e W2 ⟨v, u2, rfl, hv, hu2, hb2⟩
  rw [← HO1.out] at hv
  have hR2 : RL W2 w0.heap.size v (objs cs') := RL.of (Kd.R_lower (own_R hv) HS1.out.below.size)
  have hF2 := R_refS (own_R hu2)
  obtain ⟨Av, lv, cv, rfl⟩ : ∃ Av lv cv, v = .slice Av lv cv := by
    obtain ⟨Av, cv, h⟩ := hR2.slice
    exact ⟨_, _, _, h⟩
  obtain ⟨A2, l2, cu2, rfl⟩ : ∃ Au lu cu, u2 = .slice Au lu cu := by
    obtain ⟨Au, cu, h, _⟩ := hF2
    exact ⟨_, _, _, h⟩
  have HS2 := Lib.hid (HS1.out.step hb2)
  have HA2 := Lib.hid (HA1.out.below hb2 HA1.out.lt_a HA1.out.lt_b)
  have HOW2 := Lib.hid (HOW.out.below hb2)
  have HF2 := Lib.hid hF2; clear hF2
  have HR2 := Lib.hid hR2; clear hR2
  clear hb2 hv hu2 c0 c1 c2 c3 c4 c5 f4 f5
  go_upto_region 22 with fail
  obtain ⟨X, hX⟩ : ∃ X, X = W2.heap.size := ⟨_, rfl⟩
  obtain ⟨W3, hW3⟩ : ∃ W3, W3 = W2.alloc (Obj.cells #[.int .i64 N, .slice Av lv cv] 57) := ⟨_, rfl⟩
  rw [← hW3, ← hX]
  have hb3 : Below W2.heap.size W2 W3 := by rw [hW3]; exact (Below.refl _ _).alloc (Nat.le_refl _) _
  have hx : W3.heap[X]? = some (.cells #[.int .i64 N, .slice Av lv cv] 57 (0, 0)) := by rw [hW3, hX]; exact (MapKept.heap_alloc _ _).1
  obtain ⟨P, hP⟩ : ∃ P : World → Prop, P = fun W => DO w0 w b (.slice A n cap) N k x g4 g5 g6 W ∧ At W a b cs' ∧ RL W w0.heap.size (.slice Av lv cv) (objs cs') ∧ ObjS W (.slice Au lu cu) (outs (objs cs)) ∧ RefS W (.slice A2 l2 cu2) (outs (objs cs)) ∧ W.heap[X]? = some (.cells #[.int .i64 N, .slice Av lv cv] 57 (0, 0)) := ⟨_, rfl⟩
  have HST : Hid (∀ W W', P W → Below W.heap.size W W' → P W') := by
    intro W W' h hb
    rw [hP] at h ⊢
    obtain ⟨h1, h2, h3, h4, h5, h6⟩ := h
    exact ⟨h1.step hb, h2.below hb h2.lt_a h2.lt_b, h3.below hb, h4.below hb, h5.below hb, (hb.block _ (blk_lt h6)).trans h6⟩
  have HP3 : Hid (P W3) := by
    show P W3
    rw [hP]
    exact ⟨HS2.out.step hb3, HA2.out.below hb3 HA2.out.lt_a HA2.out.lt_b, HR2.out.below hb3, HOW2.out.below hb3, HF2.out.below hb3, hx⟩
  have HPD : Hid (P W3.drew) := HST.out _ _ HP3.out (Below.refl _ _).drew
  have HFX : Hid (∀ W, P W → W.cell? ⟨X, 0, none⟩ = some (.int .i64 N) ∧ W.cell? ⟨X, 1, none⟩ = some (.slice Av lv cv) ∧ W.cell? ⟨g6, 0, none⟩ = some (.int .i64 0) ∧ W.cell? ⟨g6, 1, none⟩ = some (.slice none 0 0) ∧ W.frozen? ⟨g6, 0, none⟩ = false ∧ W.frozen? ⟨g6, 1, none⟩ = false ∧
      ((W.setCell ⟨g6, 0, none⟩ (.int .i64 N)).setCell ⟨g6, 1, none⟩ (.slice Av lv cv)).cell? ⟨g6, 0, none⟩ = some (.int .i64 N) ∧ ((W.setCell ⟨g6, 0, none⟩ (.int .i64 N)).setCell ⟨g6, 1, none⟩ (.slice Av lv cv)).cell? ⟨g6, 1, none⟩ = some (.slice Av lv cv)) := by
    intro W h
    rw [hP] at h
    obtain ⟨h1, _, _, _, _, h6⟩ := h
    obtain ⟨_, _, _, _, d4, d5, d6, d7⟩ := h1.facts
    exact ⟨cell_blk h6 0, cell_blk h6 1, d4, d5, d6, d7, by rw [cell_blk (blk_set (blk_set h1.b6 0 _) 1 _)]; rfl, by rw [cell_blk (blk_set (blk_set h1.b6 0 _) 1 _)]; rfl⟩
  have HEQ : Hid (∀ W, P W → Calls Tryd.prog 42 #[.slice Au lu cu, .slice A2 l2 cu2] W fun e W' => e = .returned (.bool true) ∧ P W') := by
    intro W h
    have h' := h
    rw [hP] at h'
    exact (requal_at _ HOL.out HOK.out _ _ W h'.2.2.2.1 h'.2.2.2.2.1).mono fun _ _ k => ⟨k.1, HST.out _ _ h k.2⟩
  have HED : Hid (∀ W, P W → ∀ p q, DoPost w0 w a b (.slice A n cap) N (.returned (.tuple #[.agg #[.int .i64 N, .slice Av lv cv], .bool true])) ((W.setCell ⟨g6, 0, none⟩ p).setCell ⟨g6, 1, none⟩ q)) := by
    intro W h p q
    rw [hP] at h
    obtain ⟨h1, h2, h3, _⟩ := h
    exact do_end h1 H6.out HB0.out h2 HG1.out HL1.out h3 p q
  clear hP hb3 hx hW3 hX
  obtain ⟨x0, x1, d4, d5, d6, d7, _, _⟩ := HFX.out _ HP3.out
  go_region_with (go_at_call 42; refine (HEQ.out _ HPD.out).mono ?_; rintro e W5 ⟨rfl, h5⟩; have H5 := Lib.hid h5; clear h5; obtain ⟨y0, y1, y4, y5, y6, y7, v0, v1⟩ := HFX.out _ H5.out)
  all_goals
    go_wp2_with fail
    exact bodyPost_ret (v := .tuple #[.agg #[.int .i64 N, .slice Av lv cv], .bool true]) (by simp [results, Tryd.results26, go_sem, v0, v1]) rfl (HED.out _ H5.out _ _)
end Go.Proofs.YtdgfnlagbdmniaaDoor.Pl
