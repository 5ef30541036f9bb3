/- PoolRuns: do, the act that finds. -/
/- PoolRuns: the walk. -/
import Derived.Test.YtdgfnlagbdmniaaDoorNRq
import Derived.Deep.RegionHeld3
namespace Go.Proofs.YtdgfnlagbdmniaaDoor.Pl
open Go.RowKit Go.Proofs.YtdgfnlagbdmniaaDoor.PPoolRuns Go.Proofs.YtdgfnlagbdmniaaDoorW.PrintWords Go.Proofs.YtdgfnlagbdmniaaDoorW.PrintLast Go.Proofs.YtdgfnlagbdmniaaDoorW.PrintMore

set_option maxRecDepth 100000 in
set_option maxHeartbeats 4000000 in
theorem do_find {cs : List Chunk} (hG : Good cs) (hN : cs.length ≤ 256) {w0 w : World} (hB : Below w0.heap.size w0 w) {a b : Nat} (hA : At w a b cs) (hb : w0.heap.size ≤ b) {A : Option Addr} {n cap : Nat} (hR : RL w w0.heap.size (.slice A n cap) (objs cs)) (k x : Int) (hk : k.tmod 5 = 3) :
    Calls Tryd.prog 26 #[.pointer (some ⟨a, 0, none⟩), .agg #[.int .i64 cs.length, .slice A n cap], .agg #[.int .u8 k, .int .i64 x]] w (DoPost w0 w a b (.slice A n cap) cs.length) := by
  have HG := Lib.hid hG
  have HLN := Lib.hid hN
  have HB0 := Lib.hid hB.size
  have HBB := Lib.hid hb
  obtain ⟨N, hNN⟩ : ∃ N, N = cs.length := ⟨_, rfl⟩
  rw [← hNN]
  have HN := Lib.hid hNN; clear hNN hN hG
  obtain ⟨g4, hg4⟩ : ∃ g4, g4 = w.heap.size := ⟨_, rfl⟩
  obtain ⟨g5, hg5⟩ : ∃ g5, g5 = g4 + 1 := ⟨_, rfl⟩
  obtain ⟨g6, hg6⟩ : ∃ g6, g6 = g5 + 1 := ⟨_, rfl⟩
  have H46 : Hid (g4 ≠ g6) := by show g4 ≠ g6; omega
  have H6 : Hid (w.heap.size ≤ g6) := by show _ ≤ _; omega
  have HS := do_start hB b (.slice A n cap) N k x
  have hb3 : Below w.heap.size w (((w.alloc (Obj.cells #[.int .i64 N, .slice A n cap] 57)).alloc (Obj.cells #[.int .u8 k, .int .i64 x] 61)).alloc (Obj.cells #[.int .i64 0, .slice none 0 0] 57)) :=
    (((Below.refl _ _).alloc (Nat.le_refl _) _).alloc (by simp) _).alloc (by simp; omega) _
  have HA0 := Lib.hid (hA.below hb3 hA.lt_a hA.lt_b)
  have HR0 := Lib.hid (hR.below hb3)
  clear hb3 hA hR hB hb
  rw [← hg4, ← hg5, ← hg6] at HS
  have HS0 := Lib.hid HS; clear HS
  go_enter Tryd.func26, Tryd.ntmps26
  go_upto_region 1 with fail
  rw [← hg4, ← hg5, ← hg6]
  clear hg4 hg5 hg6
  generalize (((w.alloc (Obj.cells #[.int .i64 N, .slice A n cap] 57)).alloc (Obj.cells #[.int .u8 k, .int .i64 x] 61)).alloc (Obj.cells #[.int .i64 0, .slice none 0 0] 57)) = W0 at *
  obtain ⟨c0, c1, c2, c3, c4, c5, f4, f5⟩ := HS0.out.facts
  go_wp2_with fail
  have hap := good_apart HG.out
  have hok : ∀ y ∈ objs cs, OOk y := fun y hy => (obj_in HG.out hy).1
  refine (Find_at HA0.out HG.out x).mono ?_
  rintro e W1 ⟨hf, hb1⟩
  have HS1 := Lib.hid (HS0.out.step hb1)
  have HA1 := Lib.hid (HA0.out.below hb1 HA0.out.lt_a HA0.out.lt_b)
  have HR1 := Lib.hid (HR0.out.below hb1)
  clear hb1 c0 c1 c2 c3 c4 c5 f4 f5
  obtain ⟨c0, c1, c2, c3, c4, c5, f4, f5⟩ := HS1.out.facts
  rcases hf with ⟨o, ho, ho1, ho2, rfl⟩ | ⟨hno, rfl⟩
  · obtain ⟨i, hi⟩ := List.mem_iff_getElem?.1 ho
    have hlo : lies x o := ⟨ho1, ho2⟩
    have ok := hok o ho
    have HV : Hid (o.val = .agg #[.int .i64 o.at_, .int .i64 o.size, .int .i64 o.room, .bool o.marked]) := rfl
    rw [HV.out]
    go_upto_region 16 with fail
    obtain ⟨X, hX⟩ : ∃ X, X = W1.heap.size := ⟨_, rfl⟩
    obtain ⟨W2, hW2⟩ : ∃ W2, W2 = W1.alloc (Obj.cells #[.int .i64 o.at_, .int .i64 o.size, .int .i64 o.room, .bool o.marked] 40) := ⟨_, rfl⟩
    rw [← hW2, ← hX]
    have hb2 : Below W1.heap.size W1 W2 := by rw [hW2]; exact (Below.refl _ _).alloc (Nat.le_refl _) _
    have hx2 : W2.heap[X]? = some (.cells #[.int .i64 o.at_, .int .i64 o.size, .int .i64 o.room, .bool o.marked] 40 (0, 0)) := by rw [hW2, hX]; exact (MapKept.heap_alloc _ _).1
    have HX2 := Lib.hid hx2; clear hx2
    have HS2 := Lib.hid (HS1.out.step hb2)
    have HA2 := Lib.hid (HA1.out.below hb2 HA1.out.lt_a HA1.out.lt_b)
    have HR2 := Lib.hid (HR1.out.below hb2)
    have HRF := Lib.hid (rfind_at HG.out HLN.out HR2.out (N : Int) x)
    clear hb2 hW2 hX c0 c1 c2 c3 c4 c5 f4 f5
    obtain ⟨c0, c1, c2, c3, c4, c5, f4, f5⟩ := HS2.out.facts
    go_wp2_with fail
    refine HRF.out.mono ?_
    rintro e W3 ⟨hb3, hc⟩
    rcases hc with ⟨j, q, hj, hlq, rfl⟩ | ⟨hno, _⟩
    rotate_left
    · exact absurd hlo (hno o ho)
    obtain ⟨rfl, rfl⟩ := lies_uniq hap hok hi hj hlo hlq
    have HS3 := Lib.hid (HS2.out.step hb3)
    have HA3 := Lib.hid (HA2.out.below hb3 HA2.out.lt_a HA2.out.lt_b)
    have HR3 := Lib.hid (HR2.out.below hb3)
    have HX3 : Hid (W3.heap[X]? = some (.cells #[.int .i64 o.at_, .int .i64 o.size, .int .i64 o.room, .bool o.marked] 40 (0, 0))) := (hb3.block _ (blk_lt HX2.out)).trans HX2.out
    obtain ⟨hnl, hcap, _⟩ := Kd.R_reads' HR3.out
    rw [List.length_map] at hnl
    obtain ⟨p, capp, hpe, hcell⟩ := R_refS HR3.out
    have hne : objs cs ≠ [] := by intro e; rw [e] at hi; cases hi
    rcases hcell with h | ⟨g, off, rfl, hgl, hcell⟩
    · exact absurd h hne
    injection hpe with e1 e2 e3
    subst e1
    subst e3
    have hilt : i < n := by rw [hnl]; exact (List.getElem?_eq_some_iff.1 hi).1
    have hnl2 : n ≤ 100000 := by rw [hnl]; exact (HG.out.small HLN.out).1
    obtain ⟨z0, z1, z2⟩ := hcell i o hi
    have HZ : Hid (g < W3.heap.size ∧ W3.cell? ⟨g, off + i * 3, none⟩ = some (.int .i64 o.at_) ∧ W3.cell? ⟨g, off + i * 3 + 1, none⟩ = some (.int .i64 o.size) ∧ W3.cell? ⟨g, off + i * 3 + 2, none⟩ = some (.bool o.marked)) := ⟨hgl, z0, z1, z2⟩
    have HOK := Lib.hid ok
    clear hb3 hj hlq hlo hi ho ho1 ho2 hcell hgl z0 z1 z2 hne ok hap hok hnl e2 c0 c1 c2 c3 c4 c5 f4 f5
    obtain ⟨P, hP⟩ : ∃ P : World → Prop, P = fun W => DO w0 w b (.slice (some ⟨g, off, none⟩) n cap) N k x g4 g5 g6 W ∧ At W a b cs ∧ RL W w0.heap.size (.slice (some ⟨g, off, none⟩) n cap) (objs cs) ∧ W.heap[X]? = some (.cells #[.int .i64 o.at_, .int .i64 o.size, .int .i64 o.room, .bool o.marked] 40 (0, 0)) ∧
        (g < W.heap.size ∧ W.cell? ⟨g, off + i * 3, none⟩ = some (.int .i64 o.at_) ∧ W.cell? ⟨g, off + i * 3 + 1, none⟩ = some (.int .i64 o.size) ∧ W.cell? ⟨g, off + i * 3 + 2, none⟩ = some (.bool o.marked)) := ⟨_, rfl⟩
    have HST : Hid (∀ W W', P W → Below W.heap.size W W' → P W') := by
      intro W W' h hb
      rw [hP] at h ⊢
      obtain ⟨h1, h2, h3, h6, h7, h8, h9, h10⟩ := h
      exact ⟨h1.step hb, h2.below hb h2.lt_a h2.lt_b, h3.below hb, (hb.block _ (blk_lt h6)).trans h6, Nat.lt_of_lt_of_le h7 hb.size, (hb.cell (p := ⟨g, off + i * 3, none⟩) h7).trans h8, (hb.cell (p := ⟨g, off + i * 3 + 1, none⟩) h7).trans h9, (hb.cell (p := ⟨g, off + i * 3 + 2, none⟩) h7).trans h10⟩
    have HP3 : Hid (P W3) := by
      show P W3
      rw [hP]
      exact ⟨HS3.out, HA3.out, HR3.out, HX3.out, HZ.out⟩
    have HPD : Hid (P W3.drew) := HST.out _ _ HP3.out (Below.refl _ _).drew
    have HFX : Hid (∀ W, P W → W.cell? ⟨g6, 0, none⟩ = some (.int .i64 0) ∧ W.cell? ⟨g6, 1, none⟩ = some (.slice none 0 0) ∧ W.frozen? ⟨g6, 0, none⟩ = false ∧ W.frozen? ⟨g6, 1, none⟩ = false ∧
        ((W.setCell ⟨g6, 0, none⟩ (.int .i64 N)).setCell ⟨g6, 1, none⟩ (.slice (some ⟨g, off, none⟩) n cap)).cell? ⟨g6, 0, none⟩ = some (.int .i64 N) ∧ ((W.setCell ⟨g6, 0, none⟩ (.int .i64 N)).setCell ⟨g6, 1, none⟩ (.slice (some ⟨g, off, none⟩) n cap)).cell? ⟨g6, 1, none⟩ = some (.slice (some ⟨g, off, none⟩) n cap)) := by
      intro W h
      rw [hP] at h
      obtain ⟨h1, _, _, h6, _⟩ := h
      obtain ⟨_, _, _, _, d4, d5, d6, d7⟩ := h1.facts
      exact ⟨d4, d5, d6, d7, by rw [cell_blk (blk_set (blk_set h1.b6 0 _) 1 _)]; rfl, by rw [cell_blk (blk_set (blk_set h1.b6 0 _) 1 _)]; rfl⟩
    have HSF : Hid (∀ W, P W → W.cell? ⟨X, 0, none⟩ = some (.int .i64 o.at_) ∧ W.cell? ⟨X, 1, none⟩ = some (.int .i64 o.size) ∧ W.cell? ⟨X, 2, none⟩ = some (.int .i64 o.room) ∧ W.cell? ⟨X, 3, none⟩ = some (.bool o.marked) ∧ W.cell? ⟨g4, 0, none⟩ = some (.int .i64 N) ∧ W.cell? ⟨g4, 1, none⟩ = some (.slice (some ⟨g, off, none⟩) n cap)) := by
      intro W h
      rw [hP] at h
      obtain ⟨h1, _, _, h6, _⟩ := h
      obtain ⟨d0, d1, _⟩ := h1.facts
      exact ⟨cell_blk h6 0, cell_blk h6 1, cell_blk h6 2, cell_blk h6 3, d0, d1⟩
    have HSS : Hid (∀ W0, P W0 → ∀ y z, (fun W => W.cell? ⟨X, 0, none⟩ = some (.int .i64 o.at_) ∧ W.cell? ⟨X, 1, none⟩ = some (.int .i64 o.size) ∧ W.cell? ⟨X, 2, none⟩ = some (.int .i64 o.room) ∧ W.cell? ⟨X, 3, none⟩ = some (.bool o.marked) ∧ W.cell? ⟨g4, 0, none⟩ = some (.int .i64 N) ∧ W.cell? ⟨g4, 1, none⟩ = some (.slice (some ⟨g, off, none⟩) n cap)) ((W0.setCell ⟨g6, 0, none⟩ y).setCell ⟨g6, 1, none⟩ z)) := by
      intro W h y z
      rw [hP] at h
      obtain ⟨h1, _, _, h6, _⟩ := h
      have n1 : X ≠ g6 := by rintro rfl; have := h1.b6; rw [h6] at this; injection this with this; injection this with _ this; cases this
      have n2 : g4 ≠ g6 := by
        rintro rfl
        have := h1.b6; rw [h1.b4] at this; injection this with this; injection this with this; cases this
      have b6 := blk_set_ne (blk_set_ne h6 ⟨g6, 0, none⟩ n1 y) ⟨g6, 1, none⟩ n1 z
      have b4 := blk_set_ne (blk_set_ne h1.b4 ⟨g6, 0, none⟩ n2 y) ⟨g6, 1, none⟩ n2 z
      exact ⟨cell_blk b6 0, cell_blk b6 1, cell_blk b6 2, cell_blk b6 3, cell_blk b4 0, cell_blk b4 1⟩
    have HEQ : Hid (∀ W c d, P W → Calls Tryd.prog 42 #[.slice (some ⟨W.heap.size, 0, none⟩) 1 c, .slice (some ⟨g, off + i * 3, none⟩) 1 d] (W.alloc (Obj.cells #[.int .i64 o.at_, .int .i64 o.size, .int .i64 o.room, .bool o.marked] 40)) fun e W' => e = .returned (.bool true) ∧ P W') := by
      intro W c d h
      have hbw : Below W.heap.size W (W.alloc (Obj.cells #[.int .i64 o.at_, .int .i64 o.size, .int .i64 o.room, .bool o.marked] 40)) := (Below.refl _ _).alloc (Nat.le_refl _) _
      have h' := HST.out _ _ h hbw
      have h2 := h'
      rw [hP] at h2
      obtain ⟨_, _, _, _, q1, q2, q3, q4⟩ := h2
      have hnew := (MapKept.heap_alloc W (Obj.cells #[.int .i64 o.at_, .int .i64 o.size, .int .i64 o.room, .bool o.marked] 40)).1
      refine (requal_at [o] (by simp) (fun y hy => by simp at hy; subst hy; exact HOK.out) _ _ _ ⟨_, c, rfl, .inr ⟨W.heap.size, rfl, by simp, fun j y hj => ?_⟩⟩ ⟨_, d, rfl, .inr ⟨g, off + i * 3, rfl, q1, fun j y hj => ?_⟩⟩).mono fun _ _ k => ⟨k.1, HST.out _ _ h' k.2⟩
      · cases j with
        | zero => simp at hj; subst hj; exact ⟨cell_blk hnew 0, cell_blk hnew 1, cell_blk hnew 2, cell_blk hnew 3⟩
        | succ j => simp at hj
      · cases j with
        | zero => simp at hj; subst hj; exact ⟨q2, q3, q4⟩
        | succ j => simp at hj
    have HED : Hid (∀ W, P W → ∀ p q, DoPost w0 w a b (.slice (some ⟨g, off, none⟩) n cap) N (.returned (.tuple #[.agg #[.int .i64 N, .slice (some ⟨g, off, none⟩) n cap], .bool true])) ((W.setCell ⟨g6, 0, none⟩ p).setCell ⟨g6, 1, none⟩ q)) := by
      intro W h p q
      rw [hP] at h
      obtain ⟨h1, h2, h3, _⟩ := h
      exact do_end h1 H6.out HB0.out h2 HG.out HN.out.symm h3 p q
    clear hP
    obtain ⟨d4, d5, d6, d7, _, _⟩ := HFX.out _ HP3.out
    obtain ⟨x0, x1, x2, x3, y0, y1⟩ := HSF.out _ HP3.out
    have s1 : (i : Int) + 1 ≤ (cap : Int) := by have := hcap; omega
    have s2 : (0 : Int) ≤ (i : Int) := by omega
    have s4 : (i : Int) ≤ (i : Int) + 1 := by omega
    have s5 : (0 : Int) ≤ (i : Int) + 1 := by omega
    have s3 : IntKind.i64.wrap ((i : Int) + 1) = (i : Int) + 1 := by simp [IntKind.wrap, IntKind.bits, IntKind.signed]; omega
    have s6 : ((i : Int) + 1).toNat = i + 1 := by omega
    have s7 : ¬ cap = i := by omega
    have s8 : i + 1 - i = 1 := by omega
    have s9 : (i : Int) ≤ ((i + 1 : Nat) : Int) := by omega
    go_upto_region 19 with fail
    have K0 := (HSF.out _ HPD.out)
    have K1 := (HSF.out _ (HST.out _ _ HPD.out ((Below.refl _ _).alloc (Nat.le_refl _) (Obj.cells #[.int .i64 o.at_, .int .i64 o.size, .int .i64 o.room, .bool o.marked] 40))))
    have HK0 := Lib.hid K0; clear K0
    have HK1 := Lib.hid K1; clear K1
    go_region_held3 (fun W => W.cell? ⟨X, 0, none⟩ = some (.int .i64 o.at_) ∧ W.cell? ⟨X, 1, none⟩ = some (.int .i64 o.size) ∧ W.cell? ⟨X, 2, none⟩ = some (.int .i64 o.room) ∧ W.cell? ⟨X, 3, none⟩ = some (.bool o.marked) ∧ W.cell? ⟨g4, 0, none⟩ = some (.int .i64 N) ∧ W.cell? ⟨g4, 1, none⟩ = some (.slice (some ⟨g, off, none⟩) n cap))
      (first | exact HK0.out | exact HK1.out | assumption | exact HSS.out _ (by assumption) _ _)
      (first | (go_at_call 42; refine (HEQ.out W3.drew _ _ HPD.out).mono ?_; rintro e W5 ⟨rfl, h5⟩; have H5 := Lib.hid h5; clear h5; obtain ⟨k4, k5, k6, k7, v0, v1⟩ := HFX.out _ H5.out; have k8 := HSF.out _ H5.out; have k9 := H5.out))
    all_goals
      go_wp2_with fail
      exact bodyPost_ret (v := .tuple #[.agg #[.int .i64 N, .slice (some ⟨g, off, none⟩) n cap], .bool true]) (by simp [results, Tryd.results26, go_sem, v0, v1]) rfl (HED.out _ H5.out _ _)
  · go_upto_region 16 with fail
    obtain ⟨X, hX⟩ : ∃ X, X = W1.heap.size := ⟨_, rfl⟩
    obtain ⟨W2, hW2⟩ : ∃ W2, W2 = W1.alloc (Obj.cells #[.int .i64 0, .int .i64 0, .int .i64 0, .bool false] 40) := ⟨_, rfl⟩
    rw [← hW2, ← hX]
    have hb2 : Below W1.heap.size W1 W2 := by rw [hW2]; exact (Below.refl _ _).alloc (Nat.le_refl _) _
    have hx2 : W2.heap[X]? = some (.cells #[.int .i64 0, .int .i64 0, .int .i64 0, .bool false] 40 (0, 0)) := by rw [hW2, hX]; exact (MapKept.heap_alloc _ _).1
    have HX2 := Lib.hid hx2; clear hx2
    have HS2 := Lib.hid (HS1.out.step hb2)
    have HA2 := Lib.hid (HA1.out.below hb2 HA1.out.lt_a HA1.out.lt_b)
    have HR2 := Lib.hid (HR1.out.below hb2)
    have HRF := Lib.hid (rfind_at HG.out HLN.out HR2.out (N : Int) x)
    clear hb2 hW2 hX c0 c1 c2 c3 c4 c5 f4 f5
    obtain ⟨c0, c1, c2, c3, c4, c5, f4, f5⟩ := HS2.out.facts
    go_wp2_with fail
    refine HRF.out.mono ?_
    rintro e W3 ⟨hb3, hc⟩
    rcases hc with ⟨j, q, hj, hlq, rfl⟩ | ⟨_, rfl⟩
    · exact absurd hlq (hno q (List.mem_of_getElem? hj))
    have HS3 := Lib.hid (HS2.out.step hb3)
    have HA3 := Lib.hid (HA2.out.below hb3 HA2.out.lt_a HA2.out.lt_b)
    have HR3 := Lib.hid (HR2.out.below hb3)
    have HX3 : Hid (W3.heap[X]? = some (.cells #[.int .i64 0, .int .i64 0, .int .i64 0, .bool false] 40 (0, 0))) := (hb3.block _ (blk_lt HX2.out)).trans HX2.out
    clear hb3 hno hap hok c0 c1 c2 c3 c4 c5 f4 f5
    obtain ⟨c0, c1, c2, c3, c4, c5, f4, f5⟩ := HS3.out.facts
    have x0 : W3.cell? ⟨X, 0, none⟩ = some (.int .i64 0) := cell_blk HX3.out 0
    have x1 : W3.cell? ⟨X, 1, none⟩ = some (.int .i64 0) := cell_blk HX3.out 1
    have x2 : W3.cell? ⟨X, 2, none⟩ = some (.int .i64 0) := cell_blk HX3.out 2
    have x3 : W3.cell? ⟨X, 3, none⟩ = some (.bool false) := cell_blk HX3.out 3
    go_upto_region 18 with fail
    have HSS : Hid (∀ y z, (fun W : World => W.cell? ⟨X, 0, none⟩ = some (.int .i64 0) ∧ W.cell? ⟨X, 1, none⟩ = some (.int .i64 0) ∧ W.cell? ⟨X, 2, none⟩ = some (.int .i64 0) ∧ W.cell? ⟨X, 3, none⟩ = some (.bool false) ∧ W.cell? ⟨g4, 0, none⟩ = some (.int .i64 N) ∧ W.cell? ⟨g4, 1, none⟩ = some (.slice A n cap)) ((W3.drew.setCell ⟨g6, 0, none⟩ y).setCell ⟨g6, 1, none⟩ z)) := by
      intro y z
      have h1 := HS3.out
      have h6 : W3.drew.heap[X]? = some (.cells #[.int .i64 0, .int .i64 0, .int .i64 0, .bool false] 40 (0, 0)) := HX3.out
      have h4 : W3.drew.heap[g4]? = some (.cells #[.int .i64 N, .slice A n cap] 57 (0, 0)) := h1.b4
      have n1 : X ≠ g6 := by rintro rfl; have := h1.b6; rw [HX3.out] at this; injection this with this; injection this with _ this; cases this
      have n2 : g4 ≠ g6 := H46.out
      have b6 := blk_set_ne (blk_set_ne h6 ⟨g6, 0, none⟩ n1 y) ⟨g6, 1, none⟩ n1 z
      have b4 := blk_set_ne (blk_set_ne h4 ⟨g6, 0, none⟩ n2 y) ⟨g6, 1, none⟩ n2 z
      exact ⟨cell_blk b6 0, cell_blk b6 1, cell_blk b6 2, cell_blk b6 3, cell_blk b4 0, cell_blk b4 1⟩
    have HK0 : Hid ((fun W : World => W.cell? ⟨X, 0, none⟩ = some (.int .i64 0) ∧ W.cell? ⟨X, 1, none⟩ = some (.int .i64 0) ∧ W.cell? ⟨X, 2, none⟩ = some (.int .i64 0) ∧ W.cell? ⟨X, 3, none⟩ = some (.bool false) ∧ W.cell? ⟨g4, 0, none⟩ = some (.int .i64 N) ∧ W.cell? ⟨g4, 1, none⟩ = some (.slice A n cap)) W3.drew) := ⟨x0, x1, x2, x3, c0, c1⟩
    have v0 : ((W3.setCell ⟨g6, 0, none⟩ (.int .i64 N)).setCell ⟨g6, 1, none⟩ (.slice A n cap)).cell? ⟨g6, 0, none⟩ = some (.int .i64 N) := by
      rw [cell_blk (blk_set (blk_set HS3.out.b6 0 _) 1 _)]; rfl
    have v1 : ((W3.setCell ⟨g6, 0, none⟩ (.int .i64 N)).setCell ⟨g6, 1, none⟩ (.slice A n cap)).cell? ⟨g6, 1, none⟩ = some (.slice A n cap) := by
      rw [cell_blk (blk_set (blk_set HS3.out.b6 0 _) 1 _)]; rfl
    go_region_held3 (fun W => W.cell? ⟨X, 0, none⟩ = some (.int .i64 0) ∧ W.cell? ⟨X, 1, none⟩ = some (.int .i64 0) ∧ W.cell? ⟨X, 2, none⟩ = some (.int .i64 0) ∧ W.cell? ⟨X, 3, none⟩ = some (.bool false) ∧ W.cell? ⟨g4, 0, none⟩ = some (.int .i64 N) ∧ W.cell? ⟨g4, 1, none⟩ = some (.slice A n cap)) (first | exact HK0.out | exact HSS.out _ _ | assumption) (first | fail)
    all_goals
      go_wp2_with fail
      have HSD := HS3.out.step (Below.refl W3.heap.size W3).drew
      have HAD := HA3.out.below (Below.refl W3.heap.size W3).drew HA3.out.lt_a HA3.out.lt_b
      have HRD := HR3.out.below (Below.refl W3.heap.size W3).drew
      exact bodyPost_ret (v := .tuple #[.agg #[.int .i64 N, .slice A n cap], .bool true]) (by simp [results, Tryd.results26, go_sem, v0, v1]) rfl
        (do_end HSD H6.out HB0.out HAD HG.out HN.out.symm HRD (.int .i64 N) (.slice A n cap))
end Go.Proofs.YtdgfnlagbdmniaaDoor.Pl
namespace Go.Proofs.YtdgfnlagbdmniaaDoor.Pl
open Go.RowKit Go.Proofs.YtdgfnlagbdmniaaDoor.PPoolRuns Go.Proofs.YtdgfnlagbdmniaaDoorW.PrintWords Go.Proofs.YtdgfnlagbdmniaaDoorW.PrintLast Go.Proofs.YtdgfnlagbdmniaaDoorW.PrintMore

/-- Acts in memory. -/
def ActS (w : World) (v : Value) (l : List (Int × Int)) : Prop :=
  ∃ p cap, v = .slice p l.length cap ∧ (l = [] ∨ ∃ g off, p = some ⟨g, off, none⟩ ∧ g < w.heap.size ∧
    ∀ (k : Nat) (x : Int × Int), l[k]? = some x → w.cell? ⟨g, off + k * 2, none⟩ = some (.int .u8 x.1) ∧ w.cell? ⟨g, off + k * 2 + 1, none⟩ = some (.int .i64 x.2))

theorem do_at {cs : List Chunk} (hG : Good cs) (hN : cs.length ≤ 256) {w0 w : World} (hB : Below w0.heap.size w0 w) {a b : Nat} (hA : At w a b cs) (hb : w0.heap.size ≤ b) (hT : Tab w) (hb0 : 0 < b) {A : Option Addr} {n cap : Nat} (hR : RL w w0.heap.size (.slice A n cap) (objs cs)) (k x : Int) (hk : 0 ≤ k) :
    Calls Tryd.prog 26 #[.pointer (some ⟨a, 0, none⟩), .agg #[.int .i64 cs.length, .slice A n cap], .agg #[.int .u8 k, .int .i64 x]] w (DoPost w0 w a b (.slice A n cap) cs.length) := by
  have h1 : 0 ≤ k.tmod 5 := Int.tmod_nonneg _ hk
  have h2 : k.tmod 5 < 5 := Int.tmod_lt_of_pos k (by decide)
  obtain h | h | h | h | h : k.tmod 5 = 0 ∨ k.tmod 5 = 1 ∨ k.tmod 5 = 2 ∨ k.tmod 5 = 3 ∨ k.tmod 5 = 4 := by omega
  · exact do_alloc hG hN hB hA hb hT hb0 hR k x h
  · exact do_free hG hN hB hA hb hR k x h
  · exact do_mark hG hN hB hA hb hR k x h
  · exact do_find hG hN hB hA hb hR k x h
  · exact do_sweep hG hN hB hA hb hR k x h

theorem rnew_ok (c : Int) (h1 : 1 ≤ c) (h2 : c ≤ 256) (w : World) : Calls Tryd.prog 25 #[.int .i64 c] w fun e w' => ∃ v, e = .returned (.tuple #[.agg #[.int .i64 c, v], .int .i64 0]) ∧ RL w' w.heap.size v [] ∧ Below w.heap.size w w' := by
  refine (hackamoreref32_New.calls c c [] 0 w (by unfold hackamoreref32_New.f; rw [if_neg (by omega), if_neg (by omega)])).mono ?_
  rintro e w' ⟨v, h1, h2, h3⟩
  exact ⟨v, h1, h2, h3⟩
theorem rnew_err (c : Int) (h : c < 1 ∨ 256 < c) (w : World) : Calls Tryd.prog 25 #[.int .i64 c] w fun e w' => ∃ v, e = .returned (.tuple #[.agg #[.int .i64 0, v], .int .i64 1]) ∧ RL w' w.heap.size v [] ∧ Below w.heap.size w w' := by
  refine (hackamoreref32_New.calls c 0 [] 1 w (by
    unfold hackamoreref32_New.f
    by_cases h1 : c < 1
    · rw [if_pos h1]
    · rw [if_neg h1, if_pos (by omega)])).mono ?_
  rintro e w' ⟨v, h1, h2, h3⟩
  exact ⟨v, h1, h2, h3⟩

theorem objs_new (n : Nat) : objs (List.replicate n Chunk.zero) = [] := by rw [objs_eq, objsL_zeros]

set_option maxRecDepth 100000 in
set_option maxHeartbeats 1000000 in
theorem runs_long (c : Int) (p : Option Addr) (n cap : Nat) (hlong : 300 < n) (w : World) (hT : Tab w) :
    Calls Tryd.prog 8 #[.int .i64 c, .slice p n cap] w fun e w' => e = .returned (.bool true) ∧ Below w.heap.size w w' := by
  have HT := Lib.hid hT; clear hT
  have e1 : decide ((300 : Int) < n) = true := decide_eq_true (by omega)
  go_enter Tryd.func8, Tryd.ntmps8
  go_wp2_with fail
  refine (awake_at _ HT.out).mono ?_
  rintro e w1 ⟨rfl, hb1⟩
  have HB1 := Lib.hid hb1; clear hb1
  have HT1 := Lib.hid (HT.out.below HB1.out HT.out.lt)
  go_wp2_with fail
  refine (awake_at _ HT1.out).mono ?_
  rintro e w2 ⟨rfl, hb2⟩
  have HB2 := Lib.hid (HB1.out.trans (hb2.mono HB1.out.size)); clear hb2
  go_wp2_with fail
  go_ret
  exact ⟨rfl, HB2.out⟩

set_option maxRecDepth 100000 in
set_option maxHeartbeats 1000000 in
theorem runs_err (c : Int) (hc : c < 1 ∨ 256 < c) (p : Option Addr) (n cap : Nat) (hlong : n ≤ 300) (w : World) (hT : Tab w) :
    Calls Tryd.prog 8 #[.int .i64 c, .slice p n cap] w fun e w' => e = .returned (.bool true) ∧ Below w.heap.size w w' := by
  have HT := Lib.hid hT; clear hT
  have e1 : decide ((300 : Int) < n) = false := decide_eq_false (by omega)
  have HNE := Lib.hid (new_err c hc)
  have HRE := Lib.hid (rnew_err c hc)
  clear hc
  go_enter Tryd.func8, Tryd.ntmps8
  go_wp2_with fail
  refine (awake_at _ HT.out).mono ?_
  rintro e w1 ⟨rfl, hb1⟩
  have HB1 := Lib.hid hb1; clear hb1
  go_wp2_with fail
  refine (HNE.out _).mono ?_
  rintro e w2 ⟨rfl, rfl⟩
  go_wp2_with fail
  refine (HRE.out _).mono ?_
  rintro e w3 ⟨v, rfl, hv, hb3⟩
  obtain ⟨A, cv, rfl⟩ := hv.slice
  have HB3 := Lib.hid (HB1.out.trans (hb3.mono HB1.out.size)); clear hb3 hv
  go_wp2_with fail
  go_ret
  exact ⟨rfl, HB3.out.alloc HB3.out.size _⟩

/-- The state of the law's loop. -/
structure LS (w : World) (a b N g7 : Nat) (wr : World) : Prop where
  st : ∃ cs A n cap, At wr a b cs ∧ Good cs ∧ cs.length = N ∧ RL wr w.heap.size (.slice A n cap) (objs cs) ∧ wr.heap[g7]? = some (.cells #[.int .i64 N, .slice A n cap] 57 (0, 0))
  below : Below w.heap.size w wr

set_option maxRecDepth 100000 in
set_option maxHeartbeats 4000000 in
theorem runs_walk (c : Int) (v : Value) (l : List (Int × Int)) (w : World) (hT : Tab w) (hN : ActS w v l) (hx : ∀ x ∈ l, 0 ≤ x.1) :
    Calls Tryd.prog 8 #[.int .i64 c, v] w fun e w' => e = .returned (.bool true) ∧ Below w.heap.size w w' := by
  obtain ⟨p, cap, rfl, hp⟩ := hN
  by_cases hlong : 300 < l.length
  · exact runs_long c p l.length cap hlong w hT
  by_cases hc : c < 1 ∨ 256 < c
  · exact runs_err c hc p l.length cap (by omega) w hT
  have e1 : decide ((300 : Int) < l.length) = false := decide_eq_false (by omega)
  have HT := Lib.hid hT; clear hT
  have HX := Lib.hid hx; clear hx
  have HPP := Lib.hid hp; clear hp
  obtain ⟨N, hNc⟩ : ∃ N : Nat, c = (N : Int) := ⟨c.toNat, by omega⟩
  subst hNc
  have hN1 : 1 ≤ N := by omega
  have hN2 : N ≤ 256 := by omega
  clear hc
  obtain ⟨n, hn⟩ : ∃ n, n = l.length := ⟨_, rfl⟩
  rw [← hn] at e1 hlong ⊢
  have HNL := Lib.hid hn; clear hn
  go_enter Tryd.func8, Tryd.ntmps8
  go_wp2_with fail
  refine (awake_at _ HT.out).mono ?_
  rintro e w1 ⟨rfl, hb1⟩
  have HB1 := Lib.hid hb1; clear hb1
  go_wp2_with fail
  refine (new_ok N hN1 hN2 _).mono ?_
  rintro e w2 ⟨a, b, rfl, ha, hb, hA, hg⟩
  have HA2 := Lib.hid hA; clear hA
  have HB2 : Hid (Below w.heap.size w w2) := HB1.out.trans (⟨hg.os, hg.tape, hg.output, hg.size, fun k hk => hg.block k (Nat.lt_of_lt_of_le hk HB1.out.size) (by simp)⟩)
  have HBL : Hid (w.heap.size ≤ b) := Nat.le_trans HB1.out.size hb
  have HBP : Hid (0 < b) := Nat.lt_of_lt_of_le HT.out.lt HBL.out
  clear hg ha hb
  go_wp2_with fail
  refine (rnew_ok (N : Int) (by omega) (by omega) _).mono ?_
  rintro e w3 ⟨v, rfl, hv, hb3⟩
  obtain ⟨A, cv, rfl⟩ := hv.slice
  have HR3 : Hid (RL w3 w.heap.size (.slice A ([] : List PObj).length cv) []) := Kd.R_lower hv HB2.out.size
  have HB3 := Lib.hid (HB2.out.trans (hb3.mono HB2.out.size))
  have HA3 := Lib.hid (HA2.out.below hb3 HA2.out.lt_a HA2.out.lt_b)
  clear hb3 hv
  generalize ([] : List PObj).length = n0 at *
  go_wp2_with fail
  obtain ⟨g7, hg7⟩ : ∃ g7, g7 = w3.heap.size := ⟨_, rfl⟩
  obtain ⟨W4, hW4⟩ : ∃ W4, W4 = w3.alloc (Obj.cells #[.int .i64 N, .slice A n0 cv] 57) := ⟨_, rfl⟩
  rw [← hW4, ← hg7]
  have HG7 : Hid (w.heap.size ≤ g7) := by show _ ≤ _; rw [hg7]; exact HB3.out.size
  have HS0 : Hid (LS w a b N g7 W4) := by
    have hb4 : Below w3.heap.size w3 W4 := by rw [hW4]; exact (Below.refl _ _).alloc (Nat.le_refl _) _
    refine ⟨⟨List.replicate N Chunk.zero, A, n0, cv, HA3.out.below hb4 HA3.out.lt_a HA3.out.lt_b, Good.zeros N, by simp, ?_, by rw [hW4, hg7]; exact (MapKept.heap_alloc _ _).1⟩, HB3.out.trans (hb4.mono HB3.out.size)⟩
    rw [objs_new]
    exact HR3.out.below hb4
  clear hW4 hg7 HR3 HA3 HB3 HA2 HB2 HB1
  go_loopw [47] (fun s47 wr => ∃ k : Nat, k ≤ n ∧ s47 = .int .i64 k ∧ LS w a b N g7 wr) (fun s47 _ => n - (intOf s47).toNat)
  case atStart => exact ⟨0, by omega, rfl, HS0.out⟩
  case round =>
    obtain ⟨k, hk, rfl, hS⟩ := hrel
    have HS := Lib.hid hS; clear hS
    by_cases hlt : k < n
    · have tl : decide ((k : Int) < (n : Int)) = true := decide_eq_true (by omega)
      obtain ⟨⟨ak, ax⟩, hact⟩ : ∃ x, l[k]? = some x := ⟨l[k]'(by rw [← HNL.out]; exact hlt), by simp⟩
      have hak : 0 ≤ ak := HX.out _ (List.mem_of_getElem? hact)
      obtain ⟨g, off, rfl, hgl, hcell⟩ : ∃ g off, p = some ⟨g, off, none⟩ ∧ g < w.heap.size ∧ ∀ (k : Nat) (x : Int × Int), l[k]? = some x → w.cell? ⟨g, off + k * 2, none⟩ = some (.int .u8 x.1) ∧ w.cell? ⟨g, off + k * 2 + 1, none⟩ = some (.int .i64 x.2) := by
        rcases HPP.out with h | h
        · rw [h] at hact; cases hact
        · exact h
      obtain ⟨a0, a1⟩ := hcell k _ hact
      have d0 : wr.cell? ⟨g, off + k * 2, none⟩ = some (.int .u8 ak) := (HS.out.below.cell (p := ⟨g, off + k * 2, none⟩) hgl).trans a0
      have d1 : wr.cell? ⟨g, off + k * 2 + 1, none⟩ = some (.int .i64 ax) := (HS.out.below.cell (p := ⟨g, off + k * 2 + 1, none⟩) hgl).trans a1
      obtain ⟨cs, A1, n1, c1, hA, hG, hL, hR, h7⟩ := HS.out.st
      have HA := Lib.hid hA; clear hA
      have HG := Lib.hid hG; clear hG
      have HL := Lib.hid hL; clear hL
      have HR := Lib.hid hR; clear hR
      have H7 := Lib.hid h7; clear h7
      clear a0 a1 hcell hact
      go_upto_region 10 with fail
      obtain ⟨X, hX⟩ : ∃ X, X = wr.heap.size := ⟨_, rfl⟩
      obtain ⟨W5, hW5⟩ : ∃ W5, W5 = wr.alloc (Obj.cells #[.int .u8 ak, .int .i64 ax] 61) := ⟨_, rfl⟩
      rw [← hW5, ← hX]
      have hb5 : Below wr.heap.size wr W5 := by rw [hW5]; exact (Below.refl _ _).alloc (Nat.le_refl _) _
      have hx5 : W5.heap[X]? = some (.cells #[.int .u8 ak, .int .i64 ax] 61 (0, 0)) := by rw [hW5, hX]; exact (MapKept.heap_alloc _ _).1
      have x0 : W5.cell? ⟨X, 0, none⟩ = some (.int .u8 ak) := cell_blk hx5 0
      have x1 : W5.cell? ⟨X, 1, none⟩ = some (.int .i64 ax) := cell_blk hx5 1
      have HB5 : Hid (Below w.heap.size w W5) := HS.out.below.trans (hb5.mono HS.out.below.size)
      have HA5 := Lib.hid (HA.out.below hb5 HA.out.lt_a HA.out.lt_b)
      have HR5 := Lib.hid (HR.out.below hb5)
      have H75 : Hid (W5.heap[g7]? = some (.cells #[.int .i64 N, .slice A1 n1 c1] 57 (0, 0))) := (hb5.block _ (blk_lt H7.out)).trans H7.out
      have HT5 := Lib.hid (HT.out.below HB5.out HT.out.lt)
      have p0 : W5.cell? ⟨g7, 0, none⟩ = some (.int .i64 N) := cell_blk H75.out 0
      have p1 : W5.cell? ⟨g7, 1, none⟩ = some (.slice A1 n1 c1) := cell_blk H75.out 1
      have HDO := Lib.hid (do_at HG.out (by rw [HL.out]; exact hN2) HB5.out HA5.out HBL.out HT5.out HBP.out HR5.out ak ax hak)
      rw [HL.out] at HDO
      clear hb5 hx5 hW5 hX d0 d1
      go_wp2_with fail
      refine HDO.out.mono ?_
      rintro e W6 ⟨v6, cs6, rfl, hA6, hG6, hL6, hR6, hB6, hK6⟩
      obtain ⟨A6, n6, c6, rfl⟩ : ∃ A n c, v6 = .slice A n c := by
        obtain ⟨A, c, h⟩ := hR6.slice
        exact ⟨_, _, _, h⟩
      have n7b : ¬ (g7 = b ∨ some g7 = (Value.slice A1 n1 c1).ownBlock) := by
        rintro (h | h)
        · subst h
          have := HA5.out.body; rw [H75.out] at this; injection this with this; injection this with _ this; cases this
        · exact HR5.out.ne H75.out (by decide) h
      have H76 : Hid (W6.heap[g7]? = some (.cells #[.int .i64 N, .slice A1 n1 c1] 57 (0, 0))) := (hK6.2 g7 (blk_lt H75.out) n7b).trans H75.out
      have HA6 := Lib.hid hA6; clear hA6
      have HG6 := Lib.hid hG6; clear hG6
      have HL6 := Lib.hid hL6; clear hL6
      have HR6 := Lib.hid hR6; clear hR6
      have HB6 := Lib.hid hB6; clear hB6
      clear hK6 n7b p0 p1 x0 x1
      go_upto_region 11 with fail
      obtain ⟨Y, hY⟩ : ∃ Y, Y = W6.heap.size := ⟨_, rfl⟩
      obtain ⟨W7, hW7⟩ : ∃ W7, W7 = W6.alloc (Obj.cells #[.int .i64 N, .slice A6 n6 c6] 57) := ⟨_, rfl⟩
      rw [← hW7, ← hY]
      have hb7 : Below W6.heap.size W6 W7 := by rw [hW7]; exact (Below.refl _ _).alloc (Nat.le_refl _) _
      have hx7 : W7.heap[Y]? = some (.cells #[.int .i64 N, .slice A6 n6 c6] 57 (0, 0)) := by rw [hW7, hY]; exact (MapKept.heap_alloc _ _).1
      have y0 : W7.cell? ⟨Y, 0, none⟩ = some (.int .i64 N) := cell_blk hx7 0
      have y1 : W7.cell? ⟨Y, 1, none⟩ = some (.slice A6 n6 c6) := cell_blk hx7 1
      have HB7 : Hid (Below w.heap.size w W7) := HB6.out.trans (hb7.mono HB6.out.size)
      have HA7 := Lib.hid (HA6.out.below hb7 HA6.out.lt_a HA6.out.lt_b)
      have HR7 := Lib.hid (HR6.out.below hb7)
      have H77 : Hid (W7.heap[g7]? = some (.cells #[.int .i64 N, .slice A1 n1 c1] 57 (0, 0))) := (hb7.block _ (blk_lt H76.out)).trans H76.out
      have p0 : W7.cell? ⟨g7, 0, none⟩ = some (.int .i64 N) := cell_blk H77.out 0
      have p1 : W7.cell? ⟨g7, 1, none⟩ = some (.slice A1 n1 c1) := cell_blk H77.out 1
      have f0 : W7.frozen? ⟨g7, 0, none⟩ = false := frozen_blk H77.out 0
      have f1 : W7.frozen? ⟨g7, 1, none⟩ = false := frozen_blk H77.out 1
      clear hb7 hx7 hW7 hY
      go_upto_region 12 with fail
      obtain ⟨W8, hW8⟩ : ∃ W8, W8 = (W7.setCell ⟨g7, 0, none⟩ (.int .i64 N)).setCell ⟨g7, 1, none⟩ (.slice A6 n6 c6) := ⟨_, rfl⟩
      rw [← hW8]
      have h78 : (W7.setCell ⟨g7, 0, none⟩ (.int .i64 N)).heap[g7]? = some (.cells #[.int .i64 N, .slice A1 n1 c1] 57 (0, 0)) := by rw [blk_set H77.out]; rfl
      have h8 : W8.heap[g7]? = some (.cells #[.int .i64 N, .slice A6 n6 c6] 57 (0, 0)) := by rw [hW8, blk_set h78]; rfl
      have HA8 : Hid (At W8 a b cs6) := by rw [hW8]; exact (HA7.out.set H77.out (by decide) (by decide) 0 _).set h78 (by decide) (by decide) 1 _
      have HR8 : Hid (RL W8 w.heap.size (.slice A6 n6 c6) (objs cs6)) := by rw [hW8]; exact (HR7.out.set H77.out (by decide) 0 _).set h78 (by decide) 1 _
      have HB8 : Hid (Below w.heap.size w W8) := by rw [hW8]; exact (HB7.out.setCell HG7.out _).setCell HG7.out _
      have H88 := Lib.hid h8; clear h8
      have HSM := Lib.hid (same_at HG6.out (by rw [HL6.out]; exact hN2) HA8.out HR8.out)
      rw [HL6.out] at HSM
      clear hW8 h78 p0 p1 f0 f1 y0 y1
      have p0 : W8.cell? ⟨g7, 0, none⟩ = some (.int .i64 N) := cell_blk H88.out 0
      have p1 : W8.cell? ⟨g7, 1, none⟩ = some (.slice A6 n6 c6) := cell_blk H88.out 1
      go_wp2_with fail
      refine HSM.out.mono ?_
      rintro e W9 ⟨rfl, hb9⟩
      have HS9 : Hid (LS w a b N g7 W9) := ⟨⟨cs6, A6, n6, c6, HA8.out.below hb9 HA8.out.lt_a HA8.out.lt_b, HG6.out, HL6.out, HR8.out.below hb9, (hb9.block _ (blk_lt H88.out)).trans H88.out⟩, HB8.out.trans (hb9.mono HB8.out.size)⟩
      clear hb9 p0 p1
      go_wp2_with fail
      go_roundw
      case rel => exact ⟨k + 1, by omega, by go_num, HS9.out⟩
      case measure => simp [intOf]; omega
    · obtain rfl : n = k := by omega
      go_wp2_with fail
      go_ret
      exact ⟨rfl, HS.out.below⟩
end Go.Proofs.YtdgfnlagbdmniaaDoor.Pl
