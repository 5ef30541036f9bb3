/- PoolRuns: the reference's Alloc, walked. -/
/- PoolRuns: the reference's Map; equal; a size that Alloc does not take. -/
import Derived.Test.YtdgfnlagbdmniaaDoorMd
import Derived.Deep.QuietTactic
namespace Go.Proofs.YtdgfnlagbdmniaaDoor.Pl
open Go.RowKit Go.Proofs.YtdgfnlagbdmniaaDoor.PPoolRuns Go.Proofs.YtdgfnlagbdmniaaDoorW.PrintWords Go.Proofs.YtdgfnlagbdmniaaDoorW.PrintLast Go.Proofs.YtdgfnlagbdmniaaDoorW.PrintMore

theorem shift_add {ad z c : Nat} (hz : z = 32 * 2 ^ c) (h : ad + z ≤ 300000) : wrap64 ((ad : Int) + wrap64 (32 * 2 ^ c)) = ((ad + z : Nat) : Int) := by
  have e1 : ((32 : Int) * 2 ^ c) = (z : Int) := by rw [hz, Int.natCast_mul, Int.natCast_pow]; rfl
  rw [e1]
  unfold wrap64
  omega
theorem kd_free {ch : Chunk} : decide (kd ch < 0) = (ch.what == 0) := by
  unfold kd
  by_cases h0 : ch.what = 0
  · simp [h0]
  · rw [if_neg h0]
    have : (ch.what == 0) = false := by simpa using h0
    rw [this]
    split
    · simp
    · split <;> decide
theorem kd_slots {ch : Chunk} {c : Nat} (hc : c < 5) (h : kd ch = c) : ch.what = 1 ∧ ch.cls = c := by
  unfold kd at h
  split at h
  · omega
  · split at h
    · exact ⟨by assumption, by omega⟩
    · split at h <;> omega
theorem all_next {cs : List Chunk} {k i : Nat} {ch : Chunk} (h : cs[k + i]? = some ch) : ((List.range (i + 1)).all fun j => (cs.getD (k + j) Chunk.zero).what == 0) = (((List.range i).all fun j => (cs.getD (k + j) Chunk.zero).what == 0) && (ch.what == 0)) := by
  rw [List.range_succ, List.all_append]
  have e : cs.getD (k + i) Chunk.zero = ch := by simp [List.getD, h]
  simp [h]

set_option maxRecDepth 100000 in
set_option maxHeartbeats 4000000 in
theorem ralloc_at {cs : List Chunk} (hG : Good cs) (hN : cs.length ≤ 256) (v : Value) {w : World} {base : Nat} {ok : Nat → Prop} (hR : k109.R 109 w base ok v ((objs cs).map toS)) (size : Int) (h1 : 1 ≤ size) (h2 : size ≤ 262144) :
    Calls Tryd.prog 38 #[.agg #[.int .i64 cs.length, v], .int .i64 size] w (RAllocPost cs size v w) := by
  obtain ⟨A, n, cap, rfl⟩ : ∃ A n cap, v = .slice A n cap := by
    obtain ⟨A, c, h, _⟩ := Kd.R_reads hR
    exact ⟨_, _, _, h⟩
  have HK := Lib.hid (kind_at hG hN hR (cs.length : Int))
  have HH := Lib.hid (holder_at hG hN hR (cs.length : Int))
  have HP := Lib.hid (put_at hG hN hR (cs.length : Int))
  have HC := Lib.hid (rclass_ok size h1 h2)
  have HRM := Lib.hid (rroom_at size h1 h2 (fun w => rclass_ok size h1 h2 w))
  have HG := Lib.hid hG
  clear hR hG
  have h5 := cls_le size
  have HS1 : Hid (∀ (k s : Nat) (ch : Chunk), cs[k]? = some ch → ch.what = 1 → ch.cls = cls size → cls size < 5 → (∀ j, j < k → room (cs.getD j Chunk.zero) (cls size) = false) →
    s < 32 / 2 ^ ch.cls → ch.taken.testBit s = false → (∀ j, j < s → ch.taken.testBit j = true) → ∃ cs', allocC cs size = some (cs', k * 1024 + s * (32 * 2 ^ ch.cls))) := fun k s ch a1 a2 a3 a4 a5 a6 a7 a8 => small_found HG.out a1 a2 a3 a4 a5 a6 a7 a8
  have HT1 : Hid (cls size < 5 → (∀ j, j < cs.length → room (cs.getD j Chunk.zero) (cls size) = false) → Takes cs size 1) := takes_small
  have HT5 : Hid (cls size = 5 → Takes cs size ((size + 1023) / 1024).toNat) := takes_large
  have HRO : Hid (cls size = 5 → ((roomOf size : Nat) : Int) = (size + 1023) / 1024 * 1024) := by
    intro h
    unfold roomOf
    rw [if_neg (by omega)]
    omega
  have HFIN : Hid (∀ (x : Nat) (X : Int) (u : Value) (m : List PObj) (W5 : World) (cs' : List Chunk) (g2 : Nat), X = (x : Int) → w.heap.size ≤ g2 → allocC cs size = some (cs', x) → Below w.heap.size w W5 → k109.R 109 W5 w.heap.size (fun _ => True) u (m.map toS) → Ins (objs cs) m ⟨x, size, roomOf size, false⟩ →
      W5.heap[g2]? = some (.cells #[.int .i64 0, .slice none 0 0] 57 (0, 0)) → ∀ y z, RAllocPost cs size (.slice A n cap) w (.returned (.tuple #[.agg #[.int .i64 cs.length, u], .int .i64 X, .int .i64 0])) ((W5.setCell ⟨g2, 0, none⟩ y).setCell ⟨g2, 1, none⟩ z)) := by
    intro x X u m W5 cs' g2 hX hg ha hb hr hi h2 y z
    subst hX
    refine ⟨(hb.setCell hg _).setCell hg _, ?_⟩
    rw [ha]
    have h2' : (W5.setCell ⟨g2, 0, none⟩ y).heap[g2]? = some (.cells (#[.int .i64 0, .slice none 0 0].setIfInBounds 0 y) 57 (0, 0)) := blk_set h2 0 y
    exact ⟨u, m, rfl, Kd.R_set (Kd.R_set hr h2 (by intro q hq; simp at hq; rcases hq with rfl | hq; decide; cases hq) 0 y) h2' (by intro q hq; simp at hq; rcases hq with rfl | hq; decide; cases hq) 1 z, hi⟩
  have HNIL : Hid (∀ (W5 : World) (g2 : Nat), w.heap.size ≤ g2 → allocC cs size = none → Below w.heap.size w W5 → ∀ y z, RAllocPost cs size (.slice A n cap) w (.returned (.tuple #[.agg #[.int .i64 cs.length, .slice A n cap], .int .i64 0, .int .i64 8])) ((W5.setCell ⟨g2, 0, none⟩ y).setCell ⟨g2, 1, none⟩ z)) := by
    intro W5 g2 hg ha hb y z
    refine ⟨(hb.setCell hg _).setCell hg _, ?_⟩
    rw [ha]
  generalize hP : RAllocPost cs size (.slice A n cap) w = POST at *
  have HPO := Lib.hid hP; clear hP
  generalize hc : cls size = c at *
  have HCL := Lib.hid hc; clear hc
  generalize hro : roomOf size = R at *
  have HRR := Lib.hid hro; clear hro
  obtain ⟨N, hNN⟩ : ∃ N, N = cs.length := ⟨_, rfl⟩
  rw [← hNN] at HK HH HP HFIN HNIL hN ⊢
  have HN := Lib.hid hNN; clear hNN
  obtain ⟨g1, hg1⟩ : ∃ g1, g1 = w.heap.size := ⟨_, rfl⟩
  obtain ⟨g2, hg2⟩ : ∃ g2, g2 = g1 + 1 := ⟨_, rfl⟩
  have HG1 := Lib.hid hg1
  have HG2 := Lib.hid hg2
  go_enter Tryd.func38, Tryd.ntmps38
  go_wp2_with fail
  obtain ⟨W0, hW0⟩ : ∃ W0, W0 = (w.alloc (Obj.cells #[Value.int IntKind.i64 N, Value.slice A n cap] 57)).alloc (Obj.cells #[Value.int IntKind.i64 0, Value.slice none 0 0] 57) := ⟨_, rfl⟩
  rw [← hW0]
  have HS0 : Hid (SA w N (.slice A n cap) g1 g2 W0) := by
    refine ⟨?_, ?_, ?_⟩
    · rw [hW0]; exact ((Below.refl _ _).alloc (Nat.le_refl _) _).alloc (by simp) _
    · rw [hW0, Below.heap_alloc _ _ _ (by simp; omega), hg1]; exact (MapKept.heap_alloc _ _).1
    · rw [hW0, hg2, hg1]; simpa using (MapKept.heap_alloc (w.alloc (Obj.cells #[Value.int IntKind.i64 N, Value.slice A n cap] 57)) (Obj.cells #[Value.int IntKind.i64 0, Value.slice none 0 0] 57)).1
  rw [← hg1, ← hg2]
  clear hW0 hg1 hg2
  refine (HC.out _).mono ?_
  rintro e w1 ⟨rfl, rfl⟩
  by_cases h5 : c = 5
  · subst h5
    go_wp2_with fail
    refine (HRM.out _).mono ?_
    rintro e w2 ⟨rfl, rfl⟩
    obtain ⟨many, hmany⟩ : ∃ many : Nat, many = ((size + 1023) / 1024).toNat := ⟨_, rfl⟩
    have hdiv : (R : Int) / 1024 = (many : Int) := by have := HRO.out trivial; omega
    have hm1 : 1 ≤ many := by omega
    have hm2 : many ≤ 256 := by omega
    have HTK : Hid (Takes cs size many) := by rw [hmany]; exact HT5.out trivial
    have HR3 := Lib.hid hdiv
    clear hmany hdiv
    go_wp2_with fail
    have ew : wrap64 ((R : Int) / 1024) = (many : Int) := by rw [HR3.out]; unfold wrap64; omega
    rw [ew]
    clear ew HR3
    go_loopw [12] (fun s12 wr => ∃ k : Nat, k ≤ N ∧ s12 = .int .i64 k ∧ (∀ j, j < k → freeRun cs j many = false) ∧ SA w N (.slice A n cap) g1 g2 wr) (fun s12 _ => N + 1 - (intOf s12).toNat)
    case atStart => exact ⟨0, by omega, rfl, fun j hj => by omega, HS0.out⟩
    case round =>
      obtain ⟨k, hk, rfl, hno, hS⟩ := hrel
      have HNO := Lib.hid hno; clear hno
      have HS := Lib.hid hS; clear hS
      have p0 : wr.cell? ⟨g1, 0, none⟩ = some (.int .i64 N) := cell_blk HS.out.b1 0
      have p1 : wr.cell? ⟨g1, 1, none⟩ = some (.slice A n cap) := cell_blk HS.out.b1 1
      by_cases hlt : k + many ≤ N
      · have tl : decide ((k : Int) + many ≤ (N : Int)) = true := decide_eq_true (by omega)
        have tl' : decide ((k : Int) < (N : Int)) = true := decide_eq_true (by omega)
        go_wp2_with fail
        clear p0 p1
        go_loopw [13, 14] (fun s13 s14 wi => ∃ i : Nat, i ≤ many ∧ s14 = .int .i64 i ∧ s13 = .bool ((List.range i).all fun j => (cs.getD (k + j) Chunk.zero).what == 0) ∧ SA w N (.slice A n cap) g1 g2 wi) (fun _ s14 _ => many - (intOf s14).toNat)
        case atStart => exact ⟨0, by omega, rfl, rfl, HS.out⟩
        case round =>
          obtain ⟨i, hi, rfl, rfl, hSI⟩ := hrel
          have HSI := Lib.hid hSI; clear hSI
          generalize hb : ((List.range i).all fun j => (cs.getD (k + j) Chunk.zero).what == 0) = b
          have HB := Lib.hid hb; clear hb
          have q0 : wr.cell? ⟨g1, 0, none⟩ = some (.int .i64 N) := cell_blk HSI.out.b1 0
          have q1 : wr.cell? ⟨g1, 1, none⟩ = some (.slice A n cap) := cell_blk HSI.out.b1 1
          by_cases hin : i < many
          · obtain ⟨ch, hch⟩ : ∃ ch, cs[k + i]? = some ch := ⟨cs[k + i]'(by rw [← HN.out]; omega), by simp⟩
            have HNX := Lib.hid (all_next hch)
            cases b with
            | false =>
              clear hch
              go_wp2_with fail
              go_roundw
              case rel => exact ⟨i + 1, by omega, by go_num, by rw [HNX.out, HB.out]; rfl, HSI.out⟩
              case measure => simp [intOf]; omega
            | true =>
              have HKC := Lib.hid (HK.out (k + i) ch hch)
              have HKD := Lib.hid (kd_free (ch := ch))
              clear hch
              go_wp2_with fail
              refine (HKC.out _ (by omega) _ HSI.out.below).mono ?_
              rintro e w5 ⟨rfl, hb5⟩
              have HS5 : Hid (SA w N (.slice A n cap) g1 g2 w5) := HSI.out.step hb5
              clear hb5 q0 q1
              generalize kd ch = q at *
              cases hz : (ch.what == 0) with
              | true =>
                have tq : decide (q < 0) = true := by rw [HKD.out, hz]
                have HZ := Lib.hid hz; clear hz
                go_wp2_with fail
                go_roundw
                case rel => exact ⟨i + 1, by omega, by go_num, by rw [HNX.out, HB.out, HZ.out]; rfl, HS5.out⟩
                case measure => simp [intOf]; omega
              | false =>
                have tq : decide (q < 0) = false := by rw [HKD.out, hz]
                have HZ := Lib.hid hz; clear hz
                go_wp2_with fail
                go_roundw
                case rel => exact ⟨i + 1, by omega, by go_num, by rw [HNX.out, HB.out, HZ.out]; rfl, HS5.out⟩
                case measure => simp [intOf]; omega
          · obtain rfl : many = i := by omega
            cases b with
            | false =>
              go_wp2_with fail
              go_roundw
              case rel => exact ⟨k + 1, by omega, by go_num, fun j hj => by
                by_cases e : j = k
                · subst e; exact HB.out
                · exact HNO.out j (by omega), HSI.out⟩
              case measure => simp [intOf]; omega
            | true =>
              obtain ⟨cs', hcs⟩ := HTK.out.1 k (run_found (by rw [← HN.out]; exact hlt) HB.out HNO.out)
              have HCS := Lib.hid hcs; clear hcs
              go_wp2_with fail
              refine (HP.out (k * 1024) size _ (by omega) _ HSI.out.below).mono ?_
              rintro e w5 ⟨u, m, rfl, hu, hm, hb5⟩
              obtain ⟨Au, cu, rfl⟩ := Kd.R_slice hu
              have HU := Lib.hid hu; clear hu
              rw [HRR.out] at hm
              have HM := Lib.hid hm; clear hm
              have HS5 : Hid (SA w N (.slice A n cap) g1 g2 w5) := HSI.out.step hb5
              have HE := Lib.hid (HFIN.out (k * 1024) ((k : Int) * 1024) _ m w5 cs' g2 (by omega) (by rw [HG2.out, HG1.out]; exact Nat.le_succ _) HCS.out HS5.out.below HU.out HM.out HS5.out.b2)
              clear hb5 q0 q1
              have c0 : w5.cell? ⟨g2, 0, none⟩ = some (.int .i64 0) := cell_blk HS5.out.b2 0
              have c1 : w5.cell? ⟨g2, 1, none⟩ = some (.slice none 0 0) := cell_blk HS5.out.b2 1
              have f0 : w5.frozen? ⟨g2, 0, none⟩ = false := frozen_blk HS5.out.b2 0
              have f1 : w5.frozen? ⟨g2, 1, none⟩ = false := frozen_blk HS5.out.b2 1
              generalize (m.map toS).length = lm at *
              have v0 : ((w5.setCell ⟨g2, 0, none⟩ (.int .i64 N)).setCell ⟨g2, 1, none⟩ (.slice Au lm cu)).cell? ⟨g2, 0, none⟩ = some (.int .i64 N) := by
                rw [cell_blk (blk_set (blk_set HS5.out.b2 0 _) 1 _)]; rfl
              have v1 : ((w5.setCell ⟨g2, 0, none⟩ (.int .i64 N)).setCell ⟨g2, 1, none⟩ (.slice Au lm cu)).cell? ⟨g2, 1, none⟩ = some (.slice Au lm cu) := by
                rw [cell_blk (blk_set (blk_set HS5.out.b2 0 _) 1 _)]; rfl
              go_wp2_with fail
              exact bodyPost_ret (v := .tuple #[.agg #[.int .i64 N, .slice Au lm cu], .int .i64 ((k : Int) * 1024), .int .i64 0]) (by simp [results, Tryd.results38, go_sem, v0, v1]) rfl (HE.out _ _)
      · have hal := HTK.out.2 (run_none (k := k) (by rw [← HN.out]; omega) HNO.out)
        have HE := Lib.hid (HNIL.out wr g2 (by rw [HG2.out, HG1.out]; exact Nat.le_succ _) hal HS.out.below)
        clear hal
        have c0 : wr.cell? ⟨g2, 0, none⟩ = some (.int .i64 0) := cell_blk HS.out.b2 0
        have c1 : wr.cell? ⟨g2, 1, none⟩ = some (.slice none 0 0) := cell_blk HS.out.b2 1
        have f0 : wr.frozen? ⟨g2, 0, none⟩ = false := frozen_blk HS.out.b2 0
        have f1 : wr.frozen? ⟨g2, 1, none⟩ = false := frozen_blk HS.out.b2 1
        have v0 : ((wr.setCell ⟨g2, 0, none⟩ (.int .i64 N)).setCell ⟨g2, 1, none⟩ (.slice A n cap)).cell? ⟨g2, 0, none⟩ = some (.int .i64 N) := by
          rw [cell_blk (blk_set (blk_set HS.out.b2 0 _) 1 _)]; rfl
        have v1 : ((wr.setCell ⟨g2, 0, none⟩ (.int .i64 N)).setCell ⟨g2, 1, none⟩ (.slice A n cap)).cell? ⟨g2, 1, none⟩ = some (.slice A n cap) := by
          rw [cell_blk (blk_set (blk_set HS.out.b2 0 _) 1 _)]; rfl
        go_wp2_with fail
        exact bodyPost_ret (v := .tuple #[.agg #[.int .i64 N, .slice A n cap], .int .i64 0, .int .i64 8]) (by simp [results, Tryd.results38, go_sem, v0, v1]) rfl (HE.out _ _)
  · have hc5 : c < 5 := by omega
    have t0 : decide ((c : Int) < 5) = true := decide_eq_true (by omega)
    obtain ⟨z, hz⟩ : ∃ z, z = 32 * 2 ^ c := ⟨_, rfl⟩
    obtain ⟨per, hper⟩ : ∃ per, per = 32 / 2 ^ c := ⟨_, rfl⟩
    have hpz : per * z = 1024 := by rw [hz, hper]; exact per_mul c (by omega)
    have hz0 : 0 < z := by have := Nat.pow_pos (a := 2) (n := c) (by decide); omega
    have HZ := Lib.hid hz; clear hz
    have HPR := Lib.hid hper; clear hper
    have HPZ := Lib.hid hpz; clear hpz
    go_wp2_with fail
    go_loopw [9] (fun s9 wr => ∃ k : Nat, k ≤ N ∧ s9 = .int .i64 k ∧ (∀ j, j < k → room (cs.getD j Chunk.zero) c = false) ∧ SA w N (.slice A n cap) g1 g2 wr) (fun s9 _ => N - (intOf s9).toNat)
    case atStart => exact ⟨0, by omega, rfl, fun j hj => by omega, HS0.out⟩
    case round =>
      obtain ⟨k, hk, rfl, hno, hS⟩ := hrel
      have HNO := Lib.hid hno; clear hno
      have HS := Lib.hid hS; clear hS
      have p0 : wr.cell? ⟨g1, 0, none⟩ = some (.int .i64 N) := cell_blk HS.out.b1 0
      have p1 : wr.cell? ⟨g1, 1, none⟩ = some (.slice A n cap) := cell_blk HS.out.b1 1
      by_cases hlt : k < N
      · have tl : decide ((k : Int) < (N : Int)) = true := decide_eq_true (by omega)
        obtain ⟨ch, hch⟩ : ∃ ch, cs[k]? = some ch := ⟨cs[k]'(by rw [← HN.out]; omega), by simp⟩
        have HKC := Lib.hid (HK.out k ch hch)
        have HCH := Lib.hid hch; clear hch
        go_wp2_with fail
        refine (HKC.out _ rfl _ HS.out.below).mono ?_
        rintro e w5 ⟨rfl, hb5⟩
        have HS5 : Hid (SA w N (.slice A n cap) g1 g2 w5) := HS.out.step hb5
        clear hb5 p0 p1 HKC
        by_cases hkc : kd ch = (c : Int)
        · obtain ⟨hw, hcc⟩ := kd_slots hc5 hkc
          rw [hkc]
          have HW := Lib.hid hw; clear hw
          have HCC := Lib.hid hcc; clear hcc hkc
          have tl2 : decide (¬ (c : Int) = (c : Int)) = false := by simp
          go_wp2_with fail
          go_loopw [10] (fun s10 wi => ∃ s ad : Nat, s ≤ per ∧ ad = k * 1024 + s * z ∧ s10 = .int .i64 ad ∧ (∀ t, t < s → ch.taken.testBit t = true) ∧ SA w N (.slice A n cap) g1 g2 wi) (fun s10 _ => (k + 1) * 1024 - (intOf s10).toNat)
          case atStart => exact ⟨0, k * 1024, by omega, by omega, by simp, fun t ht => by omega, HS5.out⟩
          case round =>
            obtain ⟨s, ad, hs, had, rfl, hbits, hSI⟩ := hrel
            have HBT := Lib.hid hbits; clear hbits
            have HSI := Lib.hid hSI; clear hSI
            have HAD := Lib.hid had; clear had
            have q0 : wr.cell? ⟨g1, 0, none⟩ = some (.int .i64 N) := cell_blk HSI.out.b1 0
            have q1 : wr.cell? ⟨g1, 1, none⟩ = some (.slice A n cap) := cell_blk HSI.out.b1 1
            by_cases hsp : s < per
            · have hadl : ad + z ≤ (k + 1) * 1024 := by
                have := Nat.mul_le_mul_right z (show s + 1 ≤ per from hsp)
                have := HPZ.out
                have := HAD.out
                rw [Nat.add_mul] at *
                omega
              have ta : decide ((ad : Int) < ((k : Int) + 1) * 1024) = true := decide_eq_true (by omega)
              have HHC : Hid (∀ W, Below w.heap.size w W → Calls Tryd.prog 49 #[.agg #[.int .i64 N, .slice A n cap], .int .i64 ad] W fun e W' => ∃ r, e = .returned (.int .i64 r) ∧ decide (r < 0) = (!ch.taken.testBit s) ∧ Below W.heap.size W W') := fun W hB =>
                HH.out k s ch HCH.out HW.out (by rw [HCC.out, ← HPR.out]; exact hsp) ad (by rw [HCC.out, ← HZ.out, ← HAD.out]) W hB
              go_wp2_with fail
              refine (HHC.out _ HSI.out.below).mono ?_
              rintro e w6 ⟨r, rfl, hr, hb6⟩
              have HS6 : Hid (SA w N (.slice A n cap) g1 g2 w6) := HSI.out.step hb6
              clear hb6 q0 q1
              have q0 : w6.cell? ⟨g1, 0, none⟩ = some (.int .i64 N) := cell_blk HS6.out.b1 0
              have q1 : w6.cell? ⟨g1, 1, none⟩ = some (.slice A n cap) := cell_blk HS6.out.b1 1
              cases hbt : ch.taken.testBit s with
              | true =>
                have tr : decide (r < 0) = false := by rw [hr, hbt]; rfl
                have HBS := Lib.hid hbt; clear hbt hr
                have hstep : ∀ d : Nat, d = z → ad + d = k * 1024 + (s + 1) * z := by
                  intro d hd
                  subst hd
                  have := HAD.out
                  rw [Nat.add_mul, Nat.one_mul]; omega
                have HST := Lib.hid hstep; clear hstep
                have HBT2 : Hid (∀ t, t < s + 1 → ch.taken.testBit t = true) := fun t ht => by
                  by_cases e : t = s
                  · subst e; exact HBS.out
                  · exact HBT.out t (by omega)
                have hea := Lib.hid (shift_add (ad := ad) HZ.out (by omega))
                go_wp2_with fail
                rw [hea.out]
                refine ⟨⟨s + 1, ad + z, by omega, HST.out z rfl, rfl, HBT2.out, HS6.out⟩, ?_⟩
                simp [intOf]; omega
              | false =>
                have tr : decide (r < 0) = true := by rw [hr, hbt]; rfl
                obtain ⟨cs', hcs⟩ := HS1.out k s ch HCH.out HW.out HCC.out hc5 HNO.out (by rw [HCC.out, ← HPR.out]; exact hsp) hbt HBT.out
                rw [HCC.out, ← HZ.out, ← HAD.out] at hcs
                have HCS := Lib.hid hcs; clear hcs hbt hr
                go_wp2_with fail
                refine (HP.out ad size _ rfl _ HS6.out.below).mono ?_
                rintro e w7 ⟨u, m, rfl, hu, hm, hb7⟩
                obtain ⟨Au, cu, rfl⟩ := Kd.R_slice hu
                have HU := Lib.hid hu; clear hu
                rw [HRR.out] at hm
                have HM := Lib.hid hm; clear hm
                have HS7 : Hid (SA w N (.slice A n cap) g1 g2 w7) := HS6.out.step hb7
                have HE := Lib.hid (HFIN.out ad (ad : Int) _ m w7 cs' g2 rfl (by rw [HG2.out, HG1.out]; exact Nat.le_succ _) HCS.out HS7.out.below HU.out HM.out HS7.out.b2)
                clear hb7
                have c0 : w7.cell? ⟨g2, 0, none⟩ = some (.int .i64 0) := cell_blk HS7.out.b2 0
                have c1 : w7.cell? ⟨g2, 1, none⟩ = some (.slice none 0 0) := cell_blk HS7.out.b2 1
                have f0 : w7.frozen? ⟨g2, 0, none⟩ = false := frozen_blk HS7.out.b2 0
                have f1 : w7.frozen? ⟨g2, 1, none⟩ = false := frozen_blk HS7.out.b2 1
                generalize (m.map toS).length = lm at *
                have v0 : ((w7.setCell ⟨g2, 0, none⟩ (.int .i64 N)).setCell ⟨g2, 1, none⟩ (.slice Au lm cu)).cell? ⟨g2, 0, none⟩ = some (.int .i64 N) := by
                  rw [cell_blk (blk_set (blk_set HS7.out.b2 0 _) 1 _)]; rfl
                have v1 : ((w7.setCell ⟨g2, 0, none⟩ (.int .i64 N)).setCell ⟨g2, 1, none⟩ (.slice Au lm cu)).cell? ⟨g2, 1, none⟩ = some (.slice Au lm cu) := by
                  rw [cell_blk (blk_set (blk_set HS7.out.b2 0 _) 1 _)]; rfl
                go_wp2_with fail
                exact bodyPost_ret (v := .tuple #[.agg #[.int .i64 N, .slice Au lm cu], .int .i64 (ad : Int), .int .i64 0]) (by simp [results, Tryd.results38, go_sem, v0, v1]) rfl (HE.out _ _)
            · have e : s = per := by omega
              have hade : ad = (k + 1) * 1024 := by
                have := HPZ.out
                have := HAD.out
                rw [e] at this
                omega
              have ta : decide ((ad : Int) < ((k : Int) + 1) * 1024) = false := decide_eq_false (by omega)
              have HNX : Hid (room (cs.getD k Chunk.zero) c = false) := small_next HG.out HCH.out (fun _ _ j hj => HBT.out j (by rw [e, HPR.out]; exact hj))
              clear hade
              go_wp2_with fail
              go_roundw
              case rel => exact ⟨k + 1, by omega, by go_num, fun j hj => by
                by_cases e : j = k
                · subst e; exact HNX.out
                · exact HNO.out j (by omega), HSI.out⟩
              case measure => simp [intOf]; omega
        · have HNX : Hid (room (cs.getD k Chunk.zero) c = false) := small_next HG.out HCH.out (fun a1 a2 => absurd (by unfold kd; rw [if_neg (by omega), if_pos a1, a2]) hkc)
          have tq : decide (kd ch = (c : Int)) = false := decide_eq_false hkc
          have tq2 : decide (¬ kd ch = (c : Int)) = true := decide_eq_true hkc
          have tq3 : (kd ch == (c : Int)) = false := by simpa using hkc
          have tq4 : (kd ch != (c : Int)) = true := by simpa using hkc
          generalize kd ch = q at *
          go_wp2_with fail
          go_roundw
          case rel => exact ⟨k + 1, by omega, by go_num, fun j hj => by
            by_cases e : j = k
            · subst e; exact HNX.out
            · exact HNO.out j (by omega), HS5.out⟩
          case measure => simp [intOf]; omega
      · obtain rfl : N = k := by omega
        have HTK : Hid (Takes cs size 1) := HT1.out hc5 (by rw [← HN.out]; exact HNO.out)
        have HS2 := HS
        have t5 : ((c : Int) == 5) = false := by simp; omega
        go_wp2_with fail
        clear p0 p1 HS HNO
        go_loopw [12] (fun s12 wr => ∃ k : Nat, k ≤ N ∧ s12 = .int .i64 k ∧ (∀ j, j < k → freeRun cs j 1 = false) ∧ SA w N (.slice A n cap) g1 g2 wr) (fun s12 _ => N + 1 - (intOf s12).toNat)
        case atStart => exact ⟨0, by omega, rfl, fun j hj => by omega, HS2.out⟩
        case round =>
          obtain ⟨k, hk, rfl, hno, hS⟩ := hrel
          have HNO := Lib.hid hno; clear hno
          have HS := Lib.hid hS; clear hS
          have p0 : wr.cell? ⟨g1, 0, none⟩ = some (.int .i64 N) := cell_blk HS.out.b1 0
          have p1 : wr.cell? ⟨g1, 1, none⟩ = some (.slice A n cap) := cell_blk HS.out.b1 1
          by_cases hlt : k + 1 ≤ N
          · have tl : decide ((k : Int) + 1 ≤ (N : Int)) = true := decide_eq_true (by omega)
            have tl' : decide ((k : Int) < (N : Int)) = true := decide_eq_true (by omega)
            go_wp2_with fail
            clear p0 p1
            go_loopw [13, 14] (fun s13 s14 wi => ∃ i : Nat, i ≤ 1 ∧ s14 = .int .i64 i ∧ s13 = .bool ((List.range i).all fun j => (cs.getD (k + j) Chunk.zero).what == 0) ∧ SA w N (.slice A n cap) g1 g2 wi) (fun _ s14 _ => 1 - (intOf s14).toNat)
            case atStart => exact ⟨0, by omega, rfl, rfl, HS.out⟩
            case round =>
              obtain ⟨i, hi, rfl, rfl, hSI⟩ := hrel
              have HSI := Lib.hid hSI; clear hSI
              generalize hb : ((List.range i).all fun j => (cs.getD (k + j) Chunk.zero).what == 0) = b
              have HB := Lib.hid hb; clear hb
              have q0 : wr.cell? ⟨g1, 0, none⟩ = some (.int .i64 N) := cell_blk HSI.out.b1 0
              have q1 : wr.cell? ⟨g1, 1, none⟩ = some (.slice A n cap) := cell_blk HSI.out.b1 1
              by_cases hin : i < 1
              · obtain ⟨ch, hch⟩ : ∃ ch, cs[k + i]? = some ch := ⟨cs[k + i]'(by rw [← HN.out]; omega), by simp⟩
                have HNX := Lib.hid (all_next hch)
                cases b with
                | false =>
                  clear hch
                  go_wp2_with fail
                  go_roundw
                  case rel => exact ⟨i + 1, by omega, by go_num, by rw [HNX.out, HB.out]; rfl, HSI.out⟩
                  case measure => simp [intOf]; omega
                | true =>
                  have HKC := Lib.hid (HK.out (k + i) ch hch)
                  have HKD := Lib.hid (kd_free (ch := ch))
                  clear hch
                  go_wp2_with fail
                  refine (HKC.out _ (by omega) _ HSI.out.below).mono ?_
                  rintro e w5 ⟨rfl, hb5⟩
                  have HS5 : Hid (SA w N (.slice A n cap) g1 g2 w5) := HSI.out.step hb5
                  clear hb5 q0 q1
                  generalize kd ch = q at *
                  cases hz : (ch.what == 0) with
                  | true =>
                    have tq : decide (q < 0) = true := by rw [HKD.out, hz]
                    have HZ := Lib.hid hz; clear hz
                    go_wp2_with fail
                    go_roundw
                    case rel => exact ⟨i + 1, by omega, by go_num, by rw [HNX.out, HB.out, HZ.out]; rfl, HS5.out⟩
                    case measure => simp [intOf]; omega
                  | false =>
                    have tq : decide (q < 0) = false := by rw [HKD.out, hz]
                    have HZ := Lib.hid hz; clear hz
                    go_wp2_with fail
                    go_roundw
                    case rel => exact ⟨i + 1, by omega, by go_num, by rw [HNX.out, HB.out, HZ.out]; rfl, HS5.out⟩
                    case measure => simp [intOf]; omega
              · obtain rfl : 1 = i := by omega
                cases b with
                | false =>
                  go_wp2_with fail
                  go_roundw
                  case rel => exact ⟨k + 1, by omega, by go_num, fun j hj => by
                    by_cases e : j = k
                    · subst e; exact HB.out
                    · exact HNO.out j (by omega), HSI.out⟩
                  case measure => simp [intOf]; omega
                | true =>
                  obtain ⟨cs', hcs⟩ := HTK.out.1 k (run_found (by rw [← HN.out]; exact hlt) HB.out HNO.out)
                  have HCS := Lib.hid hcs; clear hcs
                  go_wp2_with fail
                  refine (HP.out (k * 1024) size _ (by omega) _ HSI.out.below).mono ?_
                  rintro e w5 ⟨u, m, rfl, hu, hm, hb5⟩
                  obtain ⟨Au, cu, rfl⟩ := Kd.R_slice hu
                  have HU := Lib.hid hu; clear hu
                  rw [HRR.out] at hm
                  have HM := Lib.hid hm; clear hm
                  have HS5 : Hid (SA w N (.slice A n cap) g1 g2 w5) := HSI.out.step hb5
                  have HE := Lib.hid (HFIN.out (k * 1024) ((k : Int) * 1024) _ m w5 cs' g2 (by omega) (by rw [HG2.out, HG1.out]; exact Nat.le_succ _) HCS.out HS5.out.below HU.out HM.out HS5.out.b2)
                  clear hb5 q0 q1
                  have c0 : w5.cell? ⟨g2, 0, none⟩ = some (.int .i64 0) := cell_blk HS5.out.b2 0
                  have c1 : w5.cell? ⟨g2, 1, none⟩ = some (.slice none 0 0) := cell_blk HS5.out.b2 1
                  have f0 : w5.frozen? ⟨g2, 0, none⟩ = false := frozen_blk HS5.out.b2 0
                  have f1 : w5.frozen? ⟨g2, 1, none⟩ = false := frozen_blk HS5.out.b2 1
                  generalize (m.map toS).length = lm at *
                  have v0 : ((w5.setCell ⟨g2, 0, none⟩ (.int .i64 N)).setCell ⟨g2, 1, none⟩ (.slice Au lm cu)).cell? ⟨g2, 0, none⟩ = some (.int .i64 N) := by
                    rw [cell_blk (blk_set (blk_set HS5.out.b2 0 _) 1 _)]; rfl
                  have v1 : ((w5.setCell ⟨g2, 0, none⟩ (.int .i64 N)).setCell ⟨g2, 1, none⟩ (.slice Au lm cu)).cell? ⟨g2, 1, none⟩ = some (.slice Au lm cu) := by
                    rw [cell_blk (blk_set (blk_set HS5.out.b2 0 _) 1 _)]; rfl
                  go_wp2_with fail
                  exact bodyPost_ret (v := .tuple #[.agg #[.int .i64 N, .slice Au lm cu], .int .i64 ((k : Int) * 1024), .int .i64 0]) (by simp [results, Tryd.results38, go_sem, v0, v1]) rfl (HE.out _ _)
          · have hal := HTK.out.2 (run_none (k := k) (by rw [← HN.out]; omega) HNO.out)
            have HE := Lib.hid (HNIL.out wr g2 (by rw [HG2.out, HG1.out]; exact Nat.le_succ _) hal HS.out.below)
            clear hal
            have c0 : wr.cell? ⟨g2, 0, none⟩ = some (.int .i64 0) := cell_blk HS.out.b2 0
            have c1 : wr.cell? ⟨g2, 1, none⟩ = some (.slice none 0 0) := cell_blk HS.out.b2 1
            have f0 : wr.frozen? ⟨g2, 0, none⟩ = false := frozen_blk HS.out.b2 0
            have f1 : wr.frozen? ⟨g2, 1, none⟩ = false := frozen_blk HS.out.b2 1
            have v0 : ((wr.setCell ⟨g2, 0, none⟩ (.int .i64 N)).setCell ⟨g2, 1, none⟩ (.slice A n cap)).cell? ⟨g2, 0, none⟩ = some (.int .i64 N) := by
              rw [cell_blk (blk_set (blk_set HS.out.b2 0 _) 1 _)]; rfl
            have v1 : ((wr.setCell ⟨g2, 0, none⟩ (.int .i64 N)).setCell ⟨g2, 1, none⟩ (.slice A n cap)).cell? ⟨g2, 1, none⟩ = some (.slice A n cap) := by
              rw [cell_blk (blk_set (blk_set HS.out.b2 0 _) 1 _)]; rfl
            go_wp2_with fail
            exact bodyPost_ret (v := .tuple #[.agg #[.int .i64 N, .slice A n cap], .int .i64 0, .int .i64 8]) (by simp [results, Tryd.results38, go_sem, v0, v1]) rfl (HE.out _ _)
end Go.Proofs.YtdgfnlagbdmniaaDoor.Pl
namespace Go.Proofs.YtdgfnlagbdmniaaDoor.Pl
open Go.RowKit Go.Proofs.YtdgfnlagbdmniaaDoor.PPoolRuns Go.Proofs.YtdgfnlagbdmniaaDoorW.PrintWords Go.Proofs.YtdgfnlagbdmniaaDoorW.PrintLast Go.Proofs.YtdgfnlagbdmniaaDoorW.PrintMore

theorem kd_ch {c : Chunk} (h3 : c.what ≤ 3) (h4 : c.cls ≤ 4) : (kd c = -1 ∧ ch c = 46) ∨ (kd c = 0 ∧ ch c = 48) ∨ (kd c = 1 ∧ ch c = 49) ∨ (kd c = 2 ∧ ch c = 50) ∨ (kd c = 3 ∧ ch c = 51) ∨ (kd c = 4 ∧ ch c = 52) ∨ (kd c = 5 ∧ ch c = 76) ∨ (kd c = 6 ∧ ch c = 108) := by
  unfold kd ch
  obtain h | h | h | h : c.what = 0 ∨ c.what = 1 ∨ c.what = 2 ∨ c.what = 3 := by omega
  · simp [h]
  · simp only [h]
    obtain e | e | e | e | e : c.cls = 0 ∨ c.cls = 1 ∨ c.cls = 2 ∨ c.cls = 3 ∨ c.cls = 4 := by omega
    all_goals simp [e]
  · simp [h]
  · simp [h]

theorem mapStr_snoc (cs : List Chunk) (k : Nat) (c : Chunk) (h : cs[k]? = some c) (n : Nat) (b : UInt8) (hn : ch c = n) (hb : UInt8.ofNat n = b) : mapStr (cs.take k) ++ ⟨#[b]⟩ = mapStr (cs.take (k + 1)) := by
  rw [List.take_add_one, h]
  subst hn
  subst hb
  apply ByteArray.ext
  simp [mapStr]

theorem too_long {S : ByteArray} {n : Nat} (h : S.size ≤ 256) (hn : n ≤ 4) : 9223372036854775807 < S.size + n → False := by omega

set_option maxRecDepth 100000 in
set_option maxHeartbeats 4000000 in
theorem rmap_at {cs : List Chunk} (hG : Good cs) (hN : cs.length ≤ 256) (v : Value) {w : World} {base : Nat} {ok : Nat → Prop} (hR : k109.R 109 w base ok v ((objs cs).map toS)) :
    Calls Tryd.prog 45 #[.agg #[.int .i64 cs.length, v]] w fun e w' => e = .returned (.string (mapStr cs)) ∧ Below w.heap.size w w' := by
  obtain ⟨A, n, cap, rfl⟩ : ∃ A n cap, v = .slice A n cap := by
    obtain ⟨A, c, h, _⟩ := Kd.R_reads hR
    exact ⟨_, _, _, h⟩
  have HK := Lib.hid (kind_at hG hN hR (cs.length : Int))
  have HG := Lib.hid hG
  clear hR hG
  obtain ⟨N, hNN⟩ : ∃ N, N = cs.length := ⟨_, rfl⟩
  rw [← hNN] at HK hN ⊢
  have HN := Lib.hid hNN; clear hNN
  have HE : Hid (mapStr (cs.take N) = mapStr cs) := by show _ = _; rw [HN.out, List.take_length]
  generalize mapStr cs = END at *
  obtain ⟨g1, hg1⟩ : ∃ g1, g1 = w.heap.size := ⟨_, rfl⟩
  go_enter Tryd.func45, Tryd.ntmps45
  go_wp2_with fail
  obtain ⟨W0, hW0⟩ : ∃ W0, W0 = w.alloc (Obj.cells #[Value.int IntKind.i64 N, Value.slice A n cap] 57) := ⟨_, rfl⟩
  rw [← hW0]
  have HB0 : Hid (Below w.heap.size w W0) := by rw [hW0]; exact (Below.refl _ _).alloc (Nat.le_refl _) _
  have HX0 : Hid (W0.heap[g1]? = some (.cells #[.int .i64 N, .slice A n cap] 57 (0, 0))) := by rw [hW0, hg1]; exact (MapKept.heap_alloc _ _).1
  rw [← hg1]
  clear hW0 hg1
  go_loopw [3, 4] (fun s3 s4 wr => ∃ k : Nat, k ≤ N ∧ s4 = .int .i64 k ∧ s3 = .string (mapStr (cs.take k)) ∧ Below w.heap.size w wr ∧ wr.heap[g1]? = some (.cells #[.int .i64 N, .slice A n cap] 57 (0, 0))) (fun _ s4 _ => N - (intOf s4).toNat)
  case atStart => exact ⟨0, by omega, rfl, rfl, HB0.out, HX0.out⟩
  case round =>
    obtain ⟨k, hk, rfl, rfl, hB, hX⟩ := hrel
    have HB := Lib.hid hB; clear hB
    have HX := Lib.hid hX; clear hX
    have p0 : wr.cell? ⟨g1, 0, none⟩ = some (.int .i64 N) := cell_blk HX.out 0
    have p1 : wr.cell? ⟨g1, 1, none⟩ = some (.slice A n cap) := cell_blk HX.out 1
    by_cases hlt : k < N
    · have tl : decide ((k : Int) < (N : Int)) = true := decide_eq_true (by omega)
      obtain ⟨c, hc⟩ : ∃ c, cs[k]? = some c := ⟨cs[k]'(by rw [← HN.out]; omega), by simp⟩
      have HKC := Lib.hid (HK.out k c hc)
      have HMS := Lib.hid (mapStr_snoc cs k c hc)
      have hw := HG.out.what c (List.mem_of_getElem? hc)
      have hcase := Lib.hid (kd_ch hw.1 hw.2)
      clear hc hw
      have HSS : Hid ((mapStr (cs.take k)).size ≤ 256) := by
        show (mapStr (cs.take k)).size ≤ 256
        have : (mapStr (cs.take k)).size = (cs.take k).length := by simp [mapStr, ByteArray.size]
        rw [this, List.length_take]; omega
      generalize mapStr (cs.take k) = S at *
      go_wp2_with fail
      refine (HKC.out _ rfl _ HB.out).mono ?_
      rintro e w5 ⟨rfl, hb5⟩
      have HB5 : Hid (Below w.heap.size w w5) := HB.out.trans (hb5.mono HB.out.size)
      have HX5 : Hid (w5.heap[g1]? = some (.cells #[.int .i64 N, .slice A n cap] 57 (0, 0))) := (hb5.block g1 (blk_lt HX.out)).trans HX.out
      clear hb5 p0 p1
      rcases hcase.out with ⟨hq, hch⟩ | ⟨hq, hch⟩ | ⟨hq, hch⟩ | ⟨hq, hch⟩ | ⟨hq, hch⟩ | ⟨hq, hch⟩ | ⟨hq, hch⟩ | ⟨hq, hch⟩
      all_goals
        rw [hq]
        have HMS2 := Lib.hid (HMS.out _ _ hch rfl)
        clear hq hch
        go_wp2_with fail
        all_goals first
          | (exfalso; rename_i hbig; revert hbig; exact too_long HSS.out (by decide))
          | (go_roundw
             case rel => exact ⟨k + 1, by omega, by go_num, by rw [← HMS2.out]; first | rfl | (congr 1), HB5.out, HX5.out⟩
             case measure => simp [intOf]; omega)
    · obtain rfl : N = k := by omega
      rw [HE.out]
      go_wp2
      go_ret
      exact ⟨rfl, HB.out⟩

/-- equal -/
theorem equalf_at (l : List PObj) (hl : l.length ≤ 100000) (hok : ∀ o ∈ l, OOk o) (v u : Value) (w : World) (hv : ObjS w v l) (hu : RefS w u l) :
    Calls Tryd.prog 52 #[v, u, .func (.func 53) #[] #[]] w fun e w' => e = .returned (.bool true) ∧ Below w.heap.size w w' := by
  obtain ⟨p, cap, rfl, hp⟩ := hv
  obtain ⟨q, cap2, rfl, hq⟩ := hu
  by_cases hne : l = []
  · subst hne
    exact eqf_nil p q cap cap2 _ w
  · rcases hp with h | ⟨g, rfl, hg, h1⟩
    · exact absurd h hne
    rcases hq with h | ⟨h, off, rfl, hh, h2⟩
    · exact absurd h hne
    exact eqf_some l hl hok g h off cap cap2 w hg hh h1 h2

set_option maxRecDepth 100000 in
set_option maxHeartbeats 1000000 in
theorem requal_at (l : List PObj) (hl : l.length ≤ 100000) (hok : ∀ o ∈ l, OOk o) (v u : Value) (w : World) (hv : ObjS w v l) (hu : RefS w u l) :
    Calls Tryd.prog 42 #[v, u] w fun e w' => e = .returned (.bool true) ∧ Below w.heap.size w w' := by
  have HE := Lib.hid (equalf_at l hl hok v u w hv hu)
  clear hv hu hok hl
  go_enter Tryd.func42, Tryd.ntmps42
  go_wp2_with fail
  refine HE.out.mono ?_
  rintro e w1 ⟨rfl, hb⟩
  have HB := Lib.hid hb; clear hb
  go_wp2
  go_ret
  exact ⟨rfl, HB.out⟩

set_option maxRecDepth 100000 in
set_option maxHeartbeats 1000000 in
theorem ralloc_err (N : Nat) (A : Option Addr) (n cap : Nat) (size : Int) (h : size < 1 ∨ 262144 < size) (w : World) :
    Calls Tryd.prog 38 #[.agg #[.int .i64 N, .slice A n cap], .int .i64 size] w fun e w' => e = .returned (.tuple #[.agg #[.int .i64 N, .slice A n cap], .int .i64 0, .int .i64 1]) ∧ Below w.heap.size w w' := by
  have HC := Lib.hid (fun w => rclass_err size h w)
  clear h
  obtain ⟨g1, hg1⟩ : ∃ g1, g1 = w.heap.size := ⟨_, rfl⟩
  obtain ⟨g2, hg2⟩ : ∃ g2, g2 = g1 + 1 := ⟨_, rfl⟩
  go_enter Tryd.func38, Tryd.ntmps38
  go_wp2_with fail
  obtain ⟨W0, hW0⟩ : ∃ W0, W0 = (w.alloc (Obj.cells #[Value.int IntKind.i64 N, Value.slice A n cap] 57)).alloc (Obj.cells #[Value.int IntKind.i64 0, Value.slice none 0 0] 57) := ⟨_, rfl⟩
  rw [← hW0]
  have HS0 : Hid (SA w N (.slice A n cap) g1 g2 W0) := by
    refine ⟨?_, ?_, ?_⟩
    · rw [hW0]; exact ((Below.refl _ _).alloc (Nat.le_refl _) _).alloc (by simp) _
    · rw [hW0, Below.heap_alloc _ _ _ (by simp; omega), hg1]; exact (MapKept.heap_alloc _ _).1
    · rw [hW0, hg2, hg1]; simpa using (MapKept.heap_alloc (w.alloc (Obj.cells #[Value.int IntKind.i64 N, Value.slice A n cap] 57)) (Obj.cells #[Value.int IntKind.i64 0, Value.slice none 0 0] 57)).1
  rw [← hg1, ← hg2]
  have HG2 : Hid (w.heap.size ≤ g2) := by show _ ≤ _; omega
  clear hW0 hg1 hg2
  refine (HC.out _).mono ?_
  rintro e w1 ⟨rfl, rfl⟩
  have c0 : W0.cell? ⟨g2, 0, none⟩ = some (.int .i64 0) := cell_blk HS0.out.b2 0
  have c1 : W0.cell? ⟨g2, 1, none⟩ = some (.slice none 0 0) := cell_blk HS0.out.b2 1
  have f0 : W0.frozen? ⟨g2, 0, none⟩ = false := frozen_blk HS0.out.b2 0
  have f1 : W0.frozen? ⟨g2, 1, none⟩ = false := frozen_blk HS0.out.b2 1
  have p0 : W0.cell? ⟨g1, 0, none⟩ = some (.int .i64 N) := cell_blk HS0.out.b1 0
  have p1 : W0.cell? ⟨g1, 1, none⟩ = some (.slice A n cap) := cell_blk HS0.out.b1 1
  have v0 : ((W0.setCell ⟨g2, 0, none⟩ (.int .i64 N)).setCell ⟨g2, 1, none⟩ (.slice A n cap)).cell? ⟨g2, 0, none⟩ = some (.int .i64 N) := by
    rw [cell_blk (blk_set (blk_set HS0.out.b2 0 _) 1 _)]; rfl
  have v1 : ((W0.setCell ⟨g2, 0, none⟩ (.int .i64 N)).setCell ⟨g2, 1, none⟩ (.slice A n cap)).cell? ⟨g2, 1, none⟩ = some (.slice A n cap) := by
    rw [cell_blk (blk_set (blk_set HS0.out.b2 0 _) 1 _)]; rfl
  go_wp2_with fail
  exact bodyPost_ret (v := .tuple #[.agg #[.int .i64 N, .slice A n cap], .int .i64 0, .int .i64 1]) (by simp [results, Tryd.results38, go_sem, v0, v1]) rfl ⟨rfl, (HS0.out.below.setCell HG2.out _).setCell HG2.out _⟩
end Go.Proofs.YtdgfnlagbdmniaaDoor.Pl
