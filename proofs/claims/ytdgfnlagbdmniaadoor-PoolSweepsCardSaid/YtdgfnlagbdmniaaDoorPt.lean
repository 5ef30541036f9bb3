/- PoolRooms: the walk of the law. -/
import Derived.Test.YtdgfnlagbdmniaaDoorPs
namespace Go.Proofs.YtdgfnlagbdmniaaDoor.Pl
open Go.RowKit

theorem segObjs_len (c : Chunk) (i : Nat) : (segObjs c i).length ≤ 32 := by
  rw [segObjs, List.length_map, placesOf]
  split
  · simp
  · split
    · rw [List.length_map, slotsOf]
      refine Nat.le_trans (List.length_filter_le _ _) ?_
      rw [List.length_range]; exact Nat.div_le_self _ _
    · simp
theorem objsL_len (cs : List Chunk) : ∀ i, (objsL i cs).length ≤ 32 * cs.length := by
  induction cs with
  | nil => intro i; simp [objsL]
  | cons c cs ih => intro i; have := segObjs_len c i; have := ih (i + 1); simp [objsL]; omega
theorem roomOf_le (n : Int) (h : n ≤ 262144) : roomOf n ≤ 1000000 := by
  unfold roomOf
  split
  · rename_i hc
    have : 2 ^ cls n ≤ 2 ^ 4 := Nat.pow_le_pow_right (by decide) (by omega)
    omega
  · omega
theorem Good.small {cs : List Chunk} (h : Good cs) (hl : cs.length ≤ 256) : Small (objs cs) := by
  have h1 := objsL_len cs 0
  have h2 := (good_objs h 0).1
  rw [← objs_eq] at h1 h2
  refine ⟨by omega, fun o ho => ?_⟩
  obtain ⟨_, _, a, b, c, d⟩ := h2 o ho
  exact ⟨by omega, Int.le_trans b (by decide), by rw [d]; exact roomOf_le _ b⟩

theorem mapStr_size (cs : List Chunk) : (mapStr cs).size = cs.length := by simp [mapStr, ByteArray.size]
theorem mapStr_get (cs : List Chunk) (hw : ∀ c ∈ cs, c.what ≤ 3 ∧ c.cls ≤ 4) (p : Nat) (h : p < (mapStr cs).size) (c : Chunk) (hc : cs[p]? = some c) : ((mapStr cs)[p]'h).toNat = ch c ∧ ch c < 128 ∧ (ch c = 46 ↔ c.what = 0) := by
  obtain ⟨h1, h2⟩ := hw c (List.mem_of_getElem? hc)
  have hch : ch c < 128 ∧ (ch c = 46 ↔ c.what = 0) := by
    unfold ch
    split
    · exact ⟨by omega, by omega⟩
    · split
      · exact ⟨by omega, by omega⟩
      · split
        · exact ⟨by omega, by omega⟩
        · exact ⟨by omega, by omega⟩
  refine ⟨?_, hch⟩
  have hp : p < cs.length := (List.getElem?_eq_some_iff.1 hc).1
  have e : (mapStr cs)[p]'h = UInt8.ofNat (ch c) := by
    have e2 : (mapStr cs).data[p]? = some (UInt8.ofNat (ch c)) := by simp [mapStr, hc]
    exact (Array.getElem?_eq_some_iff.1 e2).2
  rw [e]
  rw [UInt8.toNat_ofNat']
  omega
theorem nf_snoc (cs : List Chunk) (p : Nat) (c : Chunk) (h : cs[p]? = some c) : nf (cs.take (p + 1)) = nf (cs.take p) + if c.what = 0 then 0 else 1 := by
  rw [List.take_add_one, h, nf_append]
  congr 1
  by_cases e : c.what = 0 <;> simp [nf, e]

set_option maxRecDepth 100000 in
set_option maxHeartbeats 2000000 in
theorem rooms_walk (x y : Int) (hx0 : 0 ≤ x) (hx : x ≤ 65535) (hy0 : 0 ≤ y) (hy : y ≤ 255) (w : World) (hT : Tab w) :
    Calls Tryd.prog 3 #[.int .u16 x, .int .u8 y] w fun e w' => e = .returned (.bool true) ∧ Below w.heap.size w w' := by
  obtain ⟨n, hn⟩ : ∃ n : Int, n = x % 2000 + 1 := ⟨_, rfl⟩
  obtain ⟨k, hk⟩ : ∃ k : Nat, (k : Int) = y % 60 := ⟨(y % 60).toNat, by omega⟩
  have hn1 : 1 ≤ n := by omega
  have hn2 : n ≤ 2000 := by omega
  have hk2 : k < 60 := by omega
  have HN := Lib.hid hn; clear hn
  have HK := Lib.hid hk; clear hk
  have HT := Lib.hid hT; clear hT
  go_enter Tryd.func3, Tryd.ntmps3
  go_wp2_with fail
  refine (awake_at _ HT.out).mono ?_
  rintro e w1 ⟨rfl, hb1⟩
  have HB1 := Lib.hid hb1; clear hb1
  have HT1 := Lib.hid (HT.out.below HB1.out HT.out.lt)
  go_wp2_with fail
  rw [← HN.out, ← HK.out]
  refine (new_ok 200 (by decide) (by decide) _).mono ?_
  rintro e w2 ⟨a, b, rfl, ha, hb, hA, hg⟩
  have HB2 : Hid (Below w.heap.size w w2) := HB1.out.trans ((fr_below (fr_none hg (some b)) hb (Nat.le_refl _)).mono HB1.out.size)
  have HT2 := Lib.hid (HT.out.below HB2.out HT.out.lt)
  have HBL : Hid (w.heap.size ≤ b) := Nat.le_trans HB1.out.size hb
  have HBP : Hid (0 < b) := Nat.lt_of_lt_of_le HT.out.lt HBL.out
  have HA2 := Lib.hid hA; clear hA hg ha hb
  go_wp2_with fail
  go_loopw [34] (fun s wr => ∃ (j : Nat) (cs : List Chunk), j ≤ k ∧ s = .int .i64 j ∧ At wr a b cs ∧ Rooms n j cs ∧ Tab wr ∧ Below w.heap.size w wr) (fun s _ => k - (intOf s).toNat)
  case atStart => exact ⟨0, _, by omega, rfl, HA2.out, Rooms.zero n, HT2.out, HB2.out⟩
  case round =>
    obtain ⟨j, cs, hj, rfl, hA, hR, hT, hB⟩ := hrel
    have HA := Lib.hid hA; clear hA
    have HR := Lib.hid hR; clear hR
    have HTr := Lib.hid hT; clear hT
    have HBr := Lib.hid hB; clear hB
    by_cases hlt : j < k
    · go_wp2_with fail
      refine (alloc_at HA.out HR.out.good.wf HTr.out HBP.out n).mono ?_
      rintro e w3 hP
      have hP' := alloc_fn hn1 (by omega) hP
      obtain ⟨cs', y', hal, hR'⟩ := HR.out.step hn1 hn2 (by omega)
      rw [hal] at hP'
      obtain ⟨rfl, hA', hg'⟩ := hP'
      have HA' := Lib.hid hA'; clear hA'
      have HR' := Lib.hid hR'; clear hR'
      have HT' := Lib.hid (HTr.out.grown hg' HBP.out)
      have HB' : Hid (Below w.heap.size w w3) := HBr.out.trans (fr_below hg' HBL.out HBr.out.size)
      clear hP hal hg'
      go_wp2
      go_roundw
      case rel => exact ⟨j + 1, cs', by omega, by go_num, HA'.out, HR'.out, HT'.out, HB'.out⟩
      case measure => simp [intOf]; omega
    · obtain rfl : j = k := by omega
      have HUS := Lib.hid (used_at HA.out HR.out.good.rd (HR.out.good.small (by rw [HR.out.len]; decide)))
      rw [HR.out.count, HR.out.size] at HUS
      have HSR := Lib.hid HR.out.room
      generalize sumRoom (objs cs) = SR at *
      have q0 : 0 ≤ (j : Int) * n := Int.mul_nonneg (by omega) (by omega)
      have q1 : (j : Int) * n ≤ 118000 := by
        have h1 : (j : Int) * n ≤ 59 * n := Int.mul_le_mul_of_nonneg_right (by omega) (by omega)
        omega
      go_wp2_with fail
      refine HUS.out.mono ?_
      rintro e w3 ⟨rfl, hb3⟩
      have HA3 := Lib.hid (HA.out.below hb3 HA.out.lt_a HA.out.lt_b)
      have HB3 : Hid (Below w.heap.size w w3) := HBr.out.trans (hb3.mono HBr.out.size)
      clear hb3 HUS
      go_wp2_with fail
      refine (map_walk HA3.out HR.out.good.what).mono ?_
      rintro e w4 ⟨rfl, hb4⟩
      have HB4 : Hid (Below w.heap.size w w4) := HB3.out.trans (hb4.mono HB3.out.size)
      clear hb4
      have HMS := Lib.hid (mapStr_size cs)
      have HMG := Lib.hid (mapStr_get cs HR.out.good.what)
      have HNF := Lib.hid (nf_snoc cs)
      generalize mapStr cs = S at *
      go_wp2_with fail
      go_loopw [14] (fun s wr => ∃ p : Nat, p ≤ 200 ∧ wr = w4.iter S p ∧ s = .int .i64 (nf (cs.take p))) (fun _ wr => 200 - wr.iterPos w4.heap.size)
      case atStart => exact ⟨0, by omega, rfl, rfl⟩
      case round =>
        obtain ⟨p, hp, rfl, rfl⟩ := hrel
        by_cases hps : p < 200
        · obtain ⟨c, hc⟩ : ∃ c, cs[p]? = some c := ⟨cs[p]'(by rw [HR.out.len]; exact hps), by simp⟩
          have hsz : p < S.size := by rw [HMS.out, HR.out.len]; exact hps
          obtain ⟨g1, g2, g3⟩ := HMG.out p hsz c hc
          have hnx : ∀ ty, (Instr.next (.pointer (some ⟨w4.heap.size, 0, none⟩)) true ty).run Tryd.prog (w4.iter S p) = _ := fun ty => run_next_ascii w4 S p ty hsz (by rw [g1]; exact g2)
          rw [g1] at hnx
          have hnf := HNF.out p c hc
          have hnb : nf (cs.take p) ≤ 200 := by
            refine Nat.le_trans (List.length_filter_le _ _) ?_
            simp; omega
          by_cases h0 : c.what = 0
          · rw [if_pos h0] at hnf
            have HF := Lib.hid hnf; clear hnf
            have e : (((ch c : Nat) : Int) != 46) = false := by have := g3.2 h0; simp; omega
            clear hc g1 g2 g3 h0
            generalize nf (cs.take p) = NP at *
            go_wp2
            go_roundw
            case rel => exact ⟨p + 1, by omega, rfl, by rw [HF.out]; rfl⟩
            case measure => simp; omega
          · rw [if_neg h0] at hnf
            have HF := Lib.hid hnf; clear hnf
            have e : (((ch c : Nat) : Int) != 46) = true := by have := fun h => h0 (g3.1 h); simp; omega
            clear hc g1 g2 g3 h0
            generalize nf (cs.take p) = NP at *
            go_wp2
            go_roundw
            case rel => exact ⟨p + 1, by omega, rfl, by rw [HF.out]; go_num⟩
            case measure => simp; omega
        · obtain rfl : p = 200 := by omega
          have hnx : ∀ ty, (Instr.next (.pointer (some ⟨w4.heap.size, 0, none⟩)) true ty).run Tryd.prog (w4.iter S 200) = _ := fun ty => run_next_end w4 S 200 ty (by rw [HMS.out, HR.out.len]; omega)
          rw [List.take_of_length_le (by rw [HR.out.len]; exact Nat.le_refl _)]
          have HNS := Lib.hid (fun h4 => nf_shapeS (cs := cs) h4 (HR.out.small h4))
          have HNL := Lib.hid (fun h5 => nf_shapeL (cs := cs) (HR.out.large h5))
          generalize nf cs = NF at *
          go_wp2_with fail
          have HB5 : Hid (Below w.heap.size w (w4.iter S 200)) := HB4.out.alloc HB4.out.size _
          generalize w4.iter S 200 = W5 at *
          go_loop [17] (fun s => ∃ t : Nat, t ≤ 4 ∧ t ≤ cls n ∧ s = .int .i64 ((32 * 2 ^ t : Nat) : Int)) (fun s => 1024 - (intOf s).toNat)
          case atStart => exact ⟨0, by omega, by omega, rfl⟩
          case round =>
            obtain ⟨t, ht4, htc, rfl⟩ := hrel
            have hst := cls_step n t (by omega) htc
            have hl5 := cls_le n
            clear hnx q0 q1
            by_cases hgo : t < 4 ∧ t < cls n
            · obtain ⟨h4, hc⟩ := hgo
              have hlt := hst.2 hc
              clear hst
              obtain rfl | rfl | rfl | rfl : t = 0 ∨ t = 1 ∨ t = 2 ∨ t = 3 := by omega
              all_goals
                simp at hlt
                go_wp2
                go_round
                case rel => exact ⟨_, by omega, hc, by go_num⟩
                case measure => simp [intOf]
            · have hmany : cls n = t ∨ (t = 4 ∧ cls n = 5) := by omega
              rcases hmany with hc | ⟨rfl, hc⟩
              · have hle : ¬ ((32 * 2 ^ t : Nat) : Int) < n := fun h => by have := hst.1 h; omega
                have h512 : n ≤ 512 := by
                  apply Int.le_of_not_gt
                  intro h
                  have := cls_five n h
                  omega
                have hro : roomOf n = 32 * 2 ^ t := by unfold roomOf; rw [if_pos (by omega), hc]
                have hlow : t = 0 ∨ ((32 * 2 ^ (t - 1) : Nat) : Int) < n := by
                  by_cases h0 : t = 0
                  · exact .inl h0
                  · exact .inr ((cls_step n (t - 1) (by omega) (by omega)).2 (by omega))
                have hnf := HNS.out (by omega)
                rw [hc] at hnf
                have hsr := HSR.out
                rw [hro] at hsr
                clear hst hgo hro hc htc hl5 HSR HNS HNL
                obtain rfl | rfl | rfl | rfl | rfl : t = 0 ∨ t = 1 ∨ t = 2 ∨ t = 3 ∨ t = 4 := by omega
                · simp at hle hnf hsr hlow
                  have e1 : ((NF : Int) == ((j : Int) + 32 - 1) / 32) = true := by simp; omega
                  have e2 : decide (n ≤ 32) = true := decide_eq_true (by omega)
                  clear hnf hlow
                  subst hsr
                  go_wp2_with fail
                  go_quiet (fail)
                  go_wp2_with fail
                  go_ret
                  exact ⟨rfl, HB5.out.trans ⟨rfl, rfl, rfl, Nat.le_refl _, fun _ _ => rfl⟩⟩
                · simp at hle hnf hsr hlow
                  have e1 : ((NF : Int) == ((j : Int) + 16 - 1) / 16) = true := by simp; omega
                  have e2 : decide (n ≤ 32) = false := decide_eq_false (by omega)
                  have e3 : decide (64 < 2 * n) = true := decide_eq_true (by omega)
                  clear hnf hlow
                  subst hsr
                  go_wp2_with fail
                  go_quiet (fail)
                  go_wp2_with fail
                  go_ret
                  exact ⟨rfl, HB5.out.trans ⟨rfl, rfl, rfl, Nat.le_refl _, fun _ _ => rfl⟩⟩
                · simp at hle hnf hsr hlow
                  have e1 : ((NF : Int) == ((j : Int) + 8 - 1) / 8) = true := by simp; omega
                  have e2 : decide (n ≤ 32) = false := decide_eq_false (by omega)
                  have e3 : decide (128 < 2 * n) = true := decide_eq_true (by omega)
                  clear hnf hlow
                  subst hsr
                  go_wp2_with fail
                  go_quiet (fail)
                  go_wp2_with fail
                  go_ret
                  exact ⟨rfl, HB5.out.trans ⟨rfl, rfl, rfl, Nat.le_refl _, fun _ _ => rfl⟩⟩
                · simp at hle hnf hsr hlow
                  have e1 : ((NF : Int) == ((j : Int) + 4 - 1) / 4) = true := by simp; omega
                  have e2 : decide (n ≤ 32) = false := decide_eq_false (by omega)
                  have e3 : decide (256 < 2 * n) = true := decide_eq_true (by omega)
                  clear hnf hlow
                  subst hsr
                  go_wp2_with fail
                  go_quiet (fail)
                  go_wp2_with fail
                  go_ret
                  exact ⟨rfl, HB5.out.trans ⟨rfl, rfl, rfl, Nat.le_refl _, fun _ _ => rfl⟩⟩
                · simp at hle hnf hsr hlow
                  have e1 : ((NF : Int) == ((j : Int) + 2 - 1) / 2) = true := by simp; omega
                  have e2 : decide (n ≤ 32) = false := decide_eq_false (by omega)
                  have e3 : decide (512 < 2 * n) = true := decide_eq_true (by omega)
                  clear hnf hlow
                  subst hsr
                  go_wp2_with fail
                  go_quiet (fail)
                  go_wp2_with fail
                  go_ret
                  exact ⟨rfl, HB5.out.trans ⟨rfl, rfl, rfl, Nat.le_refl _, fun _ _ => rfl⟩⟩
              · have h512 : 512 < n := by
                  apply Int.lt_of_not_ge
                  intro h
                  have := cls_small n h
                  omega
                have hro : roomOf n = ((n + 1023) / 1024 * 1024).toNat := by unfold roomOf; rw [if_neg (by omega)]
                have hnf := HNL.out hc
                have hsr := HSR.out
                rw [hro] at hsr
                clear hst hgo hro hc htc hl5 HSR HNS HNL
                by_cases h1024 : n ≤ 1024
                · have hq : (n + 1023) / 1024 = 1 := by omega
                  rw [hq] at hnf hsr
                  simp at hnf hsr
                  subst hnf
                  subst hsr
                  have e1 : decide (1024 - n < 1024) = true := decide_eq_true (by omega)
                  go_wp2_with fail
                  go_ret
                  exact ⟨rfl, HB5.out⟩
                · have hq : (n + 1023) / 1024 = 2 := by omega
                  rw [hq] at hnf hsr
                  simp at hnf hsr
                  have e2 : ((NF : Int) == (j : Int) * 2048 / 1024) = true := by simp; omega
                  clear hnf
                  subst hsr
                  have e1 : decide (2048 - n < 1024) = true := decide_eq_true (by omega)
                  go_wp2_with fail
                  go_ret
                  exact ⟨rfl, HB5.out⟩

theorem u16_bd {x : Int} (h : (Lit.int .u16 x).wf = true) : 0 ≤ x ∧ x ≤ 65535 := by simpa [Lit.wf, IntKind.min, IntKind.max, IntKind.bits, IntKind.signed] using h
theorem u8_bd {x : Int} (h : (Lit.int .u8 x).wf = true) : 0 ≤ x ∧ x ≤ 255 := by simpa [Lit.wf, IntKind.min, IntKind.max, IntKind.bits, IntKind.signed] using h
theorem law_rooms (x y : Int) (hx : (Lit.int .u16 x).wf = true) (hy : (Lit.int .u8 y).wf = true) (w : World) (hT : Tab w) :
    Calls Tryd.prog 3 #[.int .u16 x, .int .u8 y] w fun e w' => e = .returned (.bool true) ∧ Below w.heap.size w w' :=
  rooms_walk x y (u16_bd hx).1 (u16_bd hx).2 (u8_bd hy).1 (u8_bd hy).2 w hT
end Go.Proofs.YtdgfnlagbdmniaaDoor.Pl
