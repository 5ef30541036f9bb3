/- The pool: its iterator. -/
import Derived.Test.YtdgfnlagbdmniaaDoorPr
namespace Go.Proofs.YtdgfnlagbdmniaaDoor.Pl
open Go.RowKit
attribute [local go_sem] Oper.semAt_some

def slotsOf (c : Chunk) (n : Nat) : List Nat := (List.range n).filter fun s => c.taken.testBit s
def placesOf (c : Chunk) (i : Nat) : List (Nat × Nat) :=
  if c.what = 2 then [(i, 0)] else if c.what = 1 then (slotsOf c (32 / 2 ^ c.cls)).map fun s => (i, s) else []
def placesTo (cs : List Chunk) (i : Nat) : List (Nat × Nat) := (List.range i).flatMap fun j => placesOf (cs.getD j Chunk.zero) j
def places (cs : List Chunk) : List (Nat × Nat) := placesTo cs cs.length

def itemAt (cs : List Chunk) (k : Nat) : Array Value :=
  match (places cs)[k]? with
  | some p => #[.agg #[.int .i64 p.1, .int .i64 p.2], (objOf (cs.getD p.1 Chunk.zero) p.1 p.2).val]
  | none => #[.agg #[.int .i64 0, .int .i64 0], .agg #[.int .i64 0, .int .i64 0, .int .i64 0, .bool false]]

/-- What is right of a chunk for its objects to be read. -/
structure Rd (c : Chunk) : Prop where
  cls : c.cls ≤ 4
  marks : c.marks < 4294967296
  many : c.many ≤ 256
  taken : c.taken < 4294967296

/-- The chunks may have lost marks of objects that have come; nothing else. -/
structure Like (cs cs' : List Chunk) (k : Nat) : Prop where
  len : cs'.length = cs.length
  rd : ∀ c ∈ cs', Rd c
  what : ∀ i, (cs'.getD i Chunk.zero).what = (cs.getD i Chunk.zero).what
  cls : ∀ i, (cs'.getD i Chunk.zero).cls = (cs.getD i Chunk.zero).cls
  taken : ∀ i, (cs'.getD i Chunk.zero).taken = (cs.getD i Chunk.zero).taken
  obj : ∀ j p, k ≤ j → (places cs)[j]? = some p → objOf (cs'.getD p.1 Chunk.zero) p.1 p.2 = objOf (cs.getD p.1 Chunk.zero) p.1 p.2

def PoolIt (cs : List Chunk) (a b Bn : Nat) (k : Nat) (W : World) : Prop :=
  W.cell? ⟨Bn, 0, none⟩ = some (.pointer (some ⟨a, 0, none⟩)) ∧ ∃ cs', At W a b cs' ∧ Like cs cs' k

theorem placesTo_succ (cs : List Chunk) (i : Nat) : placesTo cs (i + 1) = placesTo cs i ++ placesOf (cs.getD i Chunk.zero) i := by
  simp [placesTo, List.range_succ]
theorem placesTo_pre (cs : List Chunk) (i d : Nat) : ∃ t, placesTo cs (i + d) = placesTo cs i ++ t := by
  induction d with
  | zero => exact ⟨[], by simp⟩
  | succ d ih =>
    obtain ⟨t, ht⟩ := ih
    exact ⟨t ++ placesOf (cs.getD (i + d) Chunk.zero) (i + d), by rw [← Nat.add_assoc, placesTo_succ, ht, List.append_assoc]⟩
theorem places_get (cs : List Chunk) (i j : Nat) (hi : i < cs.length) (p : Nat × Nat) (hj : (placesOf (cs.getD i Chunk.zero) i)[j]? = some p) :
    (places cs)[(placesTo cs i).length + j]? = some p := by
  have hlt := (List.getElem?_eq_some_iff.1 hj).1
  obtain ⟨t, ht⟩ := placesTo_pre cs (i + 1) (cs.length - (i + 1))
  rw [show i + 1 + (cs.length - (i + 1)) = cs.length by omega] at ht
  unfold places
  rw [ht, placesTo_succ, List.append_assoc, List.getElem?_append_right (by omega), Nat.add_sub_cancel_left, List.getElem?_append_left hlt]
  exact hj
theorem placesTo_le (cs : List Chunk) (i : Nat) (hi : i ≤ cs.length) : (placesTo cs i).length ≤ (places cs).length := by
  obtain ⟨t, ht⟩ := placesTo_pre cs i (cs.length - i)
  rw [show i + (cs.length - i) = cs.length by omega] at ht
  unfold places
  rw [ht]; simp
theorem placesOf_like {cs cs' : List Chunk} {k i : Nat} {c : Chunk} (h : Like cs cs' k) (hc : cs'[i]? = some c) : placesOf (cs.getD i Chunk.zero) i = placesOf c i := by
  have e : cs'.getD i Chunk.zero = c := by simp [List.getD, hc]
  have h1 := h.what i; have h2 := h.cls i; have h3 := h.taken i
  rw [e] at h1 h2 h3
  simp only [placesOf, slotsOf, h1, h2, h3]
theorem item_like {cs cs' : List Chunk} {k i s j : Nat} {c : Chunk} (h : Like cs cs' k) (hi : i < cs.length) (hc : cs'[i]? = some c) (hj : (placesOf c i)[j]? = some (i, s)) (hk : k ≤ (placesTo cs i).length + j) :
    itemAt cs ((placesTo cs i).length + j) = #[.agg #[.int .i64 i, .int .i64 s], (objOf c i s).val] ∧ (placesTo cs i).length + j < (places cs).length := by
  have e : cs'.getD i Chunk.zero = c := by simp [List.getD, hc]
  have hp := places_get cs i j hi (i, s) (by rw [placesOf_like h hc]; exact hj)
  refine ⟨?_, (List.getElem?_eq_some_iff.1 hp).1⟩
  have ho := h.obj _ _ hk hp
  simp only at ho
  unfold itemAt
  rw [hp]
  simp only
  rw [← ho, e]
theorem slotsOf_succ (c : Chunk) (n : Nat) : slotsOf c (n + 1) = slotsOf c n ++ if c.taken.testBit n then [n] else [] := by
  simp only [slotsOf, List.range_succ, List.filter_append]
  cases h : c.taken.testBit n <;> simp [h]
theorem slotsOf_pre (c : Chunk) (n d : Nat) : ∃ t, slotsOf c (n + d) = slotsOf c n ++ t := by
  induction d with
  | zero => exact ⟨[], by simp⟩
  | succ d ih =>
    obtain ⟨t, ht⟩ := ih
    exact ⟨t ++ (if c.taken.testBit (n + d) then [n + d] else []), by rw [← Nat.add_assoc, slotsOf_succ, ht, List.append_assoc]⟩
theorem slotsOf_get (c : Chunk) (n s : Nat) (hs : s < n) (hb : c.taken.testBit s = true) : (slotsOf c n)[(slotsOf c s).length]? = some s := by
  obtain ⟨t, ht⟩ := slotsOf_pre c (s + 1) (n - (s + 1))
  rw [show s + 1 + (n - (s + 1)) = n by omega] at ht
  rw [ht, slotsOf_succ, hb, List.append_assoc, List.getElem?_append_right (Nat.le_refl _)]
  simp

theorem Like.mono {cs cs' : List Chunk} {k k' : Nat} (h : Like cs cs' k) (hk : k ≤ k') : Like cs cs' k' := ⟨h.len, h.rd, h.what, h.cls, h.taken, fun j p hj hp => h.obj j p (by omega) hp⟩

set_option maxRecDepth 100000 in
set_option maxHeartbeats 1000000 in
theorem walk1_seq (cs : List Chunk) (a b Bn : Nat) :
    IdxSeq Tryd.prog 47 #[.pointer (some ⟨Bn, 0, none⟩)] (itemAt cs) (PoolIt cs a b Bn) (places cs).length := by
  intro l J W hP hB hY h0
  have HP := Lib.hid hP; clear hP
  have HB := Lib.hid hB; clear hB
  have HY := Lib.hid hY; clear hY
  obtain ⟨hbn, cs0, hA0, hL0⟩ := HP.out 0 W h0
  have hp := hA0.cell_p
  rw [hL0.len] at hp
  have hfew := hA0.few
  rw [hL0.len] at hfew
  clear hA0 hL0 cs0
  refine callsIn_of_wp Tryd.func47 rfl trivial ?_ rfl
  simp only [Tryd.ntmps47, List.size_toArray, List.length_cons, List.length_nil, Nat.reduceAdd, Nat.reduceSub, Array.replicate_succ, Array.replicate_zero, List.push_toArray, List.append_toArray, List.nil_append, List.cons_append]
  gi_wp2
  gi_loopw [11] (fun s wr => ∃ i : Nat, i ≤ cs.length ∧ s = .int .i64 i ∧ J (placesTo cs i).length wr) (fun s _ => cs.length - (intOf s).toNat)
  case atStart => exact ⟨0, by omega, rfl, h0⟩
  case round =>
    obtain ⟨i, hi, rfl, hj⟩ := hrel
    clear hbn hp
    obtain ⟨hbn, cs', hA, hL⟩ := HP.out _ _ hj
    have hp := hA.cell_p
    rw [hL.len] at hp
    have HL := Lib.hid hL; clear hL
    have HA := Lib.hid hA; clear hA
    have HJ := Lib.hid hj; clear hj
    by_cases hlt : i < cs.length
    · obtain ⟨c, hc⟩ : ∃ c, cs'[i]? = some c := ⟨cs'[i]'(by rw [HL.out.len]; exact hlt), by simp⟩
      have c0 := HA.out.what hc
      have c1 := HA.out.cls hc
      have HC := Lib.hid hc; clear hc
      have hrd := HL.out.rd c (List.mem_of_getElem? HC.out)
      have HPO := Lib.hid (placesOf_like HL.out HC.out)
      have HRD := Lib.hid hrd; clear hrd
      by_cases h2 : c.what = 2
      · have e2 : ((c.what : Int) == 2) = true := by simp; omega
        have e1 : ((c.what : Int) != 1) = true := by simp; omega
        have HPL : Hid (placesOf c i = [(i, 0)]) := by show _ = _; simp [placesOf, h2]
        have hit := item_like (s := 0) (j := 0) HL.out hlt HC.out (by rw [HPL.out]; rfl) (by omega)
        rw [Nat.add_zero] at hit
        have HIT := Lib.hid hit; clear hit
        have HNX : Hid ((placesTo cs (i + 1)).length = (placesTo cs i).length + 1) := by show _ = _; rw [placesTo_succ, HPO.out, HPL.out]; simp
        clear h2
        gi_wp2_with fail
        refine ⟨trivial, rfl, ?_⟩
        refine (callsIn_wide.2 (object_at HA.out i 0 c HC.out HRD.out.cls (by decide) HRD.out.marks HRD.out.many)).mono ?_
        rintro e w1 ⟨rfl, hb1⟩
        have HJ1 := Lib.hid (HB.out _ _ _ HJ.out hb1)
        have HB1 := Lib.hid hb1; clear hb1
        obtain ⟨fn, tmps, assign, body, hy, hR⟩ := HY.out _ _ HJ1.out HIT.out.2
        rw [HIT.out.1, show ((0 : Nat) : Int) = 0 from rfl] at hy
        have HR := Lib.hid hR; clear hR
        clear hp hbn c0 c1
        generalize (objOf c i 0).val = vobj at *
        gi_wp2_with fail
        refine ⟨rfl, ?_⟩
        refine HR.out.mono ?_
        rintro e w2 ⟨rfl, hj2⟩
        obtain ⟨hbn2, cs2, hA2, hL2⟩ := HP.out _ _ hj2
        have hp2 := hA2.cell_p
        have c0 := hA2.what (i := i) (c := cs2[i]'(by rw [hL2.len]; exact hlt)) (by simp)
        have ew : (cs2[i]'(by rw [hL2.len]; exact hlt)).what = c.what := by
          have a1 := hL2.what i
          have a2 := HL.out.what i
          rw [show cs2.getD i Chunk.zero = cs2[i]'(by rw [hL2.len]; exact hlt) by simp [List.getD, hL2.len, hlt]] at a1
          rw [show cs'.getD i Chunk.zero = c by simp [List.getD, HC.out]] at a2
          rw [a1, ← a2]
        rw [ew] at c0
        clear ew hA2 hL2 hp2
        have HJ2 := Lib.hid hj2; clear hj2
        gi_wp2
        go_roundw
        case rel => exact ⟨i + 1, by omega, by go_num, by rw [HNX.out]; exact HJ2.out⟩
        case measure => simp [intOf]; omega
      · have e2 : ((c.what : Int) == 2) = false := by simp; omega
        by_cases h1 : c.what = 1
        · have e1 : ((c.what : Int) != 1) = false := by simp; omega
          gi_wp2_with fail
          refine ⟨trivial, ?_⟩
          gi_wp2_with fail
          refine ⟨fun _ h => (by cases h), ?_⟩
          gi_wp2_with fail
          obtain ⟨M, hM⟩ : ∃ M : Nat, M = 32 / 2 ^ c.cls := ⟨_, rfl⟩
          have hM32 : M ≤ 32 := by rw [hM]; exact Nat.div_le_self _ _
          have hsh : (32 : Int) / 2 ^ min c.cls 64 = (M : Int) := by rw [Nat.min_eq_left (by have := HRD.out.cls; omega), hM]; simp
          rw [hsh]
          have HM := Lib.hid hM; clear hM hsh
          have H1 := Lib.hid h1
          have HTK : Hid (∀ cs2 k c2, Like cs cs2 k → cs2[i]? = some c2 → c2.taken = c.taken ∧ placesOf c2 i = (slotsOf c2 M).map (fun s => (i, s)) ∧ slotsOf c2 = slotsOf c) := by
            intro cs2 k c2 h hc2
            have a1 := h.taken i
            have a2 := HL.out.taken i
            have b1 := h.what i
            have b2 := HL.out.what i
            have d1 := h.cls i
            have d2 := HL.out.cls i
            rw [show cs2.getD i Chunk.zero = c2 by simp [List.getD, hc2]] at a1 b1 d1
            rw [show cs'.getD i Chunk.zero = c by simp [List.getD, HC.out]] at a2 b2 d2
            have et : c2.taken = c.taken := a1.trans a2.symm
            have ew : c2.what = 1 := (b1.trans b2.symm).trans H1.out
            have ec : c2.cls = c.cls := d1.trans d2.symm
            refine ⟨et, ?_, ?_⟩
            · simp [placesOf, ew, ec, HM.out]
            · funext n; simp [slotsOf, et]
          have HNX : Hid ((placesTo cs (i + 1)).length = (placesTo cs i).length + (slotsOf c M).length) := by
            show _ = _; rw [placesTo_succ, HPO.out, (HTK.out cs' _ c HL.out HC.out).2.1]; simp
          clear h1 h2 c0 c1 e1 e2 hbn hp
          gi_loopw [46] (fun s wi => ∃ n : Nat, n ≤ M ∧ s = .int .i64 n ∧ J ((placesTo cs i).length + (slotsOf c n).length) wi) (fun s _ => M - (intOf s).toNat)
          case atStart => exact ⟨0, by omega, rfl, HJ.out⟩
          case round =>
            obtain ⟨n, hn, rfl, hj⟩ := hrel
            obtain ⟨hbn, cs2, hA, hL⟩ := HP.out _ _ hj
            have hp := hA.cell_p
            rw [hL.len] at hp
            obtain ⟨c2, hc2⟩ : ∃ c2, cs2[i]? = some c2 := ⟨cs2[i]'(by rw [hL.len]; exact hlt), by simp⟩
            have HRD2 := Lib.hid (hL.rd c2 (List.mem_of_getElem? hc2))
            obtain ⟨htk, hpl, hsl⟩ := HTK.out _ _ _ hL hc2
            have ct := hA.taken hc2
            rw [htk] at ct
            have hbt := bit_test c.taken n (by rw [← htk]; exact HRD2.out.taken)
            have HTKN := Lib.hid htk; clear htk
            have HPL := Lib.hid hpl; clear hpl
            have HSL := Lib.hid hsl; clear hsl
            have HL2 := Lib.hid hL; clear hL
            have HA2 := Lib.hid hA; clear hA
            have HJI := Lib.hid hj; clear hj
            have HC2 := Lib.hid hc2; clear hc2
            have hsuc := slotsOf_succ c n
            by_cases hnM : n < M
            · cases hb : c.taken.testBit n with
              | false =>
                rw [hb] at hbt hsuc
                have HS : Hid ((slotsOf c (n + 1)).length = (slotsOf c n).length) := by show _ = _; rw [hsuc]; simp
                clear hsuc hb
                gi_wp2_with fail
                refine ⟨trivial, ?_⟩
                gi_wp2_with fail
                refine ⟨fun _ h => (by cases h), ?_⟩
                gi_wp2
                go_roundw
                case rel => exact ⟨n + 1, by omega, by go_num, by rw [HS.out]; exact HJI.out⟩
                case measure => simp [intOf]; omega
              | true =>
                rw [hb] at hbt hsuc
                have HS : Hid ((slotsOf c (n + 1)).length = (slotsOf c n).length + 1) := by show _ = _; rw [hsuc]; simp
                have hit := item_like (s := n) (j := (slotsOf c n).length) HL2.out hlt HC2.out (by
                  rw [HPL.out, List.getElem?_map, HSL.out, slotsOf_get c M n hnM hb]; rfl) (Nat.le_refl _)
                have HIT := Lib.hid hit; clear hit
                clear hsuc hb
                gi_wp2_with fail
                refine ⟨trivial, rfl, ?_⟩
                refine (callsIn_wide.2 (object_at HA2.out i n c2 HC2.out HRD2.out.cls (by omega) HRD2.out.marks HRD2.out.many)).mono ?_
                rintro e w1 ⟨rfl, hb1⟩
                have HJ1 := Lib.hid (HB.out _ _ _ HJI.out hb1)
                clear hb1
                obtain ⟨fn, tmps, assign, body, hy, hR⟩ := HY.out _ _ HJ1.out HIT.out.2
                rw [HIT.out.1] at hy
                have HR := Lib.hid hR; clear hR
                clear hp hbn ct
                generalize (objOf c2 i n).val = vobj at *
                gi_wp2_with fail
                refine ⟨rfl, ?_⟩
                refine HR.out.mono ?_
                rintro e w2 ⟨rfl, hj2⟩
                have HJ2 := Lib.hid hj2; clear hj2
                gi_wp2
                go_roundw
                case rel => exact ⟨n + 1, by omega, by go_num, by rw [HS.out, ← Nat.add_assoc]; exact HJ2.out⟩
                case measure => simp [intOf]; omega
            · obtain rfl : n = M := by omega
              gi_wp2
              go_roundw
              case rel => exact ⟨i + 1, by omega, by go_num, by rw [HNX.out]; exact HJI.out⟩
              case measure => simp [intOf]; omega
        · have e1 : ((c.what : Int) != 1) = true := by simp; omega
          have HNX : Hid ((placesTo cs (i + 1)).length = (placesTo cs i).length) := by show _ = _; rw [placesTo_succ, HPO.out]; simp [placesOf, h1, h2]
          clear h1 h2
          gi_wp2_with fail
          refine ⟨trivial, ?_⟩
          gi_wp2_with fail
          refine ⟨fun _ h => (by cases h), ?_⟩
          gi_wp2
          go_roundw
          case rel => exact ⟨i + 1, by omega, by go_num, by rw [HNX.out]; exact HJ.out⟩
          case measure => simp [intOf]; omega
    · obtain rfl : i = cs.length := by omega
      gi_wp2
      go_end0
      exact ⟨⟨_, rfl⟩, HJ.out⟩
end Go.Proofs.YtdgfnlagbdmniaaDoor.Pl
