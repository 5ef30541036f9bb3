/- The pool: its iterator. -/
/- The pool: its objects. -/
/- The pool: Used. -/
/- The pool, plainly: what its chunks are made of, and its objects in their order. -/
/- The pool, plainly: its objects lie apart; what an allocation does to them. -/
/- The pool, plainly: Alloc as a function; objects of one size in a new pool. -/
/- PoolRooms: the walk of the law. -/
import Derived.Test.YtdgfnlagbdmniaaDoorPr
namespace Go.Proofs.YtdgfnlagbdmniaaDoor.Pl
open Go.RowKit
attribute [local go_sem] Oper.semAt_some

def slotsOf (c : Chunk) (n : Nat) : List Nat := (List.range n).filter fun s => c.taken.testBit s
def placesOf (c : Chunk) (i : Nat) : List (Nat × Nat) :=
  if c.what = 2 then [(i, 0)] else if c.what = 1 then (slotsOf c (32 / 2 ^ c.cls)).map fun s => (i, s) else []
def placesTo (cs : List Chunk) (i : Nat) : List (Nat × Nat) := (List.range i).flatMap fun j => placesOf (cs.getD j Chunk.zero) j
def places (cs : List Chunk) : List (Nat × Nat) := placesTo cs cs.length

def itemAt (cs : List Chunk) (k : Nat) : Array Value :=
  match (places cs)[k]? with
  | some p => #[.agg #[.int .i64 p.1, .int .i64 p.2], (objOf (cs.getD p.1 Chunk.zero) p.1 p.2).val]
  | none => #[.agg #[.int .i64 0, .int .i64 0], .agg #[.int .i64 0, .int .i64 0, .int .i64 0, .bool false]]

/-- What is right of a chunk for its objects to be read. -/
structure Rd (c : Chunk) : Prop where
  cls : c.cls ≤ 4
  marks : c.marks < 4294967296
  many : c.many ≤ 256
  taken : c.taken < 4294967296

/-- The chunks may have lost marks of objects that have come; nothing else. -/
structure Like (cs cs' : List Chunk) (k : Nat) : Prop where
  len : cs'.length = cs.length
  rd : ∀ c ∈ cs', Rd c
  what : ∀ i, (cs'.getD i Chunk.zero).what = (cs.getD i Chunk.zero).what
  cls : ∀ i, (cs'.getD i Chunk.zero).cls = (cs.getD i Chunk.zero).cls
  taken : ∀ i, (cs'.getD i Chunk.zero).taken = (cs.getD i Chunk.zero).taken
  obj : ∀ j p, k ≤ j → (places cs)[j]? = some p → objOf (cs'.getD p.1 Chunk.zero) p.1 p.2 = objOf (cs.getD p.1 Chunk.zero) p.1 p.2

def PoolIt (cs : List Chunk) (a b Bn : Nat) (k : Nat) (W : World) : Prop :=
  W.cell? ⟨Bn, 0, none⟩ = some (.pointer (some ⟨a, 0, none⟩)) ∧ ∃ cs', At W a b cs' ∧ Like cs cs' k

theorem placesTo_succ (cs : List Chunk) (i : Nat) : placesTo cs (i + 1) = placesTo cs i ++ placesOf (cs.getD i Chunk.zero) i := by
  simp [placesTo, List.range_succ]
theorem placesTo_pre (cs : List Chunk) (i d : Nat) : ∃ t, placesTo cs (i + d) = placesTo cs i ++ t := by
  induction d with
  | zero => exact ⟨[], by simp⟩
  | succ d ih =>
    obtain ⟨t, ht⟩ := ih
    exact ⟨t ++ placesOf (cs.getD (i + d) Chunk.zero) (i + d), by rw [← Nat.add_assoc, placesTo_succ, ht, List.append_assoc]⟩
theorem places_get (cs : List Chunk) (i j : Nat) (hi : i < cs.length) (p : Nat × Nat) (hj : (placesOf (cs.getD i Chunk.zero) i)[j]? = some p) :
    (places cs)[(placesTo cs i).length + j]? = some p := by
  have hlt := (List.getElem?_eq_some_iff.1 hj).1
  obtain ⟨t, ht⟩ := placesTo_pre cs (i + 1) (cs.length - (i + 1))
  rw [show i + 1 + (cs.length - (i + 1)) = cs.length by omega] at ht
  unfold places
  rw [ht, placesTo_succ, List.append_assoc, List.getElem?_append_right (by omega), Nat.add_sub_cancel_left, List.getElem?_append_left hlt]
  exact hj
theorem placesTo_le (cs : List Chunk) (i : Nat) (hi : i ≤ cs.length) : (placesTo cs i).length ≤ (places cs).length := by
  obtain ⟨t, ht⟩ := placesTo_pre cs i (cs.length - i)
  rw [show i + (cs.length - i) = cs.length by omega] at ht
  unfold places
  rw [ht]; simp
theorem placesOf_like {cs cs' : List Chunk} {k i : Nat} {c : Chunk} (h : Like cs cs' k) (hc : cs'[i]? = some c) : placesOf (cs.getD i Chunk.zero) i = placesOf c i := by
  have e : cs'.getD i Chunk.zero = c := by simp [List.getD, hc]
  have h1 := h.what i; have h2 := h.cls i; have h3 := h.taken i
  rw [e] at h1 h2 h3
  simp only [placesOf, slotsOf, h1, h2, h3]
theorem item_like {cs cs' : List Chunk} {k i s j : Nat} {c : Chunk} (h : Like cs cs' k) (hi : i < cs.length) (hc : cs'[i]? = some c) (hj : (placesOf c i)[j]? = some (i, s)) (hk : k ≤ (placesTo cs i).length + j) :
    itemAt cs ((placesTo cs i).length + j) = #[.agg #[.int .i64 i, .int .i64 s], (objOf c i s).val] ∧ (placesTo cs i).length + j < (places cs).length := by
  have e : cs'.getD i Chunk.zero = c := by simp [List.getD, hc]
  have hp := places_get cs i j hi (i, s) (by rw [placesOf_like h hc]; exact hj)
  refine ⟨?_, (List.getElem?_eq_some_iff.1 hp).1⟩
  have ho := h.obj _ _ hk hp
  simp only at ho
  unfold itemAt
  rw [hp]
  simp only
  rw [← ho, e]
theorem slotsOf_succ (c : Chunk) (n : Nat) : slotsOf c (n + 1) = slotsOf c n ++ if c.taken.testBit n then [n] else [] := by
  simp only [slotsOf, List.range_succ, List.filter_append]
  cases h : c.taken.testBit n <;> simp [h]
theorem slotsOf_pre (c : Chunk) (n d : Nat) : ∃ t, slotsOf c (n + d) = slotsOf c n ++ t := by
  induction d with
  | zero => exact ⟨[], by simp⟩
  | succ d ih =>
    obtain ⟨t, ht⟩ := ih
    exact ⟨t ++ (if c.taken.testBit (n + d) then [n + d] else []), by rw [← Nat.add_assoc, slotsOf_succ, ht, List.append_assoc]⟩
theorem slotsOf_get (c : Chunk) (n s : Nat) (hs : s < n) (hb : c.taken.testBit s = true) : (slotsOf c n)[(slotsOf c s).length]? = some s := by
  obtain ⟨t, ht⟩ := slotsOf_pre c (s + 1) (n - (s + 1))
  rw [show s + 1 + (n - (s + 1)) = n by omega] at ht
  rw [ht, slotsOf_succ, hb, List.append_assoc, List.getElem?_append_right (Nat.le_refl _)]
  simp

theorem Like.mono {cs cs' : List Chunk} {k k' : Nat} (h : Like cs cs' k) (hk : k ≤ k') : Like cs cs' k' := ⟨h.len, h.rd, h.what, h.cls, h.taken, fun j p hj hp => h.obj j p (by omega) hp⟩

set_option maxRecDepth 100000 in
set_option maxHeartbeats 1000000 in
theorem walk1_seq (cs : List Chunk) (a b Bn : Nat) :
    IdxSeq Tryd.prog 47 #[.pointer (some ⟨Bn, 0, none⟩)] (itemAt cs) (PoolIt cs a b Bn) (places cs).length := by
  intro l J W hP hB hY h0
  have HP := Lib.hid hP; clear hP
  have HB := Lib.hid hB; clear hB
  have HY := Lib.hid hY; clear hY
  obtain ⟨hbn, cs0, hA0, hL0⟩ := HP.out 0 W h0
  have hp := hA0.cell_p
  rw [hL0.len] at hp
  have hfew := hA0.few
  rw [hL0.len] at hfew
  clear hA0 hL0 cs0
  refine callsIn_of_wp Tryd.func47 rfl trivial ?_ rfl
  simp only [Tryd.ntmps47, List.size_toArray, List.length_cons, List.length_nil, Nat.reduceAdd, Nat.reduceSub, Array.replicate_succ, Array.replicate_zero, List.push_toArray, List.append_toArray, List.nil_append, List.cons_append]
  gi_wp2
  gi_loopw [11] (fun s wr => ∃ i : Nat, i ≤ cs.length ∧ s = .int .i64 i ∧ J (placesTo cs i).length wr) (fun s _ => cs.length - (intOf s).toNat)
  case atStart => exact ⟨0, by omega, rfl, h0⟩
  case round =>
    obtain ⟨i, hi, rfl, hj⟩ := hrel
    clear hbn hp
    obtain ⟨hbn, cs', hA, hL⟩ := HP.out _ _ hj
    have hp := hA.cell_p
    rw [hL.len] at hp
    have HL := Lib.hid hL; clear hL
    have HA := Lib.hid hA; clear hA
    have HJ := Lib.hid hj; clear hj
    by_cases hlt : i < cs.length
    · obtain ⟨c, hc⟩ : ∃ c, cs'[i]? = some c := ⟨cs'[i]'(by rw [HL.out.len]; exact hlt), by simp⟩
      have c0 := HA.out.what hc
      have c1 := HA.out.cls hc
      have HC := Lib.hid hc; clear hc
      have hrd := HL.out.rd c (List.mem_of_getElem? HC.out)
      have HPO := Lib.hid (placesOf_like HL.out HC.out)
      have HRD := Lib.hid hrd; clear hrd
      by_cases h2 : c.what = 2
      · have e2 : ((c.what : Int) == 2) = true := by simp; omega
        have e1 : ((c.what : Int) != 1) = true := by simp; omega
        have HPL : Hid (placesOf c i = [(i, 0)]) := by show _ = _; simp [placesOf, h2]
        have hit := item_like (s := 0) (j := 0) HL.out hlt HC.out (by rw [HPL.out]; rfl) (by omega)
        rw [Nat.add_zero] at hit
        have HIT := Lib.hid hit; clear hit
        have HNX : Hid ((placesTo cs (i + 1)).length = (placesTo cs i).length + 1) := by show _ = _; rw [placesTo_succ, HPO.out, HPL.out]; simp
        clear h2
        gi_wp2_with fail
        refine ⟨trivial, rfl, ?_⟩
        refine (callsIn_wide.2 (object_at HA.out i 0 c HC.out HRD.out.cls (by decide) HRD.out.marks HRD.out.many)).mono ?_
        rintro e w1 ⟨rfl, hb1⟩
        have HJ1 := Lib.hid (HB.out _ _ _ HJ.out hb1)
        have HB1 := Lib.hid hb1; clear hb1
        obtain ⟨fn, tmps, assign, body, hy, hR⟩ := HY.out _ _ HJ1.out HIT.out.2
        rw [HIT.out.1, show ((0 : Nat) : Int) = 0 from rfl] at hy
        have HR := Lib.hid hR; clear hR
        clear hp hbn c0 c1
        generalize (objOf c i 0).val = vobj at *
        gi_wp2_with fail
        refine ⟨rfl, ?_⟩
        refine HR.out.mono ?_
        rintro e w2 ⟨rfl, hj2⟩
        obtain ⟨hbn2, cs2, hA2, hL2⟩ := HP.out _ _ hj2
        have hp2 := hA2.cell_p
        have c0 := hA2.what (i := i) (c := cs2[i]'(by rw [hL2.len]; exact hlt)) (by simp)
        have ew : (cs2[i]'(by rw [hL2.len]; exact hlt)).what = c.what := by
          have a1 := hL2.what i
          have a2 := HL.out.what i
          rw [show cs2.getD i Chunk.zero = cs2[i]'(by rw [hL2.len]; exact hlt) by simp [List.getD, hL2.len, hlt]] at a1
          rw [show cs'.getD i Chunk.zero = c by simp [List.getD, HC.out]] at a2
          rw [a1, ← a2]
        rw [ew] at c0
        clear ew hA2 hL2 hp2
        have HJ2 := Lib.hid hj2; clear hj2
        gi_wp2
        go_roundw
        case rel => exact ⟨i + 1, by omega, by go_num, by rw [HNX.out]; exact HJ2.out⟩
        case measure => simp [intOf]; omega
      · have e2 : ((c.what : Int) == 2) = false := by simp; omega
        by_cases h1 : c.what = 1
        · have e1 : ((c.what : Int) != 1) = false := by simp; omega
          gi_wp2_with fail
          refine ⟨trivial, ?_⟩
          gi_wp2_with fail
          refine ⟨fun _ h => (by cases h), ?_⟩
          gi_wp2_with fail
          obtain ⟨M, hM⟩ : ∃ M : Nat, M = 32 / 2 ^ c.cls := ⟨_, rfl⟩
          have hM32 : M ≤ 32 := by rw [hM]; exact Nat.div_le_self _ _
          have hsh : (32 : Int) / 2 ^ min c.cls 64 = (M : Int) := by rw [Nat.min_eq_left (by have := HRD.out.cls; omega), hM]; simp
          rw [hsh]
          have HM := Lib.hid hM; clear hM hsh
          have H1 := Lib.hid h1
          have HTK : Hid (∀ cs2 k c2, Like cs cs2 k → cs2[i]? = some c2 → c2.taken = c.taken ∧ placesOf c2 i = (slotsOf c2 M).map (fun s => (i, s)) ∧ slotsOf c2 = slotsOf c) := by
            intro cs2 k c2 h hc2
            have a1 := h.taken i
            have a2 := HL.out.taken i
            have b1 := h.what i
            have b2 := HL.out.what i
            have d1 := h.cls i
            have d2 := HL.out.cls i
            rw [show cs2.getD i Chunk.zero = c2 by simp [List.getD, hc2]] at a1 b1 d1
            rw [show cs'.getD i Chunk.zero = c by simp [List.getD, HC.out]] at a2 b2 d2
            have et : c2.taken = c.taken := a1.trans a2.symm
            have ew : c2.what = 1 := (b1.trans b2.symm).trans H1.out
            have ec : c2.cls = c.cls := d1.trans d2.symm
            refine ⟨et, ?_, ?_⟩
            · simp [placesOf, ew, ec, HM.out]
            · funext n; simp [slotsOf, et]
          have HNX : Hid ((placesTo cs (i + 1)).length = (placesTo cs i).length + (slotsOf c M).length) := by
            show _ = _; rw [placesTo_succ, HPO.out, (HTK.out cs' _ c HL.out HC.out).2.1]; simp
          clear h1 h2 c0 c1 e1 e2 hbn hp
          gi_loopw [46] (fun s wi => ∃ n : Nat, n ≤ M ∧ s = .int .i64 n ∧ J ((placesTo cs i).length + (slotsOf c n).length) wi) (fun s _ => M - (intOf s).toNat)
          case atStart => exact ⟨0, by omega, rfl, HJ.out⟩
          case round =>
            obtain ⟨n, hn, rfl, hj⟩ := hrel
            obtain ⟨hbn, cs2, hA, hL⟩ := HP.out _ _ hj
            have hp := hA.cell_p
            rw [hL.len] at hp
            obtain ⟨c2, hc2⟩ : ∃ c2, cs2[i]? = some c2 := ⟨cs2[i]'(by rw [hL.len]; exact hlt), by simp⟩
            have HRD2 := Lib.hid (hL.rd c2 (List.mem_of_getElem? hc2))
            obtain ⟨htk, hpl, hsl⟩ := HTK.out _ _ _ hL hc2
            have ct := hA.taken hc2
            rw [htk] at ct
            have hbt := bit_test c.taken n (by rw [← htk]; exact HRD2.out.taken)
            have HTKN := Lib.hid htk; clear htk
            have HPL := Lib.hid hpl; clear hpl
            have HSL := Lib.hid hsl; clear hsl
            have HL2 := Lib.hid hL; clear hL
            have HA2 := Lib.hid hA; clear hA
            have HJI := Lib.hid hj; clear hj
            have HC2 := Lib.hid hc2; clear hc2
            have hsuc := slotsOf_succ c n
            by_cases hnM : n < M
            · cases hb : c.taken.testBit n with
              | false =>
                rw [hb] at hbt hsuc
                have HS : Hid ((slotsOf c (n + 1)).length = (slotsOf c n).length) := by show _ = _; rw [hsuc]; simp
                clear hsuc hb
                gi_wp2_with fail
                refine ⟨trivial, ?_⟩
                gi_wp2_with fail
                refine ⟨fun _ h => (by cases h), ?_⟩
                gi_wp2
                go_roundw
                case rel => exact ⟨n + 1, by omega, by go_num, by rw [HS.out]; exact HJI.out⟩
                case measure => simp [intOf]; omega
              | true =>
                rw [hb] at hbt hsuc
                have HS : Hid ((slotsOf c (n + 1)).length = (slotsOf c n).length + 1) := by show _ = _; rw [hsuc]; simp
                have hit := item_like (s := n) (j := (slotsOf c n).length) HL2.out hlt HC2.out (by
                  rw [HPL.out, List.getElem?_map, HSL.out, slotsOf_get c M n hnM hb]; rfl) (Nat.le_refl _)
                have HIT := Lib.hid hit; clear hit
                clear hsuc hb
                gi_wp2_with fail
                refine ⟨trivial, rfl, ?_⟩
                refine (callsIn_wide.2 (object_at HA2.out i n c2 HC2.out HRD2.out.cls (by omega) HRD2.out.marks HRD2.out.many)).mono ?_
                rintro e w1 ⟨rfl, hb1⟩
                have HJ1 := Lib.hid (HB.out _ _ _ HJI.out hb1)
                clear hb1
                obtain ⟨fn, tmps, assign, body, hy, hR⟩ := HY.out _ _ HJ1.out HIT.out.2
                rw [HIT.out.1] at hy
                have HR := Lib.hid hR; clear hR
                clear hp hbn ct
                generalize (objOf c2 i n).val = vobj at *
                gi_wp2_with fail
                refine ⟨rfl, ?_⟩
                refine HR.out.mono ?_
                rintro e w2 ⟨rfl, hj2⟩
                have HJ2 := Lib.hid hj2; clear hj2
                gi_wp2
                go_roundw
                case rel => exact ⟨n + 1, by omega, by go_num, by rw [HS.out, ← Nat.add_assoc]; exact HJ2.out⟩
                case measure => simp [intOf]; omega
            · obtain rfl : n = M := by omega
              gi_wp2
              go_roundw
              case rel => exact ⟨i + 1, by omega, by go_num, by rw [HNX.out]; exact HJI.out⟩
              case measure => simp [intOf]; omega
        · have e1 : ((c.what : Int) != 1) = true := by simp; omega
          have HNX : Hid ((placesTo cs (i + 1)).length = (placesTo cs i).length) := by show _ = _; rw [placesTo_succ, HPO.out]; simp [placesOf, h1, h2]
          clear h1 h2
          gi_wp2_with fail
          refine ⟨trivial, ?_⟩
          gi_wp2_with fail
          refine ⟨fun _ h => (by cases h), ?_⟩
          gi_wp2
          go_roundw
          case rel => exact ⟨i + 1, by omega, by go_num, by rw [HNX.out]; exact HJ.out⟩
          case measure => simp [intOf]; omega
    · obtain rfl : i = cs.length := by omega
      gi_wp2
      go_end0
      exact ⟨⟨_, rfl⟩, HJ.out⟩
end Go.Proofs.YtdgfnlagbdmniaaDoor.Pl
namespace Go.Proofs.YtdgfnlagbdmniaaDoor.Pl
open Go.RowKit
attribute [local go_sem] Oper.semAt_some

def PObj.cells (o : PObj) : List Value := [.int .i64 o.at_, .int .i64 o.size, .int .i64 o.room, .bool o.marked]
def objCells (l : List PObj) : List Value := l.flatMap PObj.cells
def objs (cs : List Chunk) : List PObj := (places cs).map fun p => objOf (cs.getD p.1 Chunk.zero) p.1 p.2

theorem objCells_length (l : List PObj) : (objCells l).length = l.length * 4 := by
  induction l with
  | nil => rfl
  | cons o l ih => simp only [objCells, List.flatMap_cons, List.length_append] at ih ⊢; rw [ih]; simp [PObj.cells]; omega
theorem objCells_snoc (l : List PObj) (o : PObj) : objCells (l ++ [o]) = objCells l ++ o.cells := by simp [objCells]

theorem walk_any (p : Option Addr) (w : World) : Calls Tryd.prog 31 #[.pointer p] w fun e w' => e = .returned (.func (.func 47) #[] #[.pointer (some ⟨w.heap.size, 0, none⟩)]) ∧ w' = w.alloc (.cells #[.pointer p] 24) := by
  go_enter Tryd.func31, Tryd.ntmps31
  go_wp2
  go_ret
  exact ⟨rfl, rfl⟩

theorem item_obj (cs : List Chunk) (k : Nat) (hk : k < (places cs).length) : ∃ p o, (places cs)[k]? = some p ∧ (objs cs)[k]? = some o ∧ itemAt cs k = #[.agg #[.int .i64 p.1, .int .i64 p.2], o.val] := by
  refine ⟨(places cs)[k], _, by simp [hk], by simp [objs, hk]; rfl, ?_⟩
  simp [itemAt, hk]
theorem item_size (cs : List Chunk) (k : Nat) : (itemAt cs k).size = 2 := by
  unfold itemAt; split <;> rfl

theorem info40 : (Tryd.prog.info? 40).map (fun i => (i.zero, i.size, i.bytes)) = some (some (.agg #[.int .i64 0, .int .i64 0, .int .i64 0, .bool false]), 4, 32) := by kernel_rfl

theorem Like.refl {cs : List Chunk} (h : ∀ c ∈ cs, Rd c) (k : Nat) : Like cs cs k := ⟨rfl, h, fun _ => rfl, fun _ => rfl, fun _ => rfl, fun _ _ _ _ => rfl⟩

theorem ownsRow_base {W : World} {base base' : Nat} {e : TypeId} {size : Nat} {v : Value} {n : Nat} {xs : List Value} (h : W.ownsRow base e size v n xs) (hb : base' ≤ base) : W.ownsRow base' e size v n xs := by
  refine ⟨h.1, ?_⟩
  rcases h.2 with h | ⟨g, cap, cur, h1, h2, h3⟩
  · exact .inl h
  · exact .inr ⟨g, cap, cur, h1, by omega, h3⟩
theorem own_ne {W : World} {base : Nat} {e : TypeId} {size : Nat} {v : Value} {n : Nat} {xs : List Value} (h : W.ownsRow base e size v n xs) {r : Nat} (hr : r < base) : v.ownBlock = none ∨ v.ownBlock ≠ some r := by
  cases hv : v.ownBlock with
  | none => exact .inl rfl
  | some g => right; intro e; cases e; have := h.lt _ hv; omega
theorem own_blk {W W' : World} {base : Nat} {e : TypeId} {size : Nat} {v : Value} {n : Nat} {xs : List Value} (h : W.ownsRow base e size v n xs) (hg : W.grownBy W' v.ownBlock) {r : Nat} (hr : r < base) (hlt : r < W.heap.size) : W'.heap[r]? = W.heap[r]? :=
  hg.block r hlt (fun e => by have := h.lt r e.symm; omega)

set_option maxRecDepth 100000 in
set_option maxHeartbeats 1000000 in
theorem objects_at {w : World} {a b : Nat} {cs : List Chunk} (h : At w a b cs) (hrd : ∀ c ∈ cs, Rd c) (hN : (places cs).length ≤ 100000) :
    Calls Tryd.prog 15 #[.pointer (some ⟨a, 0, none⟩)] w fun e w' => ∃ v, e = .returned v ∧ w'.ownsRow w.heap.size 40 4 v (objs cs).length (objCells (objs cs)) ∧ Below w.heap.size w w' := by
  obtain ⟨i0, hi, hz0, hz1, hz2⟩ := info_parts info40
  have HI := Lib.hid hi; clear hi
  have HZ0 := Lib.hid hz0; clear hz0
  have HZ1 := Lib.hid hz1; clear hz1
  have HZ2 := Lib.hid hz2; clear hz2
  refine (callsIn_wide (n := 0)).1 ?_
  refine callsIn_of_wp_marks Tryd.func15 rfl trivial ?_ rfl
  simp only [Tryd.ntmps15, List.size_toArray, List.length_cons, List.length_nil, Nat.reduceAdd, Nat.reduceSub, Array.replicate_succ, Array.replicate_zero, List.push_toArray, List.append_toArray, List.nil_append, List.cons_append]
  gi_wp2_with fail
  refine ⟨trivial, rfl, ?_⟩
  refine (callsIn_wide.2 (walk_any _ _)).mono ?_
  rintro e w' ⟨rfl, rfl⟩
  gi_wp2_with fail
  obtain ⟨W0, hW0⟩ : ∃ W0, W0 = (w.alloc (Obj.cells #[Value.slice none 0 0] 37)).alloc (Obj.cells #[Value.pointer (some ⟨a, 0, none⟩)] 24) := ⟨_, rfl⟩
  rw [← hW0]
  obtain ⟨B, hB⟩ : ∃ B, B = w.heap.size := ⟨_, rfl⟩
  have hsz : W0.heap.size = B + 2 := by rw [hW0, hB]; simp
  have hA0 : At W0 a b cs := by rw [hW0]; exact (h.alloc _).alloc _
  have hb0 : Below B w W0 := by rw [hW0, hB]; exact ((Below.refl _ _).alloc (Nat.le_refl _) _).alloc (by simp) _
  have hx0 : W0.heap[B]? = some (.cells #[.slice none 0 0] 37 (0, 0)) := by
    rw [hW0, hB]; show ((w.heap.push _).push _)[_]? = _
    rw [Array.getElem?_push, if_neg (by simp), Array.getElem?_push, if_pos rfl]
  have hp0 : W0.heap[B + 1]? = some (.cells #[.pointer (some ⟨a, 0, none⟩)] 24 (0, 0)) := by
    rw [hW0, hB]; show ((w.heap.push _).push _)[_]? = _
    rw [Array.getElem?_push, if_pos (by simp)]
  have ha := h.lt_a
  have hbb := h.lt_b
  rw [← hB] at ha hbb ⊢
  clear hW0 h
  have HA0 := Lib.hid hA0; clear hA0
  have HB0 := Lib.hid hb0; clear hb0
  have HX0 := Lib.hid hx0; clear hx0
  have HP0 := Lib.hid hp0; clear hp0
  have HBw := Lib.hid hB; clear hB
  have HSZ := Lib.hid hsz; clear hsz
  refine range_idx (gf := 47) (lb := #[.pointer (some ⟨B + 1, 0, none⟩)]) rfl (enters_of Tryd.func47 (by kernel_rfl) rfl) (xs := itemAt cs) (N := (places cs).length) (fun k => item_size cs k) (walk1_seq cs a b (B + 1))
    (fun k W => (∃ v, W.heap[B]? = some (.cells #[v] 37 (0, 0)) ∧ W.ownsRow (B + 4) 40 4 v k (objCells ((objs cs).take k))) ∧ W.heap[B + 1]? = some (.cells #[.pointer (some ⟨a, 0, none⟩)] 24 (0, 0)) ∧ At W a b cs ∧ Below B w W)
    ?hI ?hIP ?h0 ?hround ?hdone
  case hI =>
    rintro k W W' ⟨⟨v, h1, h2⟩, h3, h4, h5⟩ hg
    rw [HSZ.out] at hg
    have l1 : B + 1 < W.heap.size := (Array.getElem?_eq_some_iff.1 h3).1
    refine ⟨⟨v, (hg.block B (by omega) (by first | (simp; done) | (simp; omega))).trans h1, h2.kept hg ?_⟩, (hg.block (B + 1) l1 (by first | (simp; done) | (simp; omega))).trans h3, h4.same (hg.block a h4.lt_a (by first | (simp; done) | (simp; omega))) (hg.block b h4.lt_b (by first | (simp; done) | (simp; omega))), h5.grown hg (by omega) (fun k e => by cases e; omega)⟩
    exact own_ne h2 (by omega)
  case hIP =>
    rintro k W ⟨_, h3, h4, _⟩
    exact ⟨cell_blk h3 0, cs, h4, Like.refl hrd k⟩
  case h0 => exact ⟨⟨_, HX0.out, World.ownsRow_nil _ _ _ _⟩, HP0.out, HA0.out, HB0.out⟩
  case hround =>
    rintro k W ⟨⟨v, h1, h2⟩, h3, h4, h5⟩ hk hlt
    obtain ⟨p, o, hpl, hob, hit⟩ := item_obj cs k hk
    rw [hit, HSZ.out, show o.val = .agg #[.int .i64 o.at_, .int .i64 o.size, .int .i64 o.room, .bool o.marked] from rfl]
    rw [HSZ.out] at hlt
    have H1 := Lib.hid h1; clear h1
    have H2 := Lib.hid h2; clear h2
    have H3 := Lib.hid h3; clear h3
    have H4 := Lib.hid h4; clear h4
    have H5 := Lib.hid h5; clear h5
    have HOB := Lib.hid hob; clear hob
    clear hit hpl
    gi_wp2
    refine ⟨Below.heap_alloc _ _ _ (by omega), Below.heap_alloc _ _ _ (by omega), ?_⟩
    intro W2 hg2 hs2
    have hs2' : W2.heap.size = W.heap.size + 1 := by rw [hs2]; simp
    have hob2 : W2.heap[W.heap.size]? = some (.cells #[.int .i64 o.at_, .int .i64 o.size, .int .i64 o.room, .bool o.marked] 40 (0, 0)) := by
      rw [hg2.block _ (by simp) (by first | (simp; done) | (simp; omega))]; exact (MapKept.heap_alloc W _).1
    have hx2 : W2.heap[B]? = some (.cells #[v] 37 (0, 0)) := by
      rw [hg2.block _ (by first | (simp; done) | (simp; omega)) (by first | (simp; done) | (simp; omega)), Below.heap_alloc _ _ _ (by omega)]; exact H1.out
    have hp2 : W2.heap[B + 1]? = some (.cells #[.pointer (some ⟨a, 0, none⟩)] 24 (0, 0)) := by
      rw [hg2.block _ (by first | (simp; done) | (simp; omega)) (by first | (simp; done) | (simp; omega)), Below.heap_alloc _ _ _ (by omega)]; exact H3.out
    have hA2 : At W2 a b cs := H4.out.same (by rw [hg2.block _ (by first | (simp; done) | (simp; omega)) (by first | (simp; done) | (simp; omega)), Below.heap_alloc _ _ _ (by omega)]) (by rw [hg2.block _ (by first | (simp; done) | (simp; omega)) (by first | (simp; done) | (simp; omega)), Below.heap_alloc _ _ _ (by omega)])
    have hB2 : Below B w W2 := (H5.out.alloc (by omega) _).grown hg2 (by first | (simp; done) | (simp; omega)) (fun k e => by cases e; omega)
    have hw2 : W2.ownsRow (B + 4) 40 4 v k (objCells ((objs cs).take k)) := (H2.out.alloc _).kept hg2 (own_ne H2.out (by omega))
    have q0 : W2.cell? ⟨W.heap.size, 0, none⟩ = some (.int .i64 o.at_) := cell_blk hob2 0
    have q1 : W2.cell? ⟨W.heap.size, 1, none⟩ = some (.int .i64 o.size) := cell_blk hob2 1
    have q2 : W2.cell? ⟨W.heap.size, 2, none⟩ = some (.int .i64 o.room) := cell_blk hob2 2
    have q3 : W2.cell? ⟨W.heap.size, 3, none⟩ = some (.bool o.marked) := cell_blk hob2 3
    have qv : W2.cell? ⟨B, 0, none⟩ = some v := cell_blk hx2 0
    have HX2 := Lib.hid hx2; clear hx2
    have HP2 := Lib.hid hp2; clear hp2
    have HA2 := Lib.hid hA2; clear hA2
    have HB2 := Lib.hid hB2; clear hB2
    have HW2 := Lib.hid hw2; clear hw2
    have HS2 := Lib.hid hs2'; clear hs2' hs2 hob2 hg2
    clear H1 H2 H3 H4 H5
    have hlt2 : B + 4 < W2.heap.size := by rw [HS2.out]; omega
    have hkN : k < 100000 := by omega
    gi_wp2_with (gi_at_builtin; refine wpListIn_append_own _ rfl _ _ 37 rfl (B + 4) 40 i0 (.agg #[.int .i64 0, .int .i64 0, .int .i64 0, .bool false]) 4 32 Tryd.underlying37 HI.out HZ0.out HZ1.out HZ2.out rfl (by decide) _ _ _ rfl (HW2.out.alloc _) ⟨W2.heap.size, 0, none⟩ 1 1 o.cells rfl rfl ?c1 ?c2 ?c3 ?c4 ?c5 ?_)
    case c1 =>
      intro j u hj
      have hb : (W2.alloc (Obj.cells #[.int .i64 o.at_, .int .i64 o.size, .int .i64 o.room, .bool o.marked] 40)).heap[W2.heap.size]? = some (.cells #[.int .i64 o.at_, .int .i64 o.size, .int .i64 o.room, .bool o.marked] 40 (0, 0)) := (MapKept.heap_alloc W2 _).1
      rw [Addr.add_mid, Nat.zero_add, cell_blk hb, List.getElem?_toArray (xs := [_, _, _, _])]
      exact hj
    case c2 => intro u hu; simp only [PObj.cells, List.mem_cons, List.not_mem_nil, or_false] at hu; rcases hu with rfl | rfl | rfl | rfl <;> rfl
    case c3 => unfold maxLen; omega
    case c4 => omega
    case c5 => simp; omega
    intro v1 w1 hown1 hgr _
    obtain ⟨g1, cap1, rfl⟩ := ownsRow_succ hown1
    have l3 : ∀ r, r < B + 4 → w1.heap[r]? = W2.heap[r]? := fun r hr => by
      rw [own_blk (HW2.out.alloc _) hgr hr (by simp; omega), Below.heap_alloc _ _ _ (by omega)]
    have qx : w1.cell? ⟨B, 0, none⟩ = some v := cell_blk ((l3 B (by omega)).trans HX2.out) 0
    have qf : w1.frozen? ⟨B, 0, none⟩ = false := frozen_blk ((l3 B (by omega)).trans HX2.out) 0
    have HG := Lib.hid hgr; clear hgr
    have HO1 := Lib.hid hown1; clear hown1
    have HL3 := Lib.hid l3; clear l3
    clear q0 q1 q2 q3 qv
    gi_wp2
    have hle : w1.heap.size ≥ W2.heap.size := by have := HG.out.size; simp at this; omega
    refine ⟨⟨⟨_, (blk_set ((HL3.out B (by omega)).trans HX2.out) 0 _), ?_⟩, ?_, ?_, ?_⟩, ?_, ?_⟩
    · have e : objCells ((objs cs).take (k + 1)) = objCells ((objs cs).take k) ++ o.cells := by
        rw [List.take_add_one, HOB.out]; simp [objCells]
      rw [e]
      exact ownsRow_setCell_below HO1.out (a := ⟨B, 0, none⟩) (by simp) _
    · rw [Below.heap_setCell _ _ _ _ (by simp), HL3.out _ (by omega)]; exact HP2.out
    · exact HA2.out.same (by rw [Below.heap_setCell _ _ _ _ (by simp; omega), HL3.out _ (by omega)]) (by rw [Below.heap_setCell _ _ _ _ (by simp; omega), HL3.out _ (by omega)])
    · refine Below.setCell ?_ (p := ⟨B, 0, none⟩) (Nat.le_refl _) _
      exact (HB2.out.alloc (by omega) _).grown HG.out (by simp; omega) (fun r hr => by have := HW2.out.lt r hr; omega)
    · rw [Below.heap_setCell _ _ _ _ (by simp; omega), HL3.out _ (by omega)]
    · rw [Below.heap_setCell _ _ _ _ (by simp), HL3.out _ (by omega)]
  case hdone =>
    rintro W ⟨⟨v, h1, h2⟩, h3, h4, h5⟩ hK
    have hc := cell_blk h1 0
    have hl : (objs cs).length = (places cs).length := by simp [objs]
    rw [List.take_of_length_le (by omega)] at h2
    gi_wp2
    refine ⟨by simp, .inl ⟨_, _, rfl, run_takeDeferred hK, ?_⟩⟩
    refine ⟨_, results_tmp rfl _ _ _, v, rfl, ?_, ?_⟩
    · rw [← HBw.out, hl]
      exact ownsRow_base (ownsRow_putObj h2 _ hK rfl) (by omega)
    · rw [← HBw.out]
      exact h5.trans (belowK_b (w := w) (by rw [← HBw.out]; exact Nat.le_refl _) W _ _ _ (by rw [HSZ.out, ← HBw.out]; omega) hK rfl rfl)
end Go.Proofs.YtdgfnlagbdmniaaDoor.Pl
namespace Go.Proofs.YtdgfnlagbdmniaaDoor.Pl
open Go.RowKit

def sumSize (l : List PObj) : Int := (l.map (·.size)).sum
def sumRoom (l : List PObj) : Int := (l.map fun o => (o.room : Int)).sum

theorem objCells_get (l : List PObj) (k j : Nat) (o : PObj) (hk : l[k]? = some o) (hj : j < 4) : (objCells l)[k * 4 + j]? = o.cells[j]? := by
  induction l generalizing k with
  | nil => simp at hk
  | cons d ds ih =>
    have hd : d.cells.length = 4 := rfl
    simp only [objCells, List.flatMap_cons] at ih ⊢
    cases k with
    | zero =>
      simp at hk; subst hk
      rw [List.getElem?_append_left (by omega)]; simp
    | succ k =>
      simp at hk
      rw [List.getElem?_append_right (by omega), hd, show (k + 1) * 4 + j - 4 = k * 4 + j by omega]
      exact ih k hk

theorem own_obj {W : World} {base : Nat} {v : Value} {l : List PObj} (h : W.ownsRow base 40 4 v l.length (objCells l)) (hne : l ≠ []) : ∃ g cap, v = .slice (some ⟨g, 0, none⟩) l.length cap ∧ base ≤ g ∧ g < W.heap.size ∧
    ∀ k o, l[k]? = some o → W.cell? ⟨g, k * 4, none⟩ = some (.int .i64 o.at_) ∧ W.cell? ⟨g, k * 4 + 1, none⟩ = some (.int .i64 o.size) ∧ W.cell? ⟨g, k * 4 + 2, none⟩ = some (.int .i64 o.room) ∧ W.cell? ⟨g, k * 4 + 3, none⟩ = some (.bool o.marked) := by
  rcases h.2 with ⟨_, h0⟩ | ⟨g, cap, cur, rfl, h1, h2, h3, h4, h5, h6⟩
  · exact absurd (List.eq_nil_of_length_eq_zero h0) hne
  · refine ⟨g, cap, rfl, h1, (Array.getElem?_eq_some_iff.1 h2).1, fun k o hk => ?_⟩
    have hc : ∀ j, j < 4 → W.cell? ⟨g, k * 4 + j, none⟩ = o.cells[j]? := by
      intro j hj
      have hg := objCells_get l k j o hk hj
      have hlt : k < l.length := (List.getElem?_eq_some_iff.1 hk).1
      rw [cell_blk h2, ← hg, ← h6, List.getElem?_take_of_lt (by omega)]
      simp
    exact ⟨hc 0 (by omega), hc 1 (by omega), hc 2 (by omega), hc 3 (by omega)⟩

theorem sumSize_snoc (l : List PObj) (k : Nat) (o : PObj) (h : l[k]? = some o) : sumSize (l.take (k + 1)) = sumSize (l.take k) + o.size := by
  rw [List.take_add_one, h]; simp [sumSize]
theorem sumRoom_snoc (l : List PObj) (k : Nat) (o : PObj) (h : l[k]? = some o) : sumRoom (l.take (k + 1)) = sumRoom (l.take k) + o.room := by
  rw [List.take_add_one, h]; simp [sumRoom]

/-- Objects whose numbers are small. -/
def Small (l : List PObj) : Prop := l.length ≤ 100000 ∧ ∀ o ∈ l, 0 ≤ o.size ∧ o.size ≤ 1000000 ∧ o.room ≤ 1000000

theorem sum_bd (l : List PObj) (h : Small l) : ∀ k, k ≤ l.length → 0 ≤ sumSize (l.take k) ∧ sumSize (l.take k) ≤ 1000000 * k ∧ 0 ≤ sumRoom (l.take k) ∧ sumRoom (l.take k) ≤ 1000000 * k := by
  intro k
  induction k with
  | zero => intro _; simp [sumSize, sumRoom]
  | succ k ih =>
    intro hk
    obtain ⟨a, b, c, d⟩ := ih (by omega)
    have he : l[k]? = some l[k] := by simp
    have := h.2 l[k] (List.getElem_mem _)
    rw [sumSize_snoc l k _ he, sumRoom_snoc l k _ he]
    omega

set_option maxRecDepth 100000 in
set_option maxHeartbeats 1000000 in
theorem used_at {w : World} {a b : Nat} {cs : List Chunk} (h : At w a b cs) (hrd : ∀ c ∈ cs, Rd c) (hS : Small (objs cs)) :
    Calls Tryd.prog 12 #[.pointer (some ⟨a, 0, none⟩)] w fun e w' => e = .returned (.tuple #[.int .i64 (objs cs).length, .int .i64 (sumSize (objs cs)), .int .i64 (sumRoom (objs cs))]) ∧ Below w.heap.size w w' := by
  have HO := Lib.hid (objects_at h hrd (by have := hS.1; simpa [objs] using this))
  clear h hrd
  generalize objs cs = l at *
  go_enter Tryd.func12, Tryd.ntmps12
  go_wp2_with fail
  refine HO.out.mono ?_
  rintro e w1 ⟨v, rfl, hown, hb1⟩
  have HB1 := Lib.hid hb1; clear hb1
  have hlen := hS.1
  have HS := Lib.hid hS; clear hS
  by_cases hne : l = []
  · subst hne
    have hv : v = .slice none 0 0 ∨ ∃ x c, v = .slice (some x) 0 c := by
      rcases hown.2 with ⟨rfl, _⟩ | ⟨g, cap, cur, rfl, _⟩
      · exact .inl rfl
      · exact .inr ⟨_, _, rfl⟩
    clear hown
    rcases hv with rfl | ⟨x, c, rfl⟩
    all_goals
      go_wp2_with fail
      go_loop [2, 3, 4, 10] (fun s2 s3 s4 s => s2 = .int .i64 0 ∧ s3 = .int .i64 0 ∧ s4 = .int .i64 0 ∧ s = .int .i64 0) (fun _ _ _ _ => 0)
      case atStart => exact ⟨rfl, rfl, rfl, rfl⟩
      case round =>
        obtain ⟨rfl, rfl, rfl, rfl⟩ := hrel
        go_wp2
        go_ret3
        exact ⟨rfl, HB1.out⟩
  · obtain ⟨g, cap, rfl, hg1, hg2, hcells⟩ := own_obj hown hne
    have HC := Lib.hid hcells; clear hcells hown
    go_wp2_with fail
    go_loopw [2, 3, 4, 10] (fun s2 s3 s4 s10 wr => ∃ k : Nat, k ≤ l.length ∧ s10 = .int .i64 k ∧ s2 = .int .i64 k ∧ s3 = .int .i64 (sumSize (l.take k)) ∧ s4 = .int .i64 (sumRoom (l.take k)) ∧ Below w1.heap.size w1 wr) (fun _ _ _ s10 _ => l.length - (intOf s10).toNat)
    case atStart => exact ⟨0, by omega, rfl, rfl, rfl, rfl, Below.refl _ _⟩
    case round =>
      obtain ⟨k, hk, rfl, rfl, rfl, rfl, hbel⟩ := hrel
      have HBL := Lib.hid hbel; clear hbel
      obtain ⟨s1, s2, s3, s4⟩ := sum_bd l HS.out k hk
      have HSS := Lib.hid (sumSize_snoc l k)
      have HSR := Lib.hid (sumRoom_snoc l k)
      have HFS := Lib.hid (fun h : k = l.length => show sumSize (l.take k) = sumSize l by rw [h, List.take_length])
      have HFR := Lib.hid (fun h : k = l.length => show sumRoom (l.take k) = sumRoom l by rw [h, List.take_length])
      generalize sumSize (l.take k) = SS at *
      generalize sumRoom (l.take k) = SR at *
      by_cases hlt : k < l.length
      · obtain ⟨o, ho⟩ : ∃ o, l[k]? = some o := ⟨l[k], by simp⟩
        obtain ⟨c0, c1, c2, c3⟩ := HC.out k o ho
        have d0 : wr.cell? ⟨g, k * 4, none⟩ = some (.int .i64 o.at_) := (HBL.out.cell (p := ⟨g, k * 4, none⟩) hg2).trans c0
        have d1 : wr.cell? ⟨g, k * 4 + 1, none⟩ = some (.int .i64 o.size) := (HBL.out.cell (p := ⟨g, k * 4 + 1, none⟩) hg2).trans c1
        have d2 : wr.cell? ⟨g, k * 4 + 2, none⟩ = some (.int .i64 o.room) := (HBL.out.cell (p := ⟨g, k * 4 + 2, none⟩) hg2).trans c2
        have d3 : wr.cell? ⟨g, k * 4 + 3, none⟩ = some (.bool o.marked) := (HBL.out.cell (p := ⟨g, k * 4 + 3, none⟩) hg2).trans c3
        obtain ⟨b0, b1, b2⟩ := HS.out.2 o (List.mem_of_getElem? ho)
        have HSS' := Lib.hid (HSS.out o ho)
        have HSR' := Lib.hid (HSR.out o ho)
        clear c0 c1 c2 c3 ho
        go_wp2_with fail
        go_region
        all_goals go_wp2
        go_roundw
        case rel => exact ⟨k + 1, by omega, by go_num, by go_num, by rw [HSS'.out], by rw [HSR'.out], (HBL.out.alloc HBL.out.size _).drew⟩
        case measure => simp [intOf]; omega
      · obtain rfl : k = l.length := by omega
        obtain rfl := HFS.out rfl
        obtain rfl := HFR.out rfl
        go_wp2
        go_ret3
        exact ⟨rfl, HB1.out.trans (HBL.out.mono HB1.out.size)⟩
end Go.Proofs.YtdgfnlagbdmniaaDoor.Pl
namespace Go.Proofs.YtdgfnlagbdmniaaDoor.Pl

def segObjs (c : Chunk) (i : Nat) : List PObj := (placesOf c i).map fun p => objOf c p.1 p.2
def objsL : Nat → List Chunk → List PObj
  | _, [] => []
  | i, c :: cs => segObjs c i ++ objsL (i + 1) cs

theorem objsL_append (xs ys : List Chunk) : ∀ i, objsL i (xs ++ ys) = objsL i xs ++ objsL (i + xs.length) ys := by
  induction xs with
  | nil => intro i; simp [objsL]
  | cons c xs ih => intro i; simp [objsL, ih, Nat.add_assoc, Nat.add_comm 1]

theorem placesOf_fst (c : Chunk) (i : Nat) : ∀ p ∈ placesOf c i, p.1 = i := by
  intro p hp
  unfold placesOf at hp
  split at hp
  · simp at hp; rw [hp]
  · split at hp
    · simp at hp; obtain ⟨s, _, rfl⟩ := hp; rfl
    · simp at hp
theorem objs_to (cs : List Chunk) (n : Nat) (hn : n ≤ cs.length) : ((placesTo cs n).map fun p => objOf (cs.getD p.1 Chunk.zero) p.1 p.2) = objsL 0 (cs.take n) := by
  induction n with
  | zero => simp [placesTo, objsL]
  | succ n ih =>
    rw [placesTo_succ, List.map_append, ih (by omega), List.take_succ_eq_append_getElem (by omega), objsL_append]
    congr 1
    have e : cs.getD n Chunk.zero = cs[n] := by simp [List.getD, List.getElem?_eq_getElem (show n < cs.length by omega)]
    rw [e]
    simp only [objsL, List.append_nil, segObjs, List.length_take, Nat.zero_add, Nat.min_eq_left (show n ≤ cs.length by omega)]
    apply List.map_congr_left
    intro p hp
    rw [placesOf_fst _ _ p hp, e]
theorem objs_eq (cs : List Chunk) : objs cs = objsL 0 cs := by
  have := objs_to cs cs.length (Nat.le_refl _)
  rwa [List.take_length] at this

/-- A chunk with slots. -/
structure SlotsOk (c : Chunk) : Prop where
  what : c.what = 1
  sizes : c.sizes.length = 32
  cls : c.cls ≤ 4
  taken : c.taken < 2 ^ (32 / 2 ^ c.cls)
  pos : c.taken ≠ 0
  marks : c.marks < 4294967296
  many : c.many = 0
  szs : ∀ s, c.taken.testBit s = true → 1 ≤ c.sizes.getD s 0 ∧ c.sizes.getD s 0 ≤ 512 ∧ Pl.cls (c.sizes.getD s 0) = c.cls

def headM (size : Int) (many : Nat) (m : Bool) : Chunk := { headC size many with marked := m }

/-- A part of a pool: a free chunk, a chunk with slots, or the chunks of a large object. -/
def IsSeg (x : List Chunk) : Prop :=
  x = [Chunk.zero] ∨ (∃ c, x = [c] ∧ SlotsOk c) ∨
  ∃ size many m, 512 < size ∧ size ≤ 262144 ∧ ((many : Nat) : Int) = (size + 1023) / 1024 ∧ x = headM size many m :: List.replicate (many - 1) tailC

def Good (cs : List Chunk) : Prop := ∃ L : List (List Chunk), cs = L.flatten ∧ ∀ x ∈ L, IsSeg x

theorem IsSeg.ne {x : List Chunk} (h : IsSeg x) : x ≠ [] := by
  rcases h with rfl | ⟨c, rfl, _⟩ | ⟨_, _, _, _, _, _, rfl⟩ <;> simp
theorem Good.nil : Good [] := ⟨[], rfl, by simp⟩
theorem Good.append {xs ys : List Chunk} (h : Good xs) (k : Good ys) : Good (xs ++ ys) := by
  obtain ⟨L, rfl, hL⟩ := h
  obtain ⟨M, rfl, hM⟩ := k
  exact ⟨L ++ M, by simp, fun x hx => by rcases List.mem_append.1 hx with h | h; exact hL x h; exact hM x h⟩
theorem Good.seg {x : List Chunk} (h : IsSeg x) : Good x := ⟨[x], by simp, by simpa using h⟩

theorem IsSeg.tail {x : List Chunk} (h : IsSeg x) {a b : List Chunk} (e : x = a ++ b) (ha : a ≠ []) : ∀ c ∈ b, c.what = 3 := by
  intro c hc
  rcases h with rfl | ⟨d, rfl, _⟩ | ⟨size, many, m, _, _, _, rfl⟩
  · cases a with
    | nil => exact absurd rfl ha
    | cons y a => simp at e; obtain ⟨rfl, rfl, rfl⟩ := e; simp at hc
  · cases a with
    | nil => exact absurd rfl ha
    | cons y a => simp at e; obtain ⟨rfl, rfl, rfl⟩ := e; simp at hc
  · cases a with
    | nil => exact absurd rfl ha
    | cons y a =>
      simp only [List.cons_append, List.cons.injEq] at e
      have : c ∈ List.replicate (many - 1) tailC := by rw [e.2]; simp [hc]
      rw [List.eq_of_mem_replicate this]; rfl

theorem Good.split {xs ys : List Chunk} (h : Good (xs ++ ys)) (hy : ∀ c, ys.head? = some c → c.what ≠ 3) : Good xs ∧ Good ys := by
  obtain ⟨L, e, hL⟩ := h
  induction L generalizing xs with
  | nil =>
    simp at e
    obtain ⟨rfl, rfl⟩ := e
    exact ⟨Good.nil, Good.nil⟩
  | cons x L ih =>
    by_cases hx : xs = []
    · subst hx
      exact ⟨Good.nil, x :: L, by simpa using e, hL⟩
    · rw [List.flatten_cons, List.append_eq_append_iff] at e
      rcases e with ⟨t, e1, e2⟩ | ⟨t, e1, e2⟩
      · -- x = xs ++ t
        cases t with
        | nil =>
          simp at e1 e2
          subst e1
          exact ⟨Good.seg (hL x (by simp)), L, e2, fun z hz => hL z (by simp [hz])⟩
        | cons c t =>
          exfalso
          have h3 := (hL x (by simp)).tail e1 hx c (by simp)
          exact hy c (by rw [e2]; rfl) h3
      · obtain ⟨h1, h2⟩ := ih (xs := t) e2.symm (fun z hz => hL z (by simp [hz]))
        rw [e1]
        exact ⟨(Good.seg (hL x (by simp))).append h1, h2⟩

theorem Good.cons {c : Chunk} {ys : List Chunk} (h : Good (c :: ys)) :
    (c = Chunk.zero ∧ Good ys) ∨ (SlotsOk c ∧ Good ys) ∨
    ∃ size many m zs, 512 < size ∧ size ≤ 262144 ∧ ((many : Nat) : Int) = (size + 1023) / 1024 ∧ c = headM size many m ∧ ys = List.replicate (many - 1) tailC ++ zs ∧ Good zs := by
  obtain ⟨L, e, hL⟩ := h
  cases L with
  | nil => simp at e
  | cons x L =>
    have hG : Good L.flatten := ⟨L, rfl, fun z hz => hL z (by simp [hz])⟩
    rw [List.flatten_cons] at e
    rcases hL x (by simp) with rfl | ⟨d, rfl, hd⟩ | ⟨size, many, m, h1, h2, h3, rfl⟩
    · simp at e; obtain ⟨rfl, rfl⟩ := e; exact .inl ⟨rfl, hG⟩
    · simp at e; obtain ⟨rfl, rfl⟩ := e; exact .inr (.inl ⟨hd, hG⟩)
    · simp at e; obtain ⟨rfl, rfl⟩ := e; exact .inr (.inr ⟨size, many, m, _, h1, h2, h3, rfl, rfl, hG⟩)

theorem Good.at_ {cs : List Chunk} (h : Good cs) {i : Nat} {c : Chunk} (hi : cs[i]? = some c) (h3 : c.what ≠ 3) : Good (cs.take i) ∧ Good (c :: cs.drop (i + 1)) ∧ cs = cs.take i ++ c :: cs.drop (i + 1) := by
  have hlt := (List.getElem?_eq_some_iff.1 hi).1
  have he := (List.getElem?_eq_some_iff.1 hi).2
  have e : cs.drop i = c :: cs.drop (i + 1) := by rw [List.drop_eq_getElem_cons hlt, he]
  have ec : cs = cs.take i ++ c :: cs.drop (i + 1) := by rw [← e, List.take_append_drop]
  have := Good.split (xs := cs.take i) (ys := c :: cs.drop (i + 1)) (by rw [← ec]; exact h) (by intro d hd; simp at hd; rw [← hd]; exact h3)
  exact ⟨this.1, this.2, ec⟩

/-- Each chunk is one of four. -/
theorem Good.mem {cs : List Chunk} (h : Good cs) : ∀ c ∈ cs, c = Chunk.zero ∨ SlotsOk c ∨ (∃ size many m, 512 < size ∧ size ≤ 262144 ∧ ((many : Nat) : Int) = (size + 1023) / 1024 ∧ c = headM size many m) ∨ c = tailC := by
  obtain ⟨L, rfl, hL⟩ := h
  intro c hc
  obtain ⟨x, hx, hcx⟩ := List.mem_flatten.1 hc
  rcases hL x hx with rfl | ⟨d, rfl, hd⟩ | ⟨size, many, m, h1, h2, h3, rfl⟩
  · simp at hcx; exact .inl hcx
  · simp at hcx; subst hcx; exact .inr (.inl hd)
  · simp only [List.mem_cons] at hcx
    rcases hcx with rfl | hcx
    · exact .inr (.inr (.inl ⟨size, many, m, h1, h2, h3, rfl⟩))
    · exact .inr (.inr (.inr (List.eq_of_mem_replicate hcx)))

theorem Good.wf {cs : List Chunk} (h : Good cs) : ∀ c ∈ cs, Wf c := by
  intro c hc
  rcases h.mem c hc with rfl | h | ⟨size, many, m, _, _, _, rfl⟩ | rfl
  · exact Wf.zero
  · exact ⟨h.sizes, h.cls, h.taken, h.marks⟩
  · exact ⟨rfl, Nat.zero_le 4, (by show 0 < 2 ^ (32 / 2 ^ 0); decide), (by show (0 : Nat) < 4294967296; decide)⟩
  · exact ⟨rfl, by decide, by decide, by decide⟩
theorem Good.rd {cs : List Chunk} (h : Good cs) : ∀ c ∈ cs, Rd c := by
  intro c hc
  rcases h.mem c hc with rfl | h | ⟨size, many, m, _, _, _, rfl⟩ | rfl
  · exact ⟨by decide, by decide, by decide, by decide⟩
  · exact ⟨h.cls, h.marks, by rw [h.many]; decide, taken_lt h.taken⟩
  · exact ⟨Nat.zero_le 4, (by show (0 : Nat) < 4294967296; decide), by show many ≤ 256; omega, (by show (0 : Nat) < 4294967296; decide)⟩
  · exact ⟨by decide, by decide, by decide, by decide⟩
theorem Good.what {cs : List Chunk} (h : Good cs) : ∀ c ∈ cs, c.what ≤ 3 ∧ c.cls ≤ 4 := by
  intro c hc
  rcases h.mem c hc with rfl | h | ⟨size, many, m, _, _, _, rfl⟩ | rfl
  · exact ⟨by decide, by decide⟩
  · exact ⟨by rw [h.what]; decide, h.cls⟩
  · exact ⟨(by show (2 : Nat) ≤ 3; decide), Nat.zero_le 4⟩
  · exact ⟨by decide, by decide⟩

theorem Good.zeros (n : Nat) : Good (List.replicate n Chunk.zero) :=
  ⟨List.replicate n [Chunk.zero], by simp, fun x hx => by rw [List.eq_of_mem_replicate hx]; exact .inl rfl⟩
end Go.Proofs.YtdgfnlagbdmniaaDoor.Pl
namespace Go.Proofs.YtdgfnlagbdmniaaDoor.Pl

def roomOf (size : Int) : Nat := if cls size < 5 then 32 * 2 ^ cls size else ((size + 1023) / 1024 * 1024).toNat

/-- An object whose room is that of its size. -/
structure OOk (o : PObj) : Prop where
  pos : 1 ≤ o.size
  le : o.size ≤ 262144
  fit : o.size ≤ o.room
  room : o.room = roomOf o.size

def InR (l : List PObj) (lo hi : Nat) : Prop := ∀ o ∈ l, lo ≤ o.at_ ∧ o.at_ + o.room ≤ hi ∧ OOk o
def Apart (l : List PObj) : Prop := l.Pairwise fun a b => a.at_ + a.room ≤ b.at_

theorem cls_fit (n : Int) (h : cls n < 5) : n ≤ 32 * 2 ^ cls n := by
  by_cases h1 : n ≤ 32
  · have e : cls n = 0 := by simp [cls, h1]
    rw [e]; omega
  by_cases h2 : n ≤ 64
  · have e : cls n = 1 := by simp [cls, h1, h2]
    rw [e]; omega
  by_cases h3 : n ≤ 128
  · have e : cls n = 2 := by simp [cls, h1, h2, h3]
    rw [e]; omega
  by_cases h4 : n ≤ 256
  · have e : cls n = 3 := by simp [cls, h1, h2, h3, h4]
    rw [e]; omega
  by_cases h5 : n ≤ 512
  · have e : cls n = 4 := by simp [cls, h1, h2, h3, h4, h5]
    rw [e]; omega
  · have e : cls n = 5 := by simp [cls, h1, h2, h3, h4, h5]
    omega
theorem cls_five (n : Int) (h : 512 < n) : cls n = 5 := by
  unfold cls; (repeat' split) <;> omega
theorem cls_small (n : Int) (h : n ≤ 512) : cls n < 5 := by
  unfold cls; (repeat' split) <;> omega

theorem per_mul (k : Nat) (h : k ≤ 4) : 32 / 2 ^ k * (32 * 2 ^ k) = 1024 := by
  obtain rfl | rfl | rfl | rfl | rfl : k = 0 ∨ k = 1 ∨ k = 2 ∨ k = 3 ∨ k = 4 := by omega
  all_goals rfl
theorem slot_in {s k : Nat} (hk : k ≤ 4) (hs : s < 32 / 2 ^ k) : s * (32 * 2 ^ k) + 32 * 2 ^ k ≤ 1024 := by
  have h1 := per_mul k hk
  have h2 : (s + 1) * (32 * 2 ^ k) ≤ 32 / 2 ^ k * (32 * 2 ^ k) := Nat.mul_le_mul_right _ hs
  rw [Nat.add_mul] at h2
  omega

theorem seg_slots {c : Chunk} (h : c.what = 1) (i : Nat) : segObjs c i = (slotsOf c (32 / 2 ^ c.cls)).map fun s => objOf c i s := by
  simp [segObjs, placesOf, h, Function.comp_def]
theorem obj_slot {c : Chunk} (h : c.what = 1) (i s : Nat) : objOf c i s = ⟨i * 1024 + s * (32 * 2 ^ c.cls), c.sizes.getD s 0, 32 * 2 ^ c.cls, c.marks.testBit s⟩ := by
  simp [objOf, h]
theorem mem_slots {c : Chunk} {n s : Nat} : s ∈ slotsOf c n ↔ s < n ∧ c.taken.testBit s = true := by simp [slotsOf]

theorem slot_ok {c : Chunk} (h : SlotsOk c) (i s : Nat) (hs : s < 32 / 2 ^ c.cls) (hb : c.taken.testBit s = true) : i * 1024 ≤ (objOf c i s).at_ ∧ (objOf c i s).at_ + (objOf c i s).room ≤ (i + 1) * 1024 ∧ OOk (objOf c i s) := by
  obtain ⟨h1, h2, h3⟩ := h.szs s hb
  have hin := slot_in h.cls hs
  rw [obj_slot h.what]
  refine ⟨by simp, by simp only; omega, h1, by simp only; omega, ?_, ?_⟩
  · have := cls_fit (c.sizes.getD s 0) (by have := h.cls; omega)
    rw [h3] at this
    simp only [Int.natCast_mul, Int.natCast_pow]
    exact this
  · simp only [roomOf]
    rw [h3, if_pos (by have := h.cls; omega)]

theorem slots_apart {c : Chunk} (h : SlotsOk c) (i : Nat) : Apart (segObjs c i) := by
  rw [seg_slots h.what]
  unfold Apart
  rw [List.pairwise_map]
  have : (slotsOf c (32 / 2 ^ c.cls)).Pairwise (· < ·) := List.Pairwise.filter _ List.pairwise_lt_range
  refine this.imp ?_
  intro s t hst
  rw [obj_slot h.what, obj_slot h.what]
  simp only
  have : (s + 1) * (32 * 2 ^ c.cls) ≤ t * (32 * 2 ^ c.cls) := Nat.mul_le_mul_right _ hst
  rw [Nat.add_mul] at this
  omega

theorem objsL_tails (n i : Nat) : objsL i (List.replicate n tailC) = [] := by
  induction n generalizing i with
  | zero => rfl
  | succ n ih => rw [List.replicate_succ, objsL, ih]; rfl
theorem objsL_zeros (n i : Nat) : objsL i (List.replicate n Chunk.zero) = [] := by
  induction n generalizing i with
  | zero => rfl
  | succ n ih => rw [List.replicate_succ, objsL, ih]; rfl
theorem objsL_large (size : Int) (many : Nat) (m : Bool) (i : Nat) : objsL i (headM size many m :: List.replicate (many - 1) tailC) = [⟨i * 1024, size, many * 1024, m⟩] := by
  rw [objsL, objsL_tails]; rfl
theorem objsL_slots {c : Chunk} (i : Nat) : objsL i [c] = segObjs c i := by simp [objsL]

theorem seg_objs {x : List Chunk} (h : IsSeg x) (i : Nat) : InR (objsL i x) (i * 1024) ((i + x.length) * 1024) ∧ Apart (objsL i x) := by
  rcases h with rfl | ⟨c, rfl, hc⟩ | ⟨size, many, m, h1, h2, h3, rfl⟩
  · exact ⟨fun o ho => by simp [objsL, segObjs, placesOf, Chunk.zero] at ho, List.Pairwise.nil⟩
  · rw [objsL_slots]
    refine ⟨?_, slots_apart hc i⟩
    intro o ho
    rw [seg_slots hc.what] at ho
    obtain ⟨s, hs, rfl⟩ := List.mem_map.1 ho
    obtain ⟨a, b⟩ := mem_slots.1 hs
    exact slot_ok hc i s a b
  · rw [objsL_large]
    refine ⟨?_, List.pairwise_singleton _ _⟩
    intro o ho
    simp at ho; subst ho
    refine ⟨Nat.le_refl _, ?_, ⟨by simp only; omega, h2, ?_, ?_⟩⟩
    · simp only [List.length_cons, List.length_replicate]
      have : 1 ≤ many := by omega
      rw [show many - 1 + 1 = many by omega, Nat.add_mul]
      exact Nat.le_refl _
    · simp only [Int.natCast_mul]; omega
    · simp only [roomOf]
      rw [if_neg (by rw [cls_five _ h1]; omega), ← h3]
      omega

theorem InR.mono {l : List PObj} {a b a' b' : Nat} (h : InR l a b) (h1 : a' ≤ a) (h2 : b ≤ b') : InR l a' b' := fun o ho => ⟨Nat.le_trans h1 (h o ho).1, Nat.le_trans (h o ho).2.1 h2, (h o ho).2.2⟩
theorem InR.append {l m : List PObj} {a b : Nat} (h : InR l a b) (k : InR m a b) : InR (l ++ m) a b := fun o ho => by
  rcases List.mem_append.1 ho with h' | h'
  · exact h o h'
  · exact k o h'

theorem good_objs {cs : List Chunk} (h : Good cs) : ∀ i, InR (objsL i cs) (i * 1024) ((i + cs.length) * 1024) ∧ Apart (objsL i cs) := by
  obtain ⟨L, rfl, hL⟩ := h
  induction L with
  | nil => intro i; exact ⟨fun o ho => by simp [objsL] at ho, List.Pairwise.nil⟩
  | cons x L ih =>
    intro i
    obtain ⟨a, b⟩ := seg_objs (hL x (by simp)) i
    obtain ⟨a', b'⟩ := ih (fun y hy => hL y (by simp [hy])) (i + x.length)
    rw [List.flatten_cons, objsL_append, List.length_append]
    refine ⟨(a.mono (Nat.le_refl _) (Nat.mul_le_mul_right _ (by omega))).append (a'.mono (Nat.mul_le_mul_right _ (by omega)) (Nat.mul_le_mul_right _ (by omega))), ?_⟩
    rw [Apart, List.pairwise_append]
    refine ⟨b, b', fun o ho p hp => Nat.le_trans (a o ho).2.1 (a' p hp).1⟩

/-! ### A slot is taken -/
theorem testBit_or (t s j : Nat) : (t ||| 2 ^ s).testBit j = (t.testBit j || decide (s = j)) := by
  rw [Nat.testBit_or, Nat.testBit_two_pow]
theorem testBit_clear (m s j : Nat) (hs : s < 32) (hj : j < 32) : (m &&& (4294967295 - 2 ^ s)).testBit j = (m.testBit j && !decide (s = j)) := by
  have h2 : 2 ^ s < 2 ^ 32 := Nat.pow_lt_pow_right (by decide) hs
  have := Nat.testBit_two_pow_sub_succ h2 j
  rw [show 2 ^ 32 - (2 ^ s + 1) = 4294967295 - 2 ^ s by omega] at this
  rw [Nat.testBit_and, this, Nat.testBit_two_pow]
  simp [hj]

theorem range_split (s d : Nat) : List.range (s + 1 + d) = List.range s ++ s :: (List.range d).map (fun x => s + 1 + x) := by
  rw [List.range_add, List.range_succ, List.append_assoc]; rfl

theorem slot_segs {c : Chunk} (hw : c.what = 1) (hl : c.sizes.length = 32) (i s : Nat) (hs : s < 32 / 2 ^ c.cls) (hb : c.taken.testBit s = false) (size : Int) :
    ∃ X Y, segObjs c i = X ++ Y ∧ segObjs (slotC c s size) i = X ++ (⟨i * 1024 + s * (32 * 2 ^ c.cls), size, 32 * 2 ^ c.cls, false⟩ : PObj) :: Y := by
  have hs32 : s < 32 := Nat.lt_of_lt_of_le hs (Nat.div_le_self _ _)
  obtain ⟨d, hd⟩ : ∃ d, 32 / 2 ^ c.cls = s + 1 + d := ⟨32 / 2 ^ c.cls - (s + 1), by omega⟩
  have hn : s + 1 + d ≤ 32 := by rw [← hd]; exact Nat.div_le_self _ _
  have hw' : (slotC c s size).what = 1 := hw
  have hcl : (slotC c s size).cls = c.cls := rfl
  have hsame : ∀ j, j < 32 → j ≠ s → objOf (slotC c s size) i j = objOf c i j := by
    intro j hj hne
    rw [obj_slot hw', obj_slot hw]
    have e1 : (slotC c s size).sizes.getD j 0 = c.sizes.getD j 0 := by
      simp [slotC, List.getD, List.getElem?_set_ne (show s ≠ j by omega)]
    have e2 : (slotC c s size).marks.testBit j = c.marks.testBit j := by
      show (c.marks &&& (4294967295 - 2 ^ s)).testBit j = _
      rw [testBit_clear _ _ _ hs32 hj]
      have : decide (s = j) = false := by simp; omega
      simp [this]
    rw [e1, e2]; rfl
  have hnew : objOf (slotC c s size) i s = ⟨i * 1024 + s * (32 * 2 ^ c.cls), size, 32 * 2 ^ c.cls, false⟩ := by
    rw [obj_slot hw']
    have e1 : (slotC c s size).sizes.getD s 0 = size := by simp [slotC, List.getD, hl, hs32]
    have e2 : (slotC c s size).marks.testBit s = false := by
      show (c.marks &&& (4294967295 - 2 ^ s)).testBit s = _
      rw [testBit_clear _ _ _ hs32 hs32]; simp
    rw [e1, e2]; rfl
  have hf : ∀ l : List Nat, s ∉ l → l.filter (fun j => (slotC c s size).taken.testBit j) = l.filter (fun j => c.taken.testBit j) := by
    intro l hl
    apply List.filter_congr
    intro j hj
    have hne : s ≠ j := fun e => hl (e ▸ hj)
    show (c.taken ||| 2 ^ s).testBit j = _
    rw [testBit_or]; simp [hne]
  refine ⟨((List.range s).filter fun j => c.taken.testBit j).map (objOf c i), (((List.range d).map fun x => s + 1 + x).filter fun j => c.taken.testBit j).map (objOf c i), ?_, ?_⟩
  · rw [seg_slots hw, slotsOf, hd, range_split, List.filter_append, List.filter_cons, hb]
    simp
  · rw [seg_slots hw', slotsOf, hcl, hd, range_split, List.filter_append, List.filter_cons]
    have hbs : (slotC c s size).taken.testBit s = true := by
      show (c.taken ||| 2 ^ s).testBit s = _
      rw [testBit_or]; simp
    rw [hbs, if_pos rfl, hf _ (by simp), hf _ (by simp; omega), List.map_append, List.map_cons, hnew]
    congr 1
    · apply List.map_congr_left
      intro j hj
      have := (List.mem_filter.1 hj).1
      simp at this
      exact hsame j (by omega) (by omega)
    · congr 1
      apply List.map_congr_left
      intro j hj
      have := (List.mem_filter.1 hj).1
      simp at this
      obtain ⟨x, hx, rfl⟩ := this
      exact hsame _ (by omega) (by omega)

theorem set_split (cs : List Chunk) (i : Nat) (d : Chunk) (hi : i < cs.length) : cs.set i d = cs.take i ++ d :: cs.drop (i + 1) := by
  rw [List.set_eq_take_append_cons_drop, if_pos hi]

theorem slotC_ok {c : Chunk} (hw : c.what = 1) (hl : c.sizes.length = 32) (hc : c.cls ≤ 4) (ht : c.taken < 2 ^ (32 / 2 ^ c.cls)) (hm : c.marks < 4294967296) (hmany : c.many = 0)
    (hz : ∀ s, c.taken.testBit s = true → 1 ≤ c.sizes.getD s 0 ∧ c.sizes.getD s 0 ≤ 512 ∧ Pl.cls (c.sizes.getD s 0) = c.cls)
    {s : Nat} (hs : s < 32 / 2 ^ c.cls) {size : Int} (h1 : 1 ≤ size) (h2 : Pl.cls size = c.cls) : SlotsOk (slotC c s size) := by
  have hs32 : s < 32 := Nat.lt_of_lt_of_le hs (Nat.div_le_self _ _)
  have h512 : size ≤ 512 := by
    have := cls_fit size (by omega)
    rw [h2] at this
    have hp : (2 : Int) ^ c.cls ≤ 2 ^ 4 := by
      have : (2 : Nat) ^ c.cls ≤ 2 ^ 4 := Nat.pow_le_pow_right (by decide) hc
      have h' : ((2 ^ c.cls : Nat) : Int) ≤ ((2 ^ 4 : Nat) : Int) := Int.ofNat_le.2 this
      simpa using h'
    omega
  refine ⟨hw, by simp [slotC, hl], hc, Nat.or_lt_two_pow ht (Nat.pow_lt_pow_right (by decide) hs), ?_, ?_, hmany, ?_⟩
  · show c.taken ||| 2 ^ s ≠ 0
    intro e
    have : (c.taken ||| 2 ^ s).testBit s = true := by rw [testBit_or]; simp
    rw [e] at this; simp at this
  · show c.marks &&& _ < _
    have := Nat.and_le_left (n := c.marks) (m := 4294967295 - 2 ^ s)
    omega
  · intro j hj
    have hj' : (c.taken ||| 2 ^ s).testBit j = true := hj
    rw [testBit_or] at hj'
    by_cases e : s = j
    · subst e
      have e1 : (slotC c s size).sizes.getD s 0 = size := by simp [slotC, List.getD, hl, hs32]
      rw [e1]; exact ⟨h1, h512, h2⟩
    · simp [e] at hj'
      have e1 : (slotC c s size).sizes.getD j 0 = c.sizes.getD j 0 := by
        simp [slotC, List.getD, List.getElem?_set_ne e]
      rw [e1]; exact hz j hj'

/-- One object more. -/
def Put (l m : List PObj) (o : PObj) : Prop := ∃ A B, l = A ++ B ∧ m = A ++ o :: B

theorem slot_old {cs : List Chunk} (h : Good cs) {i : Nat} {c : Chunk} (hi : cs[i]? = some c) {k : Nat} (hr : room c k = true) {size : Int} (h1 : 1 ≤ size) (hk : cls size = k) :
    Good (cs.set i (slotC c (low0 c.taken) size)) ∧ Put (objs cs) (objs (cs.set i (slotC c (low0 c.taken) size))) ⟨i * 1024 + low0 c.taken * (32 * 2 ^ k), size, 32 * 2 ^ k, false⟩ := by
  simp only [room, Bool.and_eq_true, beq_iff_eq, Bool.not_eq_true', beq_eq_false_iff_ne] at hr
  obtain ⟨hw, hck, hne⟩ := hr
  obtain ⟨g1, g2, e⟩ := h.at_ hi (by omega)
  have hlt := (List.getElem?_eq_some_iff.1 hi).1
  have hso : SlotsOk c ∧ Good (cs.drop (i + 1)) := by
    rcases g2.cons with ⟨rfl, _⟩ | h | ⟨size, many, m, zs, _, _, _, rfl, _⟩
    · simp [Chunk.zero] at hw
    · exact h
    · simp [headM, headC] at hw
  obtain ⟨hso, g3⟩ := hso
  rw [← hck] at hne
  have hlow := low0_lt (Nat.div_le_self 32 (2 ^ c.cls)) hso.taken hne
  have hbit := (low0_bits (taken_lt hso.taken) (by
    intro e; rw [e] at hlow
    have : low0 4294967295 = 32 := by decide
    rw [this] at hlow
    exact absurd hlow (by have := Nat.div_le_self 32 (2 ^ c.cls); omega))).2.1
  rw [set_split cs i _ hlt]
  refine ⟨g1.append (Good.append (Good.seg (.inr (.inl ⟨_, rfl, slotC_ok hso.what hso.sizes hso.cls hso.taken hso.marks hso.many hso.szs hlow h1 (by rw [hk, hck])⟩))) g3 : Good ([_] ++ _)), ?_⟩
  obtain ⟨X, Y, eX, eY⟩ := slot_segs hso.what hso.sizes i _ hlow hbit size
  have hl : (cs.take i).length = i := by simp; omega
  refine ⟨objsL 0 (cs.take i) ++ X, Y ++ objsL (i + 1) (cs.drop (i + 1)), ?_, ?_⟩
  · rw [objs_eq]
    conv => lhs; rw [e]
    rw [objsL_append, objsL, hl, Nat.zero_add, eX]; simp
  · rw [objs_eq, objsL_append, objsL, hl, Nat.zero_add, eY, hck]; simp

theorem slot_new {cs : List Chunk} (h : Good cs) {i : Nat} (hi : cs[i]? = some Chunk.zero) {k : Nat} (hk4 : k ≤ 4) {size : Int} (h1 : 1 ≤ size) (hk : cls size = k) :
    Good (cs.set i (slotC (newC k) 0 size)) ∧ Put (objs cs) (objs (cs.set i (slotC (newC k) 0 size))) ⟨i * 1024, size, 32 * 2 ^ k, false⟩ := by
  obtain ⟨g1, g2, e⟩ := h.at_ hi (by decide)
  have hlt := (List.getElem?_eq_some_iff.1 hi).1
  have g3 : Good (cs.drop (i + 1)) := by
    rcases g2.cons with ⟨_, h⟩ | ⟨h, _⟩ | ⟨size, many, m, zs, _, _, _, hz, _⟩
    · exact h
    · exact absurd h.what (by decide)
    · exact absurd (congrArg Chunk.what hz) (by simp [Chunk.zero, headM, headC])
  have hper : 0 < 32 / 2 ^ (newC k).cls := by
    show 0 < 32 / 2 ^ k
    obtain rfl | rfl | rfl | rfl | rfl : k = 0 ∨ k = 1 ∨ k = 2 ∨ k = 3 ∨ k = 4 := by omega
    all_goals decide
  rw [set_split cs i _ hlt]
  refine ⟨g1.append (Good.append (Good.seg (.inr (.inl ⟨_, rfl, slotC_ok (c := newC k) rfl rfl hk4 (Nat.pos_of_ne_zero (by simp)) (by show (0 : Nat) < 4294967296; decide) rfl (fun s hs => by simp [newC, Chunk.zero] at hs) hper h1 hk⟩))) g3 : Good ([_] ++ _)), ?_⟩
  obtain ⟨X, Y, eX, eY⟩ := slot_segs (c := newC k) rfl rfl i 0 hper (by simp [newC, Chunk.zero]) size
  have hl : (cs.take i).length = i := by simp; omega
  have e0 : segObjs (newC k) i = [] := by simp [segObjs, placesOf, newC, slotsOf, Chunk.zero]
  have ez : segObjs Chunk.zero i = [] := by simp [segObjs, placesOf, Chunk.zero]
  rw [e0] at eX
  obtain ⟨rfl, rfl⟩ := List.append_eq_nil_iff.1 eX.symm
  refine ⟨objsL 0 (cs.take i), objsL (i + 1) (cs.drop (i + 1)), ?_, ?_⟩
  · rw [objs_eq]
    conv => lhs; rw [e]
    rw [objsL_append, objsL, hl, Nat.zero_add, ez]; simp
  · rw [objs_eq, objsL_append, objsL, hl, Nat.zero_add, eY]
    simp [newC]

theorem tails_get (cs : List Chunk) (i : Nat) : ∀ k j, i + k ≤ cs.length → (tails cs i k)[j]? = if i ≤ j ∧ j < i + k then some tailC else cs[j]? := by
  intro k
  induction k with
  | zero => intro j _; rw [if_neg (by omega)]; rfl
  | succ k ih =>
    intro j hk
    rw [tails, List.getElem?_set]
    by_cases e : i + k = j
    · subst e
      rw [if_pos rfl, if_pos (by rw [tails_length]; omega), if_pos (by omega)]
    · rw [if_neg e, ih j (by omega)]
      by_cases h : i ≤ j ∧ j < i + k
      · rw [if_pos h, if_pos (by omega)]
      · rw [if_neg h, if_neg (by omega)]

theorem large_split (cs : List Chunk) (i many : Nat) (hm : 1 ≤ many) (h : i + many ≤ cs.length) (size : Int) :
    largeAt cs i many size = cs.take i ++ (headM size many false :: List.replicate (many - 1) tailC) ++ cs.drop (i + many) := by
  apply List.ext_getElem?
  intro j
  rw [largeAt, List.getElem?_set, tails_length, List.append_assoc]
  by_cases e : i = j
  · subst e
    rw [if_pos rfl, if_pos (by omega), List.getElem?_append_right (by simp; omega)]
    simp [Nat.min_eq_left (show i ≤ cs.length by omega)]
    rfl
  · rw [if_neg e, tails_get cs i many j h]
    by_cases h1 : j < i
    · rw [if_neg (by omega), List.getElem?_append_left (by simp; omega), List.getElem?_take_of_lt h1]
    · rw [List.getElem?_append_right (by simp; omega)]
      have hl : (cs.take i).length = i := by simp; omega
      rw [hl]
      by_cases h2 : j < i + many
      · rw [if_pos (by omega), List.getElem?_append_left (by simp; omega), show j - i = (j - i - 1) + 1 by omega, List.getElem?_cons_succ, List.getElem?_replicate, if_pos (by omega)]
      · rw [if_neg (by omega), List.getElem?_append_right (by simp; omega), List.getElem?_drop]
        congr 1
        simp; omega

theorem zeros_of {cs : List Chunk} (h : Good cs) {i many : Nat} (hf : freeRun cs i many = true) (hi : i + many ≤ cs.length) : cs = cs.take i ++ List.replicate many Chunk.zero ++ cs.drop (i + many) := by
  have e : (cs.drop i).take many = List.replicate many Chunk.zero := by
    apply List.ext_getElem?
    intro j
    by_cases hj : j < many
    · obtain ⟨c, hc, hw⟩ := freeRun_true hf j hj hi
      rw [List.getElem?_take_of_lt hj, List.getElem?_drop, hc, List.getElem?_replicate, if_pos hj]
      rcases h.mem c (List.mem_of_getElem? hc) with rfl | h | ⟨_, _, _, _, _, _, rfl⟩ | rfl
      · rfl
      · exact absurd hw (by rw [h.what]; decide)
      · exact absurd hw (by simp [headM, headC])
      · exact absurd hw (by simp [tailC])
    · rw [List.getElem?_eq_none (by simp; omega), List.getElem?_eq_none (by simp; omega)]
  rw [← e, List.append_assoc, ← List.drop_drop, List.take_append_drop, List.take_append_drop]

theorem large_new {cs : List Chunk} (h : Good cs) {i many : Nat} (hf : freeRun cs i many = true) (hi : i + many ≤ cs.length) {size : Int} (h1 : 512 < size) (h2 : size ≤ 262144) (hm : ((many : Nat) : Int) = (size + 1023) / 1024) :
    Good (largeAt cs i many size) ∧ Put (objs cs) (objs (largeAt cs i many size)) ⟨i * 1024, size, many * 1024, false⟩ := by
  have hm1 : 1 ≤ many := by omega
  have e := zeros_of h hf hi
  have hz : Good (cs.take i) ∧ Good (List.replicate many Chunk.zero ++ cs.drop (i + many)) := by
    refine Good.split (by rw [← List.append_assoc, ← e]; exact h) ?_
    intro c hc
    rw [show many = (many - 1) + 1 by omega, List.replicate_succ] at hc
    simp at hc; rw [← hc]; decide
  have hd : Good (cs.drop (i + many)) := by
    have : ∀ n, Good (List.replicate n Chunk.zero ++ cs.drop (i + many)) → Good (cs.drop (i + many)) := by
      intro n
      induction n with
      | zero => intro h; exact h
      | succ n ih =>
        intro h
        rw [List.replicate_succ, List.cons_append] at h
        rcases h.cons with ⟨_, h⟩ | ⟨h, _⟩ | ⟨size, many, m, zs, _, _, _, hz, _⟩
        · exact ih h
        · exact absurd h.what (by decide)
        · exact absurd (congrArg Chunk.what hz) (by simp [Chunk.zero, headM, headC])
    exact this many hz.2
  rw [large_split cs i many hm1 hi size]
  refine ⟨(hz.1.append (Good.seg (.inr (.inr ⟨size, many, false, h1, h2, hm, rfl⟩)))).append hd, ?_⟩
  have hl : (cs.take i).length = i := by simp; omega
  refine ⟨objsL 0 (cs.take i), objsL (i + many) (cs.drop (i + many)), ?_, ?_⟩
  · rw [objs_eq]
    conv => lhs; rw [e]
    rw [objsL_append, objsL_append, objsL_zeros, List.length_append, hl]; simp
  · rw [objs_eq, objsL_append, objsL_append, hl, objsL_large]
    simp
    congr 1; omega
end Go.Proofs.YtdgfnlagbdmniaaDoor.Pl
namespace Go.Proofs.YtdgfnlagbdmniaaDoor.Pl
open Go.RowKit

def freeIdx (cs : List Chunk) : Option Nat := (List.range cs.length).find? fun j => (cs.getD j Chunk.zero).what == 0

def allocC (cs : List Chunk) (size : Int) : Option (List Chunk × Nat) :=
  if cls size = 5 then
    match findRun cs ((size + 1023) / 1024).toNat with
    | some i => some (largeAt cs i ((size + 1023) / 1024).toNat size, i * 1024)
    | none => none
  else
    match firstRoom cs (cls size) with
    | some i => some (cs.set i (slotC (cs.getD i Chunk.zero) (low0 (cs.getD i Chunk.zero).taken) size), i * 1024 + low0 (cs.getD i Chunk.zero).taken * (32 * 2 ^ cls size))
    | none => match freeIdx cs with
      | some i => some (cs.set i (slotC (newC (cls size)) 0 size), i * 1024)
      | none => none

def OkPost (r : Option (List Chunk × Nat)) (a b : Nat) (w : World) (e : Ending) (w' : World) : Prop :=
  match r with
  | some (cs', x) => e = .returned (.tuple #[.int .i64 (x : Int), .int .i64 0]) ∧ At w' a b cs' ∧ w.grownBy w' (some b)
  | none => e = .returned (.tuple #[.int .i64 0, .int .i64 8]) ∧ ∃ n, w' = w.drewN n

theorem freeOf_idx (cs : List Chunk) : freeOf cs cs.length = match freeIdx cs with | some j => (j : Int) | none => -1 := rfl

theorem alloc_fn {cs : List Chunk} {size : Int} {a b : Nat} {w w' : World} {e : Ending} (h1 : 1 ≤ size) (h2 : size ≤ 262144) (h : AllocPost cs size a b w e w') : OkPost (allocC cs size) a b w e w' := by
  unfold AllocPost at h
  rw [if_neg (by omega)] at h
  unfold allocC
  by_cases h5 : cls size = 5
  · rw [if_pos h5] at h
    rw [if_pos h5]
    rcases h with ⟨i, hf, he, hA, hg⟩ | ⟨hf, he, hw⟩
    · rw [hf]; exact ⟨by rw [he]; simp, hA, hg⟩
    · rw [hf]; exact ⟨he, 0, by rw [← hw]; rfl⟩
  · rw [if_neg h5] at h
    rw [if_neg h5]
    rcases h with ⟨i, c, hf, hc, he, hA, hg⟩ | ⟨i, hf, hi, he, hA, hg⟩ | ⟨hf, hi, he, n, hw⟩
    · rw [hf]
      have e1 : cs.getD i Chunk.zero = c := by simp [List.getD, hc]
      simp only [e1]
      exact ⟨he, hA, hg⟩
    · rw [hf]
      rw [freeOf_idx] at hi
      cases hx : freeIdx cs with
      | none => rw [hx] at hi; simp only at hi; omega
      | some j =>
        rw [hx] at hi
        obtain rfl : j = i := by simp only at hi; omega
        exact ⟨by rw [he]; simp, hA, hg⟩
    · rw [hf]
      rw [freeOf_idx] at hi
      cases hx : freeIdx cs with
      | none => exact ⟨he, n, hw⟩
      | some j => rw [hx] at hi; simp only at hi; omega

theorem find_range {n i : Nat} {p : Nat → Bool} (h : (List.range n).find? p = some i) : i < n ∧ p i = true ∧ ∀ j, j < i → p j = false := by
  rw [List.find?_range_eq_some] at h
  exact ⟨by simpa using h.2.1, h.1, fun j hj => by simpa using h.2.2 j hj⟩

/-- What an allocation does to the objects. -/
theorem allocC_put {cs : List Chunk} (hg : Good cs) {size : Int} (h1 : 1 ≤ size) (h2 : size ≤ 262144) {cs' : List Chunk} {x : Nat} (h : allocC cs size = some (cs', x)) :
    Good cs' ∧ cs'.length = cs.length ∧ Put (objs cs) (objs cs') ⟨x, size, roomOf size, false⟩ := by
  unfold allocC at h
  by_cases h5 : cls size = 5
  · rw [if_pos h5] at h
    have h512 : 512 < size := by
      apply Int.lt_of_not_ge
      intro hle
      have := cls_small size hle
      omega
    obtain ⟨many, hm⟩ : ∃ many : Nat, ((many : Nat) : Int) = (size + 1023) / 1024 := ⟨((size + 1023) / 1024).toNat, by omega⟩
    rw [show ((size + 1023) / 1024).toNat = many by omega] at h
    cases hf : findRun cs many with
    | none => rw [hf] at h; cases h
    | some i =>
      rw [hf] at h
      simp only [Option.some.injEq, Prod.mk.injEq] at h
      obtain ⟨rfl, rfl⟩ := h
      obtain ⟨a1, a2, _⟩ := find_range hf
      have hi : i + many ≤ cs.length := by omega
      obtain ⟨g, p⟩ := large_new hg a2 hi h512 h2 hm
      refine ⟨g, by simp [largeAt, tails_length], ?_⟩
      have er : roomOf size = many * 1024 := by
        unfold roomOf; rw [if_neg (by omega), ← hm]; omega
      rw [er]; exact p
  · rw [if_neg h5] at h
    have hk4 : cls size ≤ 4 := by have := cls_le size; omega
    have er : roomOf size = 32 * 2 ^ cls size := by unfold roomOf; rw [if_pos (by omega)]
    rw [er]
    cases hf : firstRoom cs (cls size) with
    | some i =>
      rw [hf] at h
      simp only [Option.some.injEq, Prod.mk.injEq] at h
      obtain ⟨rfl, rfl⟩ := h
      obtain ⟨a1, a2, _⟩ := find_range hf
      have hc : cs[i]? = some (cs.getD i Chunk.zero) := by simp [List.getD, List.getElem?_eq_getElem a1]
      obtain ⟨g, p⟩ := slot_old hg hc a2 h1 rfl
      exact ⟨g, by simp, p⟩
    | none =>
      rw [hf] at h
      simp only at h
      cases hx : freeIdx cs with
      | none => rw [hx] at h; cases h
      | some i =>
        rw [hx] at h
        simp only [Option.some.injEq, Prod.mk.injEq] at h
        obtain ⟨rfl, rfl⟩ := h
        obtain ⟨a1, a2, _⟩ := find_range hx
        have hc : cs[i]? = some (cs.getD i Chunk.zero) := by simp [List.getD, List.getElem?_eq_getElem a1]
        have hz : cs.getD i Chunk.zero = Chunk.zero := by
          have hw : (cs.getD i Chunk.zero).what = 0 := by simpa using a2
          rcases hg.mem _ (List.mem_of_getElem? hc) with h | h | ⟨_, _, _, _, _, _, h⟩ | h
          · exact h
          · have := h.what; omega
          · rw [h] at hw; simp [headM, headC] at hw
          · rw [h] at hw; simp [tailC] at hw
        rw [hz] at hc
        obtain ⟨g, p⟩ := slot_new hg hc hk4 h1 rfl
        exact ⟨g, by simp, p⟩

theorem Put.length {l m : List PObj} {o : PObj} (h : Put l m o) : m.length = l.length + 1 := by
  obtain ⟨A, B, rfl, rfl⟩ := h; simp; omega
theorem Put.size {l m : List PObj} {o : PObj} (h : Put l m o) : sumSize m = sumSize l + o.size := by
  obtain ⟨A, B, rfl, rfl⟩ := h; simp [sumSize]; omega
theorem Put.room {l m : List PObj} {o : PObj} (h : Put l m o) : sumRoom m = sumRoom l + o.room := by
  obtain ⟨A, B, rfl, rfl⟩ := h; simp [sumRoom]; omega

/-! ### Objects of one size in a new pool -/
def Fulls (k : Nat) (F : List Chunk) : Prop := ∀ c ∈ F, c.what = 1 ∧ c.cls = k ∧ c.taken = full k
def Part (k r : Nat) (P : List Chunk) : Prop := if r = 0 then P = [] else ∃ c, P = [c] ∧ c.what = 1 ∧ c.cls = k ∧ c.taken = 2 ^ r - 1
def ShapeS (k j : Nat) (cs : List Chunk) : Prop := ∃ F P m r, cs = F ++ P ++ List.replicate m Chunk.zero ∧ r < 32 / 2 ^ k ∧ Fulls k F ∧ Part k r P ∧ j = F.length * (32 / 2 ^ k) + r

theorem low0_ones {r : Nat} (h : r < 32) : low0 (2 ^ r - 1) = r := by
  have hp : 2 ^ r ≤ 2 ^ 31 := Nat.pow_le_pow_right (by decide) (by omega)
  have hp0 : 0 < 2 ^ r := Nat.pow_pos (by decide)
  obtain ⟨h1, h2, h3⟩ := low0_bits (t := 2 ^ r - 1) (by omega) (by omega)
  rw [Nat.testBit_two_pow_sub_one] at h2
  simp at h2
  apply Nat.le_antisymm _ h2
  apply Nat.le_of_not_lt
  intro hlt
  have := h3 r hlt
  rw [Nat.testBit_two_pow_sub_one] at this
  simp at this
theorem ones_succ (r : Nat) : (2 ^ r - 1) ||| 2 ^ r = 2 ^ (r + 1) - 1 := by
  apply Nat.eq_of_testBit_eq
  intro j
  rw [testBit_or, Nat.testBit_two_pow_sub_one, Nat.testBit_two_pow_sub_one]
  rw [Bool.eq_iff_iff]; simp; omega
theorem per_two {k : Nat} (hk : k ≤ 4) : 2 ≤ 32 / 2 ^ k := by
  obtain rfl | rfl | rfl | rfl | rfl : k = 0 ∨ k = 1 ∨ k = 2 ∨ k = 3 ∨ k = 4 := by omega
  all_goals decide

theorem getD_mid (A : List Chunk) (c : Chunk) (B : List Chunk) : (A ++ c :: B).getD A.length Chunk.zero = c := by simp [List.getD]
theorem getD_left (A B : List Chunk) (j : Nat) (h : j < A.length) : ∃ c ∈ A, (A ++ B).getD j Chunk.zero = c := ⟨A[j], List.getElem_mem h, by simp [List.getD, List.getElem?_append_left h, h]⟩
theorem set_mid (A : List Chunk) (c d : Chunk) (B : List Chunk) : (A ++ c :: B).set A.length d = A ++ d :: B := by
  rw [List.set_append_right _ _ (Nat.le_refl _)]; simp

theorem firstRoom_mid {A : List Chunk} {c : Chunk} {B : List Chunk} {k : Nat} (hA : ∀ x ∈ A, room x k = false) (hc : room c k = true) : firstRoom (A ++ c :: B) k = some A.length := by
  refine find_some_step (by simp) (fun j hj => ?_) (by rw [getD_mid]; exact hc)
  obtain ⟨x, hx, e⟩ := getD_left A (c :: B) j hj
  rw [e]; exact hA x hx
theorem firstRoom_none {cs : List Chunk} {k : Nat} (h : ∀ x ∈ cs, room x k = false) : firstRoom cs k = none := by
  refine find_none_step fun j hj => ?_
  have e : cs.getD j Chunk.zero = cs[j] := by simp [List.getD, List.getElem?_eq_getElem hj]
  rw [e]; exact h _ (List.getElem_mem hj)
theorem freeIdx_mid {A : List Chunk} {c : Chunk} {B : List Chunk} (hA : ∀ x ∈ A, x.what ≠ 0) (hc : c.what = 0) : freeIdx (A ++ c :: B) = some A.length := by
  refine find_some_step (by simp) (fun j hj => ?_) (by rw [getD_mid]; simp [hc])
  obtain ⟨x, hx, e⟩ := getD_left A (c :: B) j hj
  rw [e]; simpa using hA x hx

theorem shapeS_step {n : Int} {k j : Nat} (hk : cls n = k) (hk4 : k ≤ 4) {cs : List Chunk} (h : ShapeS k j cs) (hl : cs.length = 200) (hj : j < 60) : ∃ cs' x, allocC cs n = some (cs', x) ∧ ShapeS k (j + 1) cs' := by
  obtain ⟨F, P, m, r, rfl, hr, hF, hP, rfl⟩ := h
  have h2 := per_two hk4
  have h32 : 32 / 2 ^ k ≤ 32 := Nat.div_le_self _ _
  have hfull : full k = 2 ^ (32 / 2 ^ k) - 1 := rfl
  have hFr : ∀ x ∈ F, room x k = false := fun x hx => by simp [room, (hF x hx).2.2]
  have hFw : ∀ x ∈ F, x.what ≠ 0 := fun x hx => by rw [(hF x hx).1]; decide
  unfold allocC
  rw [hk, if_neg (by omega)]
  generalize hper : 32 / 2 ^ k = per at *
  -- what a chunk with one slot more means
  have fin : ∀ (c : Chunk) (s : Nat), c.what = 1 → c.cls = k → c.taken = 2 ^ r - 1 → s = r → ShapeS k (F.length * per + r + 1) (F ++ slotC c s n :: List.replicate (if r = 0 then m - 1 else m) Chunk.zero) := by
    intro c s hw hc ht hs
    subst hs
    have ht' : (slotC c s n).taken = 2 ^ (s + 1) - 1 := by show c.taken ||| 2 ^ s = _; rw [ht, ones_succ]
    by_cases e : s + 1 = per
    · refine ⟨F ++ [slotC c s n], [], (if s = 0 then m - 1 else m), 0, by simp, by omega, ?_, ?_, ?_⟩
      · intro x hx
        rcases List.mem_append.1 hx with hx | hx
        · exact hF x hx
        · simp at hx; subst hx; exact ⟨hw, hc, by rw [ht', e, hfull]⟩
      · unfold Part; rw [if_pos rfl]
      · rw [hper]; simp [Nat.add_mul]; omega
    · refine ⟨F, [slotC c s n], (if s = 0 then m - 1 else m), s + 1, by simp, by omega, hF, ?_, by rw [hper]; omega⟩
      unfold Part; rw [if_neg (by omega)]
      exact ⟨_, rfl, hw, hc, ht'⟩
  by_cases hr0 : r = 0
  · subst hr0
    unfold Part at hP
    rw [if_pos rfl] at hP
    subst hP
    have hFl : F.length ≤ 30 := by
      have : F.length * 2 ≤ F.length * per := Nat.mul_le_mul_left _ h2
      omega
    have hm : 0 < m := by simp at hl; omega
    obtain ⟨m', rfl⟩ : ∃ m', m = m' + 1 := ⟨m - 1, by omega⟩
    have hnone : firstRoom (F ++ [] ++ List.replicate (m' + 1) Chunk.zero) k = none := firstRoom_none fun x hx => by
      simp only [List.append_nil, List.mem_append] at hx
      rcases hx with hx | hx
      · exact hFr x hx
      · rw [List.eq_of_mem_replicate hx]; rfl
    have hfi : freeIdx (F ++ [] ++ List.replicate (m' + 1) Chunk.zero) = some F.length := by
      rw [List.append_nil, List.replicate_succ]; exact freeIdx_mid hFw rfl
    rw [hnone]
    simp only [hfi]
    refine ⟨_, _, rfl, ?_⟩
    rw [List.append_nil, List.replicate_succ, set_mid]
    have := fin (newC k) 0 rfl rfl (by simp [newC, Chunk.zero]) rfl
    simpa using this
  · unfold Part at hP
    rw [if_neg hr0] at hP
    obtain ⟨c, rfl, hw, hc, ht⟩ := hP
    have hne : c.taken ≠ full k := by
      rw [ht, hfull]
      have : 2 ^ r < 2 ^ per := Nat.pow_lt_pow_right (by decide) hr
      have : 0 < 2 ^ r := Nat.pow_pos (by decide)
      omega
    have hroom : room c k = true := by simp [room, hw, hc, hne]
    have hsome : firstRoom (F ++ [c] ++ List.replicate m Chunk.zero) k = some F.length := by
      rw [List.append_assoc]; exact firstRoom_mid hFr hroom
    rw [hsome]
    have hg : (F ++ [c] ++ List.replicate m Chunk.zero).getD F.length Chunk.zero = c := by rw [List.append_assoc]; exact getD_mid _ _ _
    simp only [hg]
    refine ⟨_, _, rfl, ?_⟩
    rw [List.append_assoc, List.singleton_append, set_mid]
    have := fin c (low0 c.taken) hw hc ht (by rw [ht]; exact low0_ones (by omega))
    rw [if_neg hr0] at this
    exact this

def ShapeL (many j : Nat) (cs : List Chunk) : Prop := ∃ Z m, cs = Z ++ List.replicate m Chunk.zero ∧ (∀ c ∈ Z, c.what ≠ 0) ∧ Z.length = j * many

theorem shapeL_step {n : Int} {many j : Nat} (h5 : cls n = 5) (hm : ((many : Nat) : Int) = (n + 1023) / 1024) (hm1 : 1 ≤ many) (hm2 : many ≤ 2) {cs : List Chunk} (h : ShapeL many j cs) (hl : cs.length = 200) (hj : j < 60) :
    ∃ cs' x, allocC cs n = some (cs', x) ∧ ShapeL many (j + 1) cs' := by
  obtain ⟨Z, m, rfl, hZ, hlz⟩ := h
  unfold allocC
  rw [if_pos h5, show ((n + 1023) / 1024).toNat = many by omega]
  have hbound : j * many ≤ 59 * 2 := Nat.mul_le_mul (by omega) hm2
  have hmz : many ≤ m := by simp at hl; omega
  have hrun : freeRun (Z ++ List.replicate m Chunk.zero) Z.length many = true := by
    unfold freeRun
    rw [List.all_eq_true]
    intro q hq
    simp at hq
    simp [List.getD, show q < m by omega, Chunk.zero]
  have hfr : findRun (Z ++ List.replicate m Chunk.zero) many = some Z.length := by
    refine find_some_step (by simp; omega) (fun q hq => ?_) hrun
    unfold freeRun
    rw [Bool.eq_false_iff]
    intro hall
    rw [List.all_eq_true] at hall
    have := hall 0 (by simp; omega)
    rw [Nat.add_zero] at this
    obtain ⟨x, hx, e⟩ := getD_left Z (List.replicate m Chunk.zero) q hq
    rw [e] at this
    exact hZ x hx (by simpa using this)
  rw [hfr]
  refine ⟨_, _, rfl, ?_⟩
  rw [large_split _ _ _ hm1 (by simp; omega)]
  refine ⟨Z ++ headM n many false :: List.replicate (many - 1) tailC, m - many, ?_, ?_, ?_⟩
  · rw [List.take_left' rfl, List.drop_append, List.drop_eq_nil_of_le (by omega), List.nil_append, List.drop_replicate, List.append_assoc, List.append_assoc]
    congr 3
    omega
  · intro c hc
    rcases List.mem_append.1 hc with hc | hc
    · exact hZ c hc
    · rcases List.mem_cons.1 hc with rfl | hc
      · simp [headM, headC]
      · rw [List.eq_of_mem_replicate hc]; decide
  · simp [hlz, Nat.add_mul]; omega

/-- What PoolRooms counts. -/
def nf (cs : List Chunk) : Nat := (cs.filter fun c => !(c.what == 0)).length
theorem nf_append (a b : List Chunk) : nf (a ++ b) = nf a + nf b := by simp [nf]
theorem nf_zeros (m : Nat) : nf (List.replicate m Chunk.zero) = 0 := by simp [nf, Chunk.zero]
theorem nf_all {F : List Chunk} (h : ∀ c ∈ F, c.what ≠ 0) : nf F = F.length := by
  unfold nf
  rw [List.filter_eq_self.2]
  intro c hc
  simpa using h c hc
theorem nf_shapeS {k j : Nat} {cs : List Chunk} (hk : k ≤ 4) (h : ShapeS k j cs) : nf cs = (j + 32 / 2 ^ k - 1) / (32 / 2 ^ k) := by
  obtain ⟨F, P, m, r, rfl, hr, hF, hP, rfl⟩ := h
  have h2 := per_two hk
  generalize 32 / 2 ^ k = per at *
  rw [nf_append, nf_append, nf_zeros, nf_all (fun c hc => by rw [(hF c hc).1]; decide)]
  unfold Part at hP
  by_cases h0 : r = 0
  · rw [if_pos h0] at hP
    subst h0; subst hP
    rw [show F.length * per + 0 + per - 1 = (per - 1) + F.length * per by omega, Nat.add_mul_div_right _ _ (by omega), Nat.div_eq_of_lt (by omega)]
    simp [nf]
  · rw [if_neg h0] at hP
    obtain ⟨c, rfl, hw, _⟩ := hP
    rw [show F.length * per + r + per - 1 = (r - 1) + (F.length + 1) * per by rw [Nat.add_mul]; omega, Nat.add_mul_div_right _ _ (by omega), Nat.div_eq_of_lt (by omega)]
    simp [nf, hw]
theorem nf_shapeL {many j : Nat} {cs : List Chunk} (h : ShapeL many j cs) : nf cs = j * many := by
  obtain ⟨Z, m, rfl, hZ, hl⟩ := h
  rw [nf_append, nf_zeros, nf_all hZ, hl]; rfl

/-- All that PoolRooms asks of the pool behind j allocations of n bytes. -/
structure Rooms (n : Int) (j : Nat) (cs : List Chunk) : Prop where
  good : Good cs
  len : cs.length = 200
  count : (objs cs).length = j
  size : sumSize (objs cs) = j * n
  room : sumRoom (objs cs) = j * roomOf n
  small : cls n ≤ 4 → ShapeS (cls n) j cs
  large : cls n = 5 → ShapeL ((n + 1023) / 1024).toNat j cs

theorem Rooms.zero (n : Int) : Rooms n 0 (List.replicate 200 Chunk.zero) := by
  have he : objs (List.replicate 200 Chunk.zero) = [] := by rw [objs_eq, objsL_zeros]
  refine ⟨Good.zeros _, List.length_replicate, by rw [he]; rfl, by rw [he]; simp [sumSize], by rw [he]; simp [sumRoom], fun h => ?_, fun _ => ⟨[], 200, rfl, by simp, by simp⟩⟩
  refine ⟨[], [], 200, 0, rfl, by have := per_two h; omega, by intro c hc; simp at hc, by unfold Part; rw [if_pos rfl], by simp⟩

theorem Rooms.step {n : Int} {j : Nat} {cs : List Chunk} (h : Rooms n j cs) (h1 : 1 ≤ n) (h2 : n ≤ 2000) (hj : j < 60) : ∃ cs' x, allocC cs n = some (cs', x) ∧ Rooms n (j + 1) cs' := by
  by_cases h5 : cls n = 5
  · have h512 : 512 < n := by
      apply Int.lt_of_not_ge
      intro hle
      have := cls_small n hle
      omega
    obtain ⟨cs', x, ha, hs⟩ := shapeL_step (many := ((n + 1023) / 1024).toNat) h5 (by omega) (by omega) (by omega) (h.large h5) h.len hj
    obtain ⟨g, l, p⟩ := allocC_put h.good h1 (by omega) ha
    refine ⟨cs', x, ha, g, l.trans h.len, by rw [p.length, h.count], ?_, ?_, fun h4 => by omega, fun _ => hs⟩
    · rw [p.size, h.size]; simp [Int.add_mul]
    · rw [p.room, h.room]; simp [Int.add_mul]
  · have h4 : cls n ≤ 4 := by have := cls_le n; omega
    obtain ⟨cs', x, ha, hs⟩ := shapeS_step rfl h4 (h.small h4) h.len hj
    obtain ⟨g, l, p⟩ := allocC_put h.good h1 (by omega) ha
    refine ⟨cs', x, ha, g, l.trans h.len, by rw [p.length, h.count], ?_, ?_, fun _ => hs, fun h => by omega⟩
    · rw [p.size, h.size]; simp [Int.add_mul]
    · rw [p.room, h.room]; simp [Int.add_mul]
end Go.Proofs.YtdgfnlagbdmniaaDoor.Pl
namespace Go.Proofs.YtdgfnlagbdmniaaDoor.Pl
open Go.RowKit

theorem segObjs_len (c : Chunk) (i : Nat) : (segObjs c i).length ≤ 32 := by
  rw [segObjs, List.length_map, placesOf]
  split
  · simp
  · split
    · rw [List.length_map, slotsOf]
      refine Nat.le_trans (List.length_filter_le _ _) ?_
      rw [List.length_range]; exact Nat.div_le_self _ _
    · simp
theorem objsL_len (cs : List Chunk) : ∀ i, (objsL i cs).length ≤ 32 * cs.length := by
  induction cs with
  | nil => intro i; simp [objsL]
  | cons c cs ih => intro i; have := segObjs_len c i; have := ih (i + 1); simp [objsL]; omega
theorem roomOf_le (n : Int) (h : n ≤ 262144) : roomOf n ≤ 1000000 := by
  unfold roomOf
  split
  · rename_i hc
    have : 2 ^ cls n ≤ 2 ^ 4 := Nat.pow_le_pow_right (by decide) (by omega)
    omega
  · omega
theorem Good.small {cs : List Chunk} (h : Good cs) (hl : cs.length ≤ 256) : Small (objs cs) := by
  have h1 := objsL_len cs 0
  have h2 := (good_objs h 0).1
  rw [← objs_eq] at h1 h2
  refine ⟨by omega, fun o ho => ?_⟩
  obtain ⟨_, _, a, b, c, d⟩ := h2 o ho
  exact ⟨by omega, Int.le_trans b (by decide), by rw [d]; exact roomOf_le _ b⟩

theorem mapStr_size (cs : List Chunk) : (mapStr cs).size = cs.length := by simp [mapStr, ByteArray.size]
theorem mapStr_get (cs : List Chunk) (hw : ∀ c ∈ cs, c.what ≤ 3 ∧ c.cls ≤ 4) (p : Nat) (h : p < (mapStr cs).size) (c : Chunk) (hc : cs[p]? = some c) : ((mapStr cs)[p]'h).toNat = ch c ∧ ch c < 128 ∧ (ch c = 46 ↔ c.what = 0) := by
  obtain ⟨h1, h2⟩ := hw c (List.mem_of_getElem? hc)
  have hch : ch c < 128 ∧ (ch c = 46 ↔ c.what = 0) := by
    unfold ch
    split
    · exact ⟨by omega, by omega⟩
    · split
      · exact ⟨by omega, by omega⟩
      · split
        · exact ⟨by omega, by omega⟩
        · exact ⟨by omega, by omega⟩
  refine ⟨?_, hch⟩
  have hp : p < cs.length := (List.getElem?_eq_some_iff.1 hc).1
  have e : (mapStr cs)[p]'h = UInt8.ofNat (ch c) := by
    have e2 : (mapStr cs).data[p]? = some (UInt8.ofNat (ch c)) := by simp [mapStr, hc]
    exact (Array.getElem?_eq_some_iff.1 e2).2
  rw [e]
  rw [UInt8.toNat_ofNat']
  omega
theorem nf_snoc (cs : List Chunk) (p : Nat) (c : Chunk) (h : cs[p]? = some c) : nf (cs.take (p + 1)) = nf (cs.take p) + if c.what = 0 then 0 else 1 := by
  rw [List.take_add_one, h, nf_append]
  congr 1
  by_cases e : c.what = 0 <;> simp [nf, e]

set_option maxRecDepth 100000 in
set_option maxHeartbeats 2000000 in
theorem rooms_walk (x y : Int) (hx0 : 0 ≤ x) (hx : x ≤ 65535) (hy0 : 0 ≤ y) (hy : y ≤ 255) (w : World) (hT : Tab w) :
    Calls Tryd.prog 3 #[.int .u16 x, .int .u8 y] w fun e w' => e = .returned (.bool true) ∧ Below w.heap.size w w' := by
  obtain ⟨n, hn⟩ : ∃ n : Int, n = x % 2000 + 1 := ⟨_, rfl⟩
  obtain ⟨k, hk⟩ : ∃ k : Nat, (k : Int) = y % 60 := ⟨(y % 60).toNat, by omega⟩
  have hn1 : 1 ≤ n := by omega
  have hn2 : n ≤ 2000 := by omega
  have hk2 : k < 60 := by omega
  have HN := Lib.hid hn; clear hn
  have HK := Lib.hid hk; clear hk
  have HT := Lib.hid hT; clear hT
  go_enter Tryd.func3, Tryd.ntmps3
  go_wp2_with fail
  refine (awake_at _ HT.out).mono ?_
  rintro e w1 ⟨rfl, hb1⟩
  have HB1 := Lib.hid hb1; clear hb1
  have HT1 := Lib.hid (HT.out.below HB1.out HT.out.lt)
  go_wp2_with fail
  rw [← HN.out, ← HK.out]
  refine (new_ok 200 (by decide) (by decide) _).mono ?_
  rintro e w2 ⟨a, b, rfl, ha, hb, hA, hg⟩
  have HB2 : Hid (Below w.heap.size w w2) := HB1.out.trans ((fr_below (fr_none hg (some b)) hb (Nat.le_refl _)).mono HB1.out.size)
  have HT2 := Lib.hid (HT.out.below HB2.out HT.out.lt)
  have HBL : Hid (w.heap.size ≤ b) := Nat.le_trans HB1.out.size hb
  have HBP : Hid (0 < b) := Nat.lt_of_lt_of_le HT.out.lt HBL.out
  have HA2 := Lib.hid hA; clear hA hg ha hb
  go_wp2_with fail
  go_loopw [34] (fun s wr => ∃ (j : Nat) (cs : List Chunk), j ≤ k ∧ s = .int .i64 j ∧ At wr a b cs ∧ Rooms n j cs ∧ Tab wr ∧ Below w.heap.size w wr) (fun s _ => k - (intOf s).toNat)
  case atStart => exact ⟨0, _, by omega, rfl, HA2.out, Rooms.zero n, HT2.out, HB2.out⟩
  case round =>
    obtain ⟨j, cs, hj, rfl, hA, hR, hT, hB⟩ := hrel
    have HA := Lib.hid hA; clear hA
    have HR := Lib.hid hR; clear hR
    have HTr := Lib.hid hT; clear hT
    have HBr := Lib.hid hB; clear hB
    by_cases hlt : j < k
    · go_wp2_with fail
      refine (alloc_at HA.out HR.out.good.wf HTr.out HBP.out n).mono ?_
      rintro e w3 hP
      have hP' := alloc_fn hn1 (by omega) hP
      obtain ⟨cs', y', hal, hR'⟩ := HR.out.step hn1 hn2 (by omega)
      rw [hal] at hP'
      obtain ⟨rfl, hA', hg'⟩ := hP'
      have HA' := Lib.hid hA'; clear hA'
      have HR' := Lib.hid hR'; clear hR'
      have HT' := Lib.hid (HTr.out.grown hg' HBP.out)
      have HB' : Hid (Below w.heap.size w w3) := HBr.out.trans (fr_below hg' HBL.out HBr.out.size)
      clear hP hal hg'
      go_wp2
      go_roundw
      case rel => exact ⟨j + 1, cs', by omega, by go_num, HA'.out, HR'.out, HT'.out, HB'.out⟩
      case measure => simp [intOf]; omega
    · obtain rfl : j = k := by omega
      have HUS := Lib.hid (used_at HA.out HR.out.good.rd (HR.out.good.small (by rw [HR.out.len]; decide)))
      rw [HR.out.count, HR.out.size] at HUS
      have HSR := Lib.hid HR.out.room
      generalize sumRoom (objs cs) = SR at *
      have q0 : 0 ≤ (j : Int) * n := Int.mul_nonneg (by omega) (by omega)
      have q1 : (j : Int) * n ≤ 118000 := by
        have h1 : (j : Int) * n ≤ 59 * n := Int.mul_le_mul_of_nonneg_right (by omega) (by omega)
        omega
      go_wp2_with fail
      refine HUS.out.mono ?_
      rintro e w3 ⟨rfl, hb3⟩
      have HA3 := Lib.hid (HA.out.below hb3 HA.out.lt_a HA.out.lt_b)
      have HB3 : Hid (Below w.heap.size w w3) := HBr.out.trans (hb3.mono HBr.out.size)
      clear hb3 HUS
      go_wp2_with fail
      refine (map_walk HA3.out HR.out.good.what).mono ?_
      rintro e w4 ⟨rfl, hb4⟩
      have HB4 : Hid (Below w.heap.size w w4) := HB3.out.trans (hb4.mono HB3.out.size)
      clear hb4
      have HMS := Lib.hid (mapStr_size cs)
      have HMG := Lib.hid (mapStr_get cs HR.out.good.what)
      have HNF := Lib.hid (nf_snoc cs)
      generalize mapStr cs = S at *
      go_wp2_with fail
      go_loopw [14] (fun s wr => ∃ p : Nat, p ≤ 200 ∧ wr = w4.iter S p ∧ s = .int .i64 (nf (cs.take p))) (fun _ wr => 200 - wr.iterPos w4.heap.size)
      case atStart => exact ⟨0, by omega, rfl, rfl⟩
      case round =>
        obtain ⟨p, hp, rfl, rfl⟩ := hrel
        by_cases hps : p < 200
        · obtain ⟨c, hc⟩ : ∃ c, cs[p]? = some c := ⟨cs[p]'(by rw [HR.out.len]; exact hps), by simp⟩
          have hsz : p < S.size := by rw [HMS.out, HR.out.len]; exact hps
          obtain ⟨g1, g2, g3⟩ := HMG.out p hsz c hc
          have hnx : ∀ ty, (Instr.next (.pointer (some ⟨w4.heap.size, 0, none⟩)) true ty).run Tryd.prog (w4.iter S p) = _ := fun ty => run_next_ascii w4 S p ty hsz (by rw [g1]; exact g2)
          rw [g1] at hnx
          have hnf := HNF.out p c hc
          have hnb : nf (cs.take p) ≤ 200 := by
            refine Nat.le_trans (List.length_filter_le _ _) ?_
            simp; omega
          by_cases h0 : c.what = 0
          · rw [if_pos h0] at hnf
            have HF := Lib.hid hnf; clear hnf
            have e : (((ch c : Nat) : Int) != 46) = false := by have := g3.2 h0; simp; omega
            clear hc g1 g2 g3 h0
            generalize nf (cs.take p) = NP at *
            go_wp2
            go_roundw
            case rel => exact ⟨p + 1, by omega, rfl, by rw [HF.out]; rfl⟩
            case measure => simp; omega
          · rw [if_neg h0] at hnf
            have HF := Lib.hid hnf; clear hnf
            have e : (((ch c : Nat) : Int) != 46) = true := by have := fun h => h0 (g3.1 h); simp; omega
            clear hc g1 g2 g3 h0
            generalize nf (cs.take p) = NP at *
            go_wp2
            go_roundw
            case rel => exact ⟨p + 1, by omega, rfl, by rw [HF.out]; go_num⟩
            case measure => simp; omega
        · obtain rfl : p = 200 := by omega
          have hnx : ∀ ty, (Instr.next (.pointer (some ⟨w4.heap.size, 0, none⟩)) true ty).run Tryd.prog (w4.iter S 200) = _ := fun ty => run_next_end w4 S 200 ty (by rw [HMS.out, HR.out.len]; omega)
          rw [List.take_of_length_le (by rw [HR.out.len]; exact Nat.le_refl _)]
          have HNS := Lib.hid (fun h4 => nf_shapeS (cs := cs) h4 (HR.out.small h4))
          have HNL := Lib.hid (fun h5 => nf_shapeL (cs := cs) (HR.out.large h5))
          generalize nf cs = NF at *
          go_wp2_with fail
          have HB5 : Hid (Below w.heap.size w (w4.iter S 200)) := HB4.out.alloc HB4.out.size _
          generalize w4.iter S 200 = W5 at *
          go_loop [17] (fun s => ∃ t : Nat, t ≤ 4 ∧ t ≤ cls n ∧ s = .int .i64 ((32 * 2 ^ t : Nat) : Int)) (fun s => 1024 - (intOf s).toNat)
          case atStart => exact ⟨0, by omega, by omega, rfl⟩
          case round =>
            obtain ⟨t, ht4, htc, rfl⟩ := hrel
            have hst := cls_step n t (by omega) htc
            have hl5 := cls_le n
            clear hnx q0 q1
            by_cases hgo : t < 4 ∧ t < cls n
            · obtain ⟨h4, hc⟩ := hgo
              have hlt := hst.2 hc
              clear hst
              obtain rfl | rfl | rfl | rfl : t = 0 ∨ t = 1 ∨ t = 2 ∨ t = 3 := by omega
              all_goals
                simp at hlt
                go_wp2
                go_round
                case rel => exact ⟨_, by omega, hc, by go_num⟩
                case measure => simp [intOf]
            · have hmany : cls n = t ∨ (t = 4 ∧ cls n = 5) := by omega
              rcases hmany with hc | ⟨rfl, hc⟩
              · have hle : ¬ ((32 * 2 ^ t : Nat) : Int) < n := fun h => by have := hst.1 h; omega
                have h512 : n ≤ 512 := by
                  apply Int.le_of_not_gt
                  intro h
                  have := cls_five n h
                  omega
                have hro : roomOf n = 32 * 2 ^ t := by unfold roomOf; rw [if_pos (by omega), hc]
                have hlow : t = 0 ∨ ((32 * 2 ^ (t - 1) : Nat) : Int) < n := by
                  by_cases h0 : t = 0
                  · exact .inl h0
                  · exact .inr ((cls_step n (t - 1) (by omega) (by omega)).2 (by omega))
                have hnf := HNS.out (by omega)
                rw [hc] at hnf
                have hsr := HSR.out
                rw [hro] at hsr
                clear hst hgo hro hc htc hl5 HSR HNS HNL
                obtain rfl | rfl | rfl | rfl | rfl : t = 0 ∨ t = 1 ∨ t = 2 ∨ t = 3 ∨ t = 4 := by omega
                · simp at hle hnf hsr hlow
                  have e1 : ((NF : Int) == ((j : Int) + 32 - 1) / 32) = true := by simp; omega
                  have e2 : decide (n ≤ 32) = true := decide_eq_true (by omega)
                  clear hnf hlow
                  subst hsr
                  go_wp2_with fail
                  go_quiet (fail)
                  go_wp2_with fail
                  go_ret
                  exact ⟨rfl, HB5.out.trans ⟨rfl, rfl, rfl, Nat.le_refl _, fun _ _ => rfl⟩⟩
                · simp at hle hnf hsr hlow
                  have e1 : ((NF : Int) == ((j : Int) + 16 - 1) / 16) = true := by simp; omega
                  have e2 : decide (n ≤ 32) = false := decide_eq_false (by omega)
                  have e3 : decide (64 < 2 * n) = true := decide_eq_true (by omega)
                  clear hnf hlow
                  subst hsr
                  go_wp2_with fail
                  go_quiet (fail)
                  go_wp2_with fail
                  go_ret
                  exact ⟨rfl, HB5.out.trans ⟨rfl, rfl, rfl, Nat.le_refl _, fun _ _ => rfl⟩⟩
                · simp at hle hnf hsr hlow
                  have e1 : ((NF : Int) == ((j : Int) + 8 - 1) / 8) = true := by simp; omega
                  have e2 : decide (n ≤ 32) = false := decide_eq_false (by omega)
                  have e3 : decide (128 < 2 * n) = true := decide_eq_true (by omega)
                  clear hnf hlow
                  subst hsr
                  go_wp2_with fail
                  go_quiet (fail)
                  go_wp2_with fail
                  go_ret
                  exact ⟨rfl, HB5.out.trans ⟨rfl, rfl, rfl, Nat.le_refl _, fun _ _ => rfl⟩⟩
                · simp at hle hnf hsr hlow
                  have e1 : ((NF : Int) == ((j : Int) + 4 - 1) / 4) = true := by simp; omega
                  have e2 : decide (n ≤ 32) = false := decide_eq_false (by omega)
                  have e3 : decide (256 < 2 * n) = true := decide_eq_true (by omega)
                  clear hnf hlow
                  subst hsr
                  go_wp2_with fail
                  go_quiet (fail)
                  go_wp2_with fail
                  go_ret
                  exact ⟨rfl, HB5.out.trans ⟨rfl, rfl, rfl, Nat.le_refl _, fun _ _ => rfl⟩⟩
                · simp at hle hnf hsr hlow
                  have e1 : ((NF : Int) == ((j : Int) + 2 - 1) / 2) = true := by simp; omega
                  have e2 : decide (n ≤ 32) = false := decide_eq_false (by omega)
                  have e3 : decide (512 < 2 * n) = true := decide_eq_true (by omega)
                  clear hnf hlow
                  subst hsr
                  go_wp2_with fail
                  go_quiet (fail)
                  go_wp2_with fail
                  go_ret
                  exact ⟨rfl, HB5.out.trans ⟨rfl, rfl, rfl, Nat.le_refl _, fun _ _ => rfl⟩⟩
              · have h512 : 512 < n := by
                  apply Int.lt_of_not_ge
                  intro h
                  have := cls_small n h
                  omega
                have hro : roomOf n = ((n + 1023) / 1024 * 1024).toNat := by unfold roomOf; rw [if_neg (by omega)]
                have hnf := HNL.out hc
                have hsr := HSR.out
                rw [hro] at hsr
                clear hst hgo hro hc htc hl5 HSR HNS HNL
                by_cases h1024 : n ≤ 1024
                · have hq : (n + 1023) / 1024 = 1 := by omega
                  rw [hq] at hnf hsr
                  simp at hnf hsr
                  subst hnf
                  subst hsr
                  have e1 : decide (1024 - n < 1024) = true := decide_eq_true (by omega)
                  go_wp2_with fail
                  go_ret
                  exact ⟨rfl, HB5.out⟩
                · have hq : (n + 1023) / 1024 = 2 := by omega
                  rw [hq] at hnf hsr
                  simp at hnf hsr
                  have e2 : ((NF : Int) == (j : Int) * 2048 / 1024) = true := by simp; omega
                  clear hnf
                  subst hsr
                  have e1 : decide (2048 - n < 1024) = true := decide_eq_true (by omega)
                  go_wp2_with fail
                  go_ret
                  exact ⟨rfl, HB5.out⟩

theorem u16_bd {x : Int} (h : (Lit.int .u16 x).wf = true) : 0 ≤ x ∧ x ≤ 65535 := by simpa [Lit.wf, IntKind.min, IntKind.max, IntKind.bits, IntKind.signed] using h
theorem u8_bd {x : Int} (h : (Lit.int .u8 x).wf = true) : 0 ≤ x ∧ x ≤ 255 := by simpa [Lit.wf, IntKind.min, IntKind.max, IntKind.bits, IntKind.signed] using h
theorem law_rooms (x y : Int) (hx : (Lit.int .u16 x).wf = true) (hy : (Lit.int .u8 y).wf = true) (w : World) (hT : Tab w) :
    Calls Tryd.prog 3 #[.int .u16 x, .int .u8 y] w fun e w' => e = .returned (.bool true) ∧ Below w.heap.size w w' :=
  rooms_walk x y (u16_bd hx).1 (u16_bd hx).2 (u8_bd hy).1 (u8_bd hy).2 w hT
end Go.Proofs.YtdgfnlagbdmniaaDoor.Pl
