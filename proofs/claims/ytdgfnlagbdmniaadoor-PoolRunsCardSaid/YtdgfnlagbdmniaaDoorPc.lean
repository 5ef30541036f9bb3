/- The pool: Alloc. -/
import Derived.Test.YtdgfnlagbdmniaaDoorPb
namespace Go.Proofs.YtdgfnlagbdmniaaDoor.Pl
open Go.RowKit

theorem At.drewN {w : World} {a b : Nat} {cs : List Chunk} (h : At w a b cs) (n : Nat) : At (w.drewN n) a b cs := ⟨h.head, h.body, h.ne, h.ok, h.few⟩
theorem fr_drewN {w w' : World} {b : Option Nat} (h : w.grownBy w' b) (n : Nat) : w.grownBy (w'.drewN n) b := ⟨h.os, h.tape, h.output, h.size, h.block⟩
theorem Tab.drewN {w : World} (h : Tab w) (n : Nat) : Tab (w.drewN n) := h

theorem all_rev (c : Nat) (hc : c ≤ 4) (w : World) :
    Calls Tryd.prog 29 #[.int .i64 c] w fun e w' => e = .returned (.int .u32 (full c : Nat)) ∧ w' = w := (all_any c hc w).mono fun _ _ h => ⟨h.1, h.2.symm⟩

/-- What is right of a chunk whatever was done. -/
structure Wf (c : Chunk) : Prop where
  sizes : c.sizes.length = 32
  cls : c.cls ≤ 4
  taken : c.taken < 2 ^ (32 / 2 ^ c.cls)
  marks : c.marks < 4294967296

def room (c : Chunk) (k : Nat) : Bool := c.what == 1 && (c.cls == k && !(c.taken == full k))
def low0 (t : Nat) : Nat := Lib.ctz 32 (4294967295 - t)
theorem low0_bits {t : Nat} (h : t < 4294967296) (h1 : t ≠ 4294967295) : low0 t < 32 ∧ t.testBit (low0 t) = false ∧ ∀ j, j < low0 t → t.testBit j = true := by
  obtain ⟨m, hm, hk⟩ := Lib.ctzFrom_spec 32 (4294967295 - t) (by omega) (by omega)
  have e : low0 t = Lib.ctzFrom 32 (4294967295 - t) := by unfold low0 Lib.ctz; rw [if_neg (by omega)]
  rw [← e] at hm hk
  have hb : ∀ j, (4294967295 - t).testBit j = (decide (j < 32) && !t.testBit j) := fun j => by
    have := Nat.testBit_two_pow_sub_succ (n := 32) (x := t) (by omega) j
    rw [show 2 ^ 32 - (t + 1) = 4294967295 - t by omega] at this
    exact this
  generalize low0 t = k at *
  have ht : ∀ j, (2 ^ k * (2 * m + 1)).testBit j = (decide (k ≤ j) && (2 * m + 1).testBit (j - k)) := fun j => by rw [Nat.mul_comm]; exact Nat.testBit_mul_two_pow _ _ _
  refine ⟨hk, ?_, fun j hj => ?_⟩
  · have a := hb k
    rw [hm, ht] at a
    simp [hk, Nat.testBit_zero] at a
    exact a
  · have a := hb j
    rw [hm, ht] at a
    have h32 : j < 32 := by omega
    have hkj : ¬ k ≤ j := by omega
    simp [h32, hkj] at a
    exact a
theorem low0_lt {t n : Nat} (hn : n ≤ 32) (h : t < 2 ^ n) (h1 : t ≠ 2 ^ n - 1) : low0 t < n := by
  have h32 : 2 ^ n ≤ 4294967296 := Nat.pow_le_pow_right (n := 2) (by decide) hn
  have hne : t ≠ 4294967295 := by
    intro e
    have : n = 32 := by
      apply Nat.le_antisymm hn
      apply Nat.le_of_not_lt
      intro hlt
      have : 2 ^ n ≤ 2 ^ 31 := Nat.pow_le_pow_right (by decide) (by omega)
      omega
    subst this
    omega
  obtain ⟨_, _, hlow⟩ := low0_bits (by omega) hne
  apply Nat.lt_of_not_le
  intro hle
  apply h1
  apply Nat.eq_of_testBit_eq
  intro j
  rw [Nat.testBit_two_pow_sub_one]
  by_cases hj : j < n
  · simp [hj, hlow j (by omega)]
  · simp only [hj, decide_false]
    exact Nat.testBit_lt_two_pow (Nat.lt_of_lt_of_le h (Nat.pow_le_pow_right (by decide) (by omega)))
theorem low0_room {t k : Nat} (hk : k ≤ 4) (h : t < 2 ^ (32 / 2 ^ k)) (h1 : t ≠ full k) : low0 t < 32 ∧ low0 t * (32 * 2 ^ k) < 1024 := by
  have hl : low0 t < 32 / 2 ^ k := low0_lt (Nat.div_le_self _ _) h h1
  obtain rfl | rfl | rfl | rfl | rfl : k = 0 ∨ k = 1 ∨ k = 2 ∨ k = 3 ∨ k = 4 := by omega
  all_goals (simp at hl ⊢; omega)
theorem taken_lt {t k : Nat} (h : t < 2 ^ (32 / 2 ^ k)) : t < 4294967296 := by
  have : 2 ^ (32 / 2 ^ k) ≤ 2 ^ 32 := Nat.pow_le_pow_right (by decide) (Nat.div_le_self _ _)
  omega
def newC (k : Nat) : Chunk := { Chunk.zero with what := 1, cls := k }

/-- The first free chunk among the first i, as Go holds it. -/
def freeOf (cs : List Chunk) (i : Nat) : Int := match (List.range i).find? (fun j => (cs.getD j Chunk.zero).what == 0) with | some j => (j : Int) | none => -1

theorem freeOf_succ (cs : List Chunk) (i : Nat) : freeOf cs (i + 1) = if freeOf cs i < 0 ∧ (cs.getD i Chunk.zero).what = 0 then (i : Int) else freeOf cs i := by
  unfold freeOf
  rw [List.range_succ, List.find?_append]
  cases h : (List.range i).find? (fun j => (cs.getD j Chunk.zero).what == 0) with
  | some j => simp; omega
  | none =>
    by_cases h0 : (cs[i]?.getD Chunk.zero).what = 0
    · simp [h0]
    · simp [h0]
theorem freeOf_lt (cs : List Chunk) (i : Nat) : freeOf cs i = -1 ∨ (0 ≤ freeOf cs i ∧ freeOf cs i < i) := by
  induction i with
  | zero => left; rfl
  | succ i ih => rw [freeOf_succ]; split <;> omega

def firstRoom (cs : List Chunk) (k : Nat) : Option Nat := (List.range cs.length).find? fun i => room (cs.getD i Chunk.zero) k

def SmallPost (cs : List Chunk) (k : Nat) (size : Int) (a b : Nat) (w : World) (e : Ending) (w' : World) : Prop :=
  (∃ i c, firstRoom cs k = some i ∧ cs[i]? = some c ∧ e = .returned (.tuple #[.int .i64 ((i * 1024 + low0 c.taken * (32 * 2 ^ k) : Nat) : Int), .int .i64 0]) ∧ At w' a b (cs.set i (slotC c (low0 c.taken) size)) ∧ w.grownBy w' (some b)) ∨
  (∃ i : Nat, firstRoom cs k = none ∧ freeOf cs cs.length = (i : Int) ∧ e = .returned (.tuple #[.int .i64 ((i : Int) * 1024), .int .i64 0]) ∧ At w' a b (cs.set i (slotC (newC k) 0 size)) ∧ w.grownBy w' (some b)) ∨
  (firstRoom cs k = none ∧ freeOf cs cs.length = -1 ∧ e = .returned (.tuple #[.int .i64 0, .int .i64 8]) ∧ ∃ n, w' = w.drewN n)

set_option maxRecDepth 100000 in
set_option maxHeartbeats 1000000 in
theorem small_walk {w : World} {a b : Nat} {cs : List Chunk} (h : At w a b cs) (hwf : ∀ c ∈ cs, Wf c) (hT : Tab w) (hb : 0 < b) (size : Int) (h1 : 1 ≤ size) (k : Nat) (hk : cls size = k) (hk4 : k ≤ 4) (h2 : size ≤ 262144) :
    Calls Tryd.prog 11 #[.pointer (some ⟨a, 0, none⟩), .int .i64 size] w (SmallPost cs k size a b w) := by
  have HC := Lib.hid (class_ok size h1 h2); rw [hk] at HC; have HK := Lib.hid hk; clear hk
  have hp := h.cell_p
  have hfew := h.few
  have HA := Lib.hid h; clear h
  have HW := Lib.hid hwf; clear hwf
  have HT := Lib.hid hT; clear hT
  generalize hN : cs.length = N at *
  have HN := Lib.hid hN; clear hN
  have hk5 : (((k : Nat) : Int) == 5) = false := by simp; omega
  go_enter Tryd.func11, Tryd.ntmps11
  go_wp2_with fail
  refine (HC.out _).mono ?_
  rintro e w' ⟨rfl, rfl⟩
  go_wp2_with fail
  go_loopg [8, 33] N (fun g s8 s33 wx => ∃ i : Nat, i + g = N ∧ s33 = .int .i64 i ∧ s8 = .int .i64 (freeOf cs i) ∧ (∀ j, j < i → room (cs.getD j Chunk.zero) k = false) ∧ ∃ n, w.drewN n = wx)
  case atStart => exact ⟨0, by omega, rfl, rfl, fun j hj => by omega, 0, rfl⟩
  case round =>
    obtain ⟨i, hig, rfl, rfl, hno, n, hwr⟩ := hrel
    have HNO := Lib.hid hno; clear hno
    have HAr : Hid (At wr a b cs) := by rw [← hwr]; exact HA.out.drewN n
    have HTr : Hid (Tab wr) := by rw [← hwr]; exact HT.out.drewN n
    have HGr : Hid (w.grownBy wr (some b)) := by rw [← hwr]; exact fr_drewN (fr_refl _ _) n
    have HWR := Lib.hid hwr; clear hwr
    clear hp
    have hp := HAr.out.cell_p
    rw [HN.out] at hp
    by_cases hi : i < N
    · obtain ⟨c, hc⟩ : ∃ c, cs[i]? = some c := ⟨cs[i]'(by rw [HN.out]; exact hi), by simp⟩
      have hcw := HAr.out.what hc
      have hcc := HAr.out.cls hc
      have hct := HAr.out.taken hc
      have hget : cs.getD i Chunk.zero = c := by simp [List.getD, hc]
      have HCc := Lib.hid hc; clear hc
      have HG := Lib.hid hget; clear hget
      have hfo := freeOf_succ cs i
      rw [HG.out] at hfo
      have HFO := Lib.hid hfo; clear hfo
      generalize freeOf cs i = F at *
      have fin : room c k = false → ∀ F' : Int, F' = freeOf cs (i + 1) → ∀ m, ∃ i' : Nat, i' + (N - i - 1) = N ∧ Value.int .i64 ((i : Int) + 1) = .int .i64 i' ∧ Value.int .i64 F' = .int .i64 (freeOf cs i') ∧ (∀ j, j < i' → room (cs.getD j Chunk.zero) k = false) ∧ ∃ n, w.drewN n = wr.drewN m := fun hr F' hF m => by
        refine ⟨i + 1, by omega, by go_num, by rw [hF], fun j hj => ?_, n + m, by rw [← HWR.out, World.drewN_drewN]⟩
        by_cases e : j = i
        · subst e; rw [HG.out]; exact hr
        · exact HNO.out j (by omega)
      have FIN := Lib.hid fin; clear fin
      by_cases hw1 : c.what = 1
      · have e1 : ((c.what : Int) == 1) = true := by simp; omega
        have e0 : ((c.what : Int) == 0) = false := by simp; omega
        have HF : Hid (F = freeOf cs (i + 1)) := by have := HFO.out; rw [if_neg (by omega)] at this; exact this.symm
        by_cases hck : c.cls = k
        · have e2 : ((c.cls : Int) == (k : Int)) = true := by simp; omega
          have HAL := Lib.hid (all_rev k hk4)
          by_cases hfull : c.taken = full k
          · have e3 : ((c.taken : Int) != ((full k : Nat) : Int)) = false := by simp; omega
            have HR : Hid (room c k = false) := by show _ = _; simp [room, hfull]
            clear hfull hck hw1
            generalize full k = fk at *
            go_wp2_with fail
            go_quiet ((go_at_call 29; exact Calls.quiet_of_same (HAL.out _)))
            go_wp2
            go_roundg (N - i - 1)
            case measure => omega
            case rel => exact FIN.out HR.out F HF.out _
          · have e3 : ((c.taken : Int) != ((full k : Nat) : Int)) = true := by simp; omega
            have HR : Hid (room c k = true) := by show _ = _; simp [room, hfull, hck, hw1]
            have wf := HW.out c (List.mem_of_getElem? HCc.out)
            have hlow := low0_room wf.cls wf.taken (by rw [hck]; exact hfull)
            have HS := Lib.hid (fun m => slot_at (w := wr.drewN m) (a := a) (b := b) (HAr.out.drewN m) (HTr.out.drewN m) i c HCc.out (low0 c.taken) rfl hlow.1 (taken_lt wf.taken) wf.marks wf.cls hlow.2 size)
            clear hlow
            clear wf
            rw [hck] at HS
            have HCK := Lib.hid hck; clear hck
            clear hfull hw1
            generalize full k = fk at *
            go_wp2_with fail
            go_quiet ((go_at_call 29; exact Calls.quiet_of_same (HAL.out _)))
            go_wp2_with fail
            refine (HS.out _).mono ?_
            rintro e w' ⟨rfl, hAt, hgr⟩
            have HAT := Lib.hid hAt; clear hAt
            have HGR := Lib.hid hgr; clear hgr
            go_wp2_with fail
            go_ret2
            exact .inl ⟨i, c, find_some_step (by rw [HN.out]; exact hi) HNO.out (by rw [HG.out]; exact HR.out), HCc.out, rfl, HAT.out, fr_trans (fr_drewN HGr.out _) HGR.out⟩
        · have e2 : ((c.cls : Int) == (k : Int)) = false := by simp; omega
          have HR : Hid (room c k = false) := by show _ = _; simp [room, hck]
          clear hck hw1
          go_wp2_with fail
          go_quiet (fail)
          go_wp2
          go_roundg (N - i - 1)
          case measure => omega
          case rel => exact FIN.out HR.out F HF.out _
      · have e1 : ((c.what : Int) == 1) = false := by simp; omega
        have HR : Hid (room c k = false) := by show _ = _; simp [room, hw1]
        by_cases hw0 : c.what = 0
        · have e2 : ((c.what : Int) == 0) = true := by simp; omega
          by_cases hF : F < 0
          · have HF : Hid ((i : Int) = freeOf cs (i + 1)) := by have := HFO.out; rw [if_pos ⟨hF, hw0⟩] at this; exact this.symm
            have e3 : decide (F < 0) = true := decide_eq_true hF
            clear hw1 hw0 hF
            go_wp2_with fail
            go_quiet (fail)
            go_wp2
            go_roundg (N - i - 1)
            case measure => omega
            case rel => exact FIN.out HR.out i HF.out _
          · have HF : Hid (F = freeOf cs (i + 1)) := by have := HFO.out; rw [if_neg (fun h => hF h.1)] at this; exact this.symm
            have e3 : decide (F < 0) = false := decide_eq_false hF
            clear hw1 hw0 hF
            go_wp2_with fail
            go_quiet (fail)
            go_wp2
            go_roundg (N - i - 1)
            case measure => omega
            case rel => exact FIN.out HR.out F HF.out _
        · have e2 : ((c.what : Int) == 0) = false := by simp; omega
          have HF : Hid (F = freeOf cs (i + 1)) := by have := HFO.out; rw [if_neg (fun h => hw0 h.2)] at this; exact this.symm
          clear hw1 hw0
          go_wp2_with fail
          go_quiet (fail)
          go_wp2
          go_roundg (N - i - 1)
          case measure => omega
          case rel => exact FIN.out HR.out F HF.out _
    · obtain rfl : i = N := by omega
      have hlt := freeOf_lt cs i
      generalize hFd : freeOf cs i = F at *
      have HFd := Lib.hid hFd; clear hFd
      by_cases hF : F < 0
      · obtain rfl : F = -1 := by omega
        clear hlt hF
        go_wp2
        go_ret2
        exact .inr (.inr ⟨find_none_step fun j hj => HNO.out j (by rw [HN.out] at hj; omega), by rw [HN.out]; exact HFd.out, rfl, n, HWR.out.symm⟩)
      · obtain ⟨f, rfl⟩ : ∃ f : Nat, F = f := ⟨F.toNat, by omega⟩
        have hf : f < i := by omega
        clear hlt hF
        have HTh := Lib.hid (HAr.out.there f (by rw [HN.out]; omega))
        have HA2 := Lib.hid (HAr.out.store f (by rw [HN.out]; omega) (newC k) rfl)
        have HT2 : Hid (Tab (wr.setCells b (f * 39) (newC k).vals)) := HTr.out.grown (fr_setCells _ _ _ _ (fr_refl _ _)) hb
        have HS := Lib.hid (slot_at (a := a) (b := b) HA2.out HT2.out f (newC k) (by simp [HN.out, hf]) 0 (by show 0 = Lib.ctz 32 (4294967295 - 0); decide) (by decide) (show (0 : Nat) < 4294967296 by decide) (show (0 : Nat) < 4294967296 by decide) hk4 (by simp) size)
        go_wp2_with ((with_reducible refine store_chunk b (f * 39) (newC k).vals.toArray ?x2 ?y2 ?t2 ?z2 ?o2 ?_); (case x2 => rfl); (case y2 => rw [newC, slots_lit]; rfl); (case t2 => exact HTh.out); (case z2 => rfl); (case o2 => exact vals_one _))
        refine (HS.out).mono ?_
        rintro e w' ⟨rfl, hAt, hgr⟩
        rw [List.set_set] at hAt
        have HAT := Lib.hid hAt; clear hAt
        have HGR := Lib.hid hgr; clear hgr
        go_wp2_with fail
        go_ret2
        exact .inr (.inl ⟨f, find_none_step fun j hj => HNO.out j (by rw [HN.out] at hj; omega), by rw [HN.out]; exact HFd.out, rfl, HAT.out, fr_trans (fr_setCells _ _ _ _ HGr.out) HGR.out⟩)


def AllocPost (cs : List Chunk) (size : Int) (a b : Nat) (w : World) (e : Ending) (w' : World) : Prop :=
  if size < 1 ∨ 262144 < size then e = .returned (.tuple #[.int .i64 0, .int .i64 1]) ∧ w = w'
  else if cls size = 5 then LargePost cs ((size + 1023) / 1024).toNat size a b w e w' else SmallPost cs (cls size) size a b w e w'

set_option maxRecDepth 100000 in
set_option maxHeartbeats 1000000 in
theorem alloc_err (a : Nat) (size : Int) (h : size < 1 ∨ 262144 < size) (w : World) :
    Calls Tryd.prog 11 #[.pointer (some ⟨a, 0, none⟩), .int .i64 size] w fun e w' => e = .returned (.tuple #[.int .i64 0, .int .i64 1]) ∧ w = w' := by
  have HC := Lib.hid (class_err size h)
  clear h
  go_enter Tryd.func11, Tryd.ntmps11
  go_wp2_with fail
  refine (HC.out _).mono ?_
  rintro e w' ⟨rfl, rfl⟩
  go_wp2_with fail
  go_ret2
  exact ⟨rfl, rfl⟩

set_option maxRecDepth 100000 in
set_option maxHeartbeats 1000000 in
theorem alloc_nil (size : Int) (w : World) :
    Calls Tryd.prog 11 #[.pointer none, .int .i64 size] w fun e w' => e = .returned (.tuple #[.int .i64 0, .int .i64 1]) ∧ w = w' := by
  go_enter Tryd.func11, Tryd.ntmps11
  go_wp2_with fail
  go_ret2
  exact ⟨rfl, rfl⟩

theorem LargePost.mk {cs : List Chunk} {many : Nat} {size : Int} {a b : Nat} {w w' : World} {x y : Value} (h : LargePost cs many size a b w (.returned (.tuple #[x, y])) w') : LargePost cs many size a b w (.returned (.tuple #[x, y])) w' := h

set_option maxRecDepth 100000 in
set_option maxHeartbeats 1000000 in
theorem alloc_large {w : World} {a b : Nat} {cs : List Chunk} (h : At w a b cs) (size : Int) (h1 : 1 ≤ size) (h2 : size ≤ 262144) (h5 : cls size = 5) :
    Calls Tryd.prog 11 #[.pointer (some ⟨a, 0, none⟩), .int .i64 size] w (LargePost cs ((size + 1023) / 1024).toNat size a b w) := by
  have HC := Lib.hid (class_ok size h1 h2); rw [h5] at HC; clear h5
  have HL := Lib.hid (large_at h size h1 h2); clear h
  generalize ((size + 1023) / 1024).toNat = many at *
  go_enter Tryd.func11, Tryd.ntmps11
  go_wp2_with fail
  refine (HC.out _).mono ?_
  rintro e w' ⟨rfl, rfl⟩
  go_wp2_with fail
  refine (HL.out).mono ?_
  rintro e w' (⟨i, hf, rfl, hA, hg⟩ | ⟨hf, rfl, rfl⟩)
  · have HF := Lib.hid hf; clear hf
    have HA := Lib.hid hA; clear hA
    have HG := Lib.hid hg; clear hg
    go_wp2_with fail
    go_ret2
    exact .inl ⟨i, HF.out, rfl, HA.out, HG.out⟩
  · have HF := Lib.hid hf; clear hf
    go_wp2_with fail
    go_ret2
    exact .inr ⟨HF.out, rfl, rfl⟩

/-- (*Pool).Alloc -/
theorem alloc_at {w : World} {a b : Nat} {cs : List Chunk} (h : At w a b cs) (hwf : ∀ c ∈ cs, Wf c) (hT : Tab w) (hb : 0 < b) (size : Int) :
    Calls Tryd.prog 11 #[.pointer (some ⟨a, 0, none⟩), .int .i64 size] w (AllocPost cs size a b w) := by
  by_cases hs : size < 1 ∨ 262144 < size
  · exact (alloc_err a size hs w).mono fun e w' h => by unfold AllocPost; rw [if_pos hs]; exact h
  · by_cases h5 : cls size = 5
    · exact (alloc_large h size (by omega) (by omega) h5).mono fun e w' h => by unfold AllocPost; rw [if_neg hs, if_pos h5]; exact h
    · exact (small_walk h hwf hT hb size (by omega) (cls size) rfl (by have := cls_le size; omega) (by omega)).mono fun e w' h => by unfold AllocPost; rw [if_neg hs, if_neg h5]; exact h

end Go.Proofs.YtdgfnlagbdmniaaDoor.Pl
