/- Parts Tc, Td, Mj, Mk, Ml, Mm, Mn, Mo, Mp, Mq, Ms of the proof. -/
import Derived.Deep.RegionLaw
import Derived.Deep.RegionWith
import Derived.Deep.RegionHeld3
import Derived.Test.YtgbafpjeapkklaaG0
import Derived.Test.YtgbafpjeapkklaaG1
namespace Go.Proofs.Ytgbafpjeapkklaa.Mb
open Go.RowKit
set_option linter.unusedVariables false
set_option linter.unusedSimpArgs false
def nxtG (ns : List T3) (n : Int) : Int := (ns.getD n.toNat (0, 0, 0)).2.2
def chainF (ns : List T3) : Nat → List Int → Int → List Int × Option Int
 | 0, S, _ => (S, none)
 | f + 1, S, n => if n ∈ S then (S, none) else if nxtG ns n < 0 then (S ++ [n], some n) else chainF ns f (S ++ [n]) (nxtG ns n)
def ChainEnd (R : List Int × Option Int) (en : Ending) : Prop := en = .returned (.tuple #[.int .i64 (R.2.getD 0), .bool R.2.isSome])
def seenL (S : List Int) : List (Int × Value) := S.map fun x => (x, Value.bool true)
theorem seenL_find (S : List Int) (k : Int) : (seenL S).find? (fun x => x.1 == k) = if k ∈ S then some (k, .bool true) else none := by
 induction S with
 | nil => rfl
 | cons a S ih =>
  unfold seenL at *
  rw [List.map_cons, List.find?_cons]
  by_cases h : a = k
  ·subst h; simp
  ·have : (a == k) = false := by simpa using h
   simp only [this]
   rw [ih]
   by_cases hk : k ∈ S
   ·rw [if_pos hk, if_pos (List.mem_cons_of_mem _ hk)]
   ·rw [if_neg hk, if_neg (fun h' => by rcases List.mem_cons.1 h' with rfl | h'; exact h rfl; exact hk h')]
structure CG (w : World) (ns : Value) (m d : Int) (ps : Value) (b : Bool) (g gs r : Nat) (S : List Int) (W : World) : Prop where
 bx : Gx w ns m d ps b g W
 var : W.heap[gs]? = some (.cells #[.map (some r)] 120 (0, 0))
 map : MapI W r (seenL S)
 low : w.heap.size ≤ r
section
variable {w : World} {ns : Value} {m d : Int} {ps : Value} {b : Bool} {g gs r : Nat} {S : List Int} {W W' : World}
theorem CG.put (h : CG w ns m d ps b g gs r S W) {n : Int} (hn : n ∉ S) :
  ∃ W', (Instr.mapUpdate 120 (.map (some r)) (.int .i64 n) (.bool true)).run Try.prog W = .ok () W' ∧ CG w ns m d ps b g gs r (S ++ [n]) W' ∧ (∀ k, k ≠ r → W'.heap[k]? = W.heap[k]?) ∧ Below w.heap.size W W' ∧ W'.heap.size = W.heap.size := by
 obtain ⟨W', h1, h2, h3, h4, h5, h6, h7⟩ := put_new h.map 120 4 und120 n (.bool true) (by rw [seenL_find, if_neg hn])
 obtain ⟨es, clock, hm, _⟩ := h.map
 have ng : g ≠ r := by rintro rfl; have := h.bx.box; rw [hm] at this; cases this
 have ns' : gs ≠ r := by rintro rfl; have := h.var; rw [hm] at this; cases this
 have hb : Below w.heap.size W W' := ⟨h4, h5, h6, Nat.le_of_eq h3.symm, fun k hk => h7 k (by have := h.low; omega)⟩
 refine ⟨W', h1, ⟨⟨h.bx.below.trans hb, (h7 g ng).trans h.bx.box⟩, (h7 gs ns').trans h.var, ?_, h.low⟩, h7, hb, h3⟩
 have e : seenL (S ++ [n]) = seenL S ++ [(n, .bool true)] := by simp [seenL]
 rw [e]; exact h2
theorem CG.look (h : CG w ns m d ps b g gs r S W) (k : Int) :
  (Instr.lookup 120 (.map (some r)) (.int .i64 k) false).run Try.prog W = .ok (.bool (decide (k ∈ S))) W := by
 rw [look1 h.map 120 4 (.bool false) und120 (zero4 W) k, seenL_find]
 by_cases hk : k ∈ S
 ·simp [hk]
 ·simp [hk]
end
def msz (W : World) (r : Nat) : Nat := match W.heap[r]? with | some (.map es _) => es.size | _ => 0
theorem msz_of {W : World} {r : Nat} {S : List Int} (h : MapI W r (seenL S)) : msz W r = S.length := by
 obtain ⟨es, c, h1, h2⟩ := h
 have hl : es.size = S.length := by
  have := congrArg List.length h2
  simpa [seenL] using this
 unfold msz
 rw [h1]
 exact hl
theorem nodup_lt : ∀ (N : Nat) (L : List Nat), L.Nodup → (∀ x ∈ L, x < N) → L.length ≤ N
 | 0, L, _, h => by
  cases L with
  | nil => exact Nat.le_refl _
  | cons a L => exact absurd (h a List.mem_cons_self) (Nat.not_lt_zero _)
 | N + 1, L, hd, h => by
  by_cases hm : N ∈ L
  ·have h1 := nodup_lt N (L.erase N) (hd.erase N) (fun x hx => by
    have := (hd.mem_erase_iff).1 hx
    have h2 := h x this.2
    have h3 := this.1
    omega)
   rw [List.length_erase_of_mem hm] at h1
   omega
  ·have h1 := nodup_lt N L hd (fun x hx => by
    have h2 := h x hx
    have h3 : x ≠ N := fun e => hm (e ▸ hx)
    omega)
   omega
theorem few_of {N : Nat} {S : List Int} (hd : S.Nodup) (hr : ∀ x ∈ S, InR N x) : S.length ≤ N := by
 have h1 : (S.map Int.toNat).Nodup := by
  rw [List.nodup_iff_pairwise_ne] at *
  rw [List.pairwise_map]
  exact hd.imp_of_mem fun ha hb hne e => hne (by have := (hr _ ha).1; have := (hr _ hb).1; omega)
 have h2 := nodup_lt N _ h1 (fun x hx => by
  obtain ⟨y, hy, rfl⟩ := List.mem_map.1 hx
  obtain ⟨a, b⟩ := hr y hy
  omega)
 rwa [List.length_map] at h2
set_option maxRecDepth 100000 in
set_option maxHeartbeats 4000000 in
theorem chain_g {w : World} {ns : List T3} {A : Option Addr} {N cap : Nat} {last done : Int} {vp : Value} {em : Bool} (hn : Tri w (.slice A N cap) ns) (hN : N = ns.length) (hok : ∀ (k : Nat) (x : T3), ns[k]? = some x → x.2.2 = -1 ∨ InR N x.2.2) (h2000 : N ≤ 2000)
  (g gs r : Nat) (S : List Int) (n : Int) (hn0 : InR N n) (hd : S.Nodup) (hr : ∀ x ∈ S, InR N x) (f : Nat) (hf : f + S.length = N + 1) (W : World) (hW : CG w (.slice A N cap) last done vp em g gs r S W) :
  Calls Try.prog 54 #[.int .i64 n, .pointer (some ⟨gs, 0, none⟩), .pointer (some ⟨g, 0, none⟩)] W fun en W' =>
   ChainEnd (chainF ns f S n) en ∧ CG w (.slice A N cap) last done vp em g gs r (chainF ns f S n).1 W' ∧ Below w.heap.size W W' := by
 obtain ⟨x0, hx0⟩ : ∃ x, ns[n.toNat]? = some x := ⟨ns[n.toNat]'(by have := hn0.1; have := hn0.2; omega), by simp⟩
 obtain ⟨gn, off, rfl, hg, hc⟩ := hn.at hx0
 have HG := Lib.hid hg
 have HC : Hid (∀ m : Int, InR N m → w.cell? ⟨gn, off + m.toNat * 3 + 2, none⟩ = some (.int .i64 (nxtG ns m)) ∧ (nxtG ns m = -1 ∨ InR N (nxtG ns m))) := Lib.hid (fun m hm => by
  obtain ⟨x, hx⟩ : ∃ x, ns[m.toNat]? = some x := ⟨ns[m.toNat]'(by have := hm.1; have := hm.2; omega), by simp⟩
  have e : nxtG ns m = x.2.2 := by unfold nxtG; rw [List.getD_eq_getElem?_getD, hx]; rfl
  rw [e]
  exact ⟨(hc _ _ hx).2.2, hok _ _ hx⟩)
 obtain ⟨R, hR⟩ : ∃ R, R = chainF ns f S n := ⟨_, rfl⟩
 rw [← hR]
 have HR := Lib.hid hR
 have HW := Lib.hid hW
 have HD := Lib.hid (And.intro hn0 (And.intro hd (And.intro hr hf)))
 have H2 := Lib.hid h2000
 clear hn hN hok h2000 hn0 hd hr hf hW hx0 hg hc hR
 go_enter Try.func54, Try.ntmps54
 go_wp2_with fail
 go_loopw [0] (fun s0 wr => ∃ (S' : List Int) (n' : Int) (f' : Nat), s0 = .int .i64 n' ∧ InR N n' ∧ S'.Nodup ∧ (∀ x ∈ S', InR N x) ∧ f' + S'.length = N + 1 ∧ R = chainF ns f' S' n' ∧ CG w (.slice (some ⟨gn, off, none⟩) N cap) last done vp em g gs r S' wr ∧ Below w.heap.size W wr) (fun _ wr => N + 1 - msz wr r)
 case atStart => exact ⟨S, n, f, rfl, HD.out.1, HD.out.2.1, HD.out.2.2.1, HD.out.2.2.2, HR.out, HW.out, Below.refl _ _⟩
 case round =>
  obtain ⟨S', n', f', rfl, h1, h2, h3, h4, h5, hS, hB⟩ := hrel
  have HS := Lib.hid hS
  have HBW := Lib.hid hB
  have hlook := HS.out.look n'
  have v0 : wr.cell? ⟨gs, 0, none⟩ = some (.map (some r)) := cB HS.out.var 0
  have hle := few_of h2 h3
  obtain ⟨f2, rfl⟩ : ∃ f2, f' = f2 + 1 := ⟨f' - 1, by omega⟩
  have HX := Lib.hid (And.intro h1 (And.intro h2 (And.intro h3 (And.intro h4 h5))))
  have hsz := Lib.hid (msz_of HS.out.map)
  by_cases hmem : n' ∈ S'
  ·have tm : decide (n' ∈ S') = true := decide_eq_true hmem
   have hRR : Hid (R = (S', none)) := Lib.hid (by rw [h5]; unfold chainF; rw [if_pos hmem])
   rw [tm] at hlook
   clear h1 h2 h3 h4 h5 hS hB hle hmem tm
   go_wp2_with fail
   rw [hRR.out]
   go_ret2
   exact ⟨rfl, HS.out, HBW.out⟩
  ·have tm : decide (n' ∈ S') = false := decide_eq_false hmem
   rw [tm] at hlook
   obtain ⟨W', hput, hW', hk', hb', hs'⟩ := HS.out.put hmem
   have HS' := Lib.hid hW'
   have HB' := Lib.hid (HBW.out.trans hb')
   have b0 : W'.cell? ⟨g, 0, none⟩ = some (.slice (some ⟨gn, off, none⟩) N cap) := cB HS'.out.bx.box 0
   obtain ⟨hx, hnx⟩ := HC.out n' h1
   have d0 := (HS'.out.bx.below.cell (p := ⟨gn, off + n'.toNat * 3 + 2, none⟩) HG.out).trans hx
   obtain ⟨q, rfl⟩ : ∃ q : Nat, n' = (q : Int) := ⟨n'.toNat, by have := h1.1; omega⟩
   rw [Int.toNat_natCast] at d0
   have kl : (q : Int) < (N : Int) := h1.2
   have kl' : q < N := by omega
   have HM := Lib.hid hmem
   have HNX := Lib.hid hnx
   clear h1 h2 h3 h4 h5 hS hB hle hmem tm hW' hk' hb' hs' hx hnx
   generalize hnn : nxtG ns (q : Int) = nn at *
   have HNN := Lib.hid hnn
   clear hnn
   by_cases hneg : nn < 0
   ·have t1 : decide (nn < 0) = true := decide_eq_true hneg
    have hRR : Hid (R = (S' ++ [(q : Int)], some (q : Int))) := Lib.hid (by rw [HX.out.2.2.2.2]; unfold chainF; rw [if_neg HM.out, HNN.out, if_pos hneg])
    clear hneg
    go_wp2_with fail
    rw [hRR.out]
    go_ret2
    exact ⟨rfl, HS'.out, HB'.out⟩
   ·have t1 : decide (nn < 0) = false := decide_eq_false hneg
    have hRR : Hid (R = chainF ns f2 (S' ++ [(q : Int)]) nn) := Lib.hid (by
     have h := HX.out.2.2.2.2
     unfold chainF at h
     rw [if_neg HM.out, HNN.out, if_neg hneg] at h
     exact h)
    have hin : Hid (InR N nn) := Lib.hid (by
     rcases HNX.out with h | h
     ·omega
     ·exact h)
    clear hneg
    go_wp2_with fail
    go_roundw
    case rel =>
     obtain ⟨i1, i2, i3, i4, i5⟩ := HX.out
     refine ⟨S' ++ [(q : Int)], nn, f2, rfl, hin.out, ?_, ?_, ?_, hRR.out, HS'.out, HB'.out⟩
     ·rw [List.nodup_append]
      exact ⟨i2, by simp, fun a ha b hb e => HM.out (by rw [List.mem_singleton] at hb; subst hb; subst e; exact ha)⟩
     ·intro x hx
      rcases List.mem_append.1 hx with h | h
      ·exact i3 x h
      ·rw [List.mem_singleton.1 h]; exact i1
     ·rw [List.length_append, List.length_singleton]; omega
    case measure =>
     obtain ⟨i1, i2, i3, i4, i5⟩ := HX.out
     have e1 := msz_of HS'.out.map
     rw [List.length_append, List.length_singleton] at e1
     have e2 := hsz.out
     have := few_of i2 i3
     omega
end Go.Proofs.Ytgbafpjeapkklaa.Mb
namespace Go.Proofs.Ytgbafpjeapkklaa.Mb
open Go.RowKit
set_option linter.unusedVariables false
set_option linter.unusedSimpArgs false
def pgt (ps : List T3) (i : Nat) : T3 := ps.getD i (0, 0, 0)
def fb (ps : List T3) (k : Nat) (x : Int) : Option Nat := (List.range k).find? fun i => (pgt ps i).2.1 == x
def befL (ps : List T3) (k : Nat) : List (Int × Value) := (List.range k).map fun i => ((pgt ps i).2.1, Value.int .i64 (i : Int))
theorem befL_find (ps : List T3) (k : Nat) (x : Int) : (befL ps k).find? (fun y => y.1 == x) = (fb ps k x).map fun i => (x, Value.int .i64 (i : Int)) := by
 unfold befL fb
 rw [List.find?_map]
 have e : ((fun y : Int × Value => y.1 == x) ∘ fun (i : Nat) => ((pgt ps i).2.1, Value.int .i64 (i : Int))) = fun i => (pgt ps i).2.1 == x := rfl
 rw [e]
 cases h : (List.range k).find? fun i => (pgt ps i).2.1 == x with
 | none => rfl
 | some i =>
  have := List.find?_some h
  have hx : (pgt ps i).2.1 = x := by simpa using this
  simp [hx]
theorem befL_snoc (ps : List T3) (k : Nat) : befL ps k ++ [((pgt ps k).2.1, .int .i64 (k : Int))] = befL ps (k + 1) := by simp [befL, List.range_succ]
theorem pgt_of {ps : List T3} {k : Nat} {p : T3} (h : ps[k]? = some p) : pgt ps k = p := by unfold pgt; rw [List.getD_eq_getElem?_getD, h]; rfl
def DupFree (ps : List T3) : Prop := ∀ k, k < ps.length → fb ps k (pgt ps k).2.1 = none
def goOn (R : List Int × Option Int) (K : List Int → Int → Option (List Int × Int)) : Option (List Int × Int) := match R.2 with
 | some e => K R.1 e
 | none => none
def loopF (ns ps : List T3) : Nat → List Int → Int → Option (List Int × Int)
 | 0, S, e => some (S, e)
 | c + 1, S, e => (fb ps ps.length e).bind fun i => goOn (chainF ns (ns.length + 1 - S.length) S (pgt ps i).2.2) fun S' e' => loopF ns ps c S' e'
def RightS (ns : List T3) (last done : Int) (ps : List T3) (em : Bool) : Prop :=
 Formed ns last done ps ∧ DupFree ps ∧ ∃ S0 e0, chainF ns (ns.length + 1) [] 0 = (S0, some e0) ∧ done ∈ S0 ∧ ∃ S e, loopF ns ps ps.length S0 e0 = some (S, e) ∧ e = last ∧ S.length = ns.length ∧ (em = true → done = last)
structure CB1 (w : World) (ps : List T3) (vn : Value) (m d : Int) (vp : Value) (em : Bool) (g r k : Nat) (W : World) : Prop where
 bx : Gx w vn m d vp em g W
 map : MapI W r (befL ps k)
 low : w.heap.size ≤ r
section
variable {w : World} {ps : List T3} {vn : Value} {m d : Int} {vp : Value} {em : Bool} {g r k : Nat} {W W' : World}
theorem CB1.step (h : CB1 w ps vn m d vp em g r k W) (hb : Below W.heap.size W W') : CB1 w ps vn m d vp em g r k W' := ⟨h.bx.step hb, h.map.below hb, h.low⟩
theorem look_b (h : MapI W r (befL ps k)) (x : Int) : (Instr.lookup 119 (.map (some r)) (.int .i64 x) true).run Try.prog W = .ok (.tuple #[.int .i64 (((fb ps k x).getD 0 : Nat) : Int), .bool (fb ps k x).isSome]) W := by
 rw [Mb.look h 119 3 (.int .i64 0) und119 (zero3 W), befL_find]
 cases fb ps k x <;> rfl
theorem CB1.put (h : CB1 w ps vn m d vp em g r k W) (hn : fb ps k (pgt ps k).2.1 = none) :
  ∃ W', (Instr.mapUpdate 119 (.map (some r)) (.int .i64 (pgt ps k).2.1) (.int .i64 (k : Int))).run Try.prog W = .ok () W' ∧ CB1 w ps vn m d vp em g r (k + 1) W' := by
 obtain ⟨W', h1, h2, h3, h4, h5, h6, h7⟩ := put_new h.map 119 3 und119 (pgt ps k).2.1 (.int .i64 (k : Int)) (by rw [befL_find, hn]; rfl)
 obtain ⟨es, clock, hm, _⟩ := h.map
 have ng : g ≠ r := by rintro rfl; have := h.bx.box; rw [hm] at this; cases this
 refine ⟨W', h1, ⟨⟨?_, (h7 g ng).trans h.bx.box⟩, by rw [← befL_snoc]; exact h2, h.low⟩⟩
 exact h.bx.below.trans ⟨h4, h5, h6, Nat.le_of_eq h3.symm, fun k hk => h7 k (by have := h.low; omega)⟩
end
theorem bool_of (P : Prop) : ∃ b : Bool, b = true ↔ P := by
 by_cases h : P
 ·exact ⟨true, by simp [h]⟩
 ·exact ⟨false, by simp [h]⟩
theorem chainF_keeps {ns : List T3} {N : Nat} (hok : ∀ n, InR N n → nxtG ns n = -1 ∨ InR N (nxtG ns n)) : ∀ (f : Nat) (S : List Int) (n : Int), InR N n → S.Nodup → (∀ x ∈ S, InR N x) →
  (chainF ns f S n).1.Nodup ∧ (∀ x ∈ (chainF ns f S n).1, InR N x) ∧ ∀ e, (chainF ns f S n).2 = some e → InR N e
 | 0, S, n, h1, h2, h3 => ⟨h2, h3, fun e h => by cases h⟩
 | f + 1, S, n, h1, h2, h3 => by
  unfold chainF
  by_cases hm : n ∈ S
  ·rw [if_pos hm]; exact ⟨h2, h3, fun e h => by cases h⟩
  ·rw [if_neg hm]
   have h2' : (S ++ [n]).Nodup := by
    rw [List.nodup_append]
    exact ⟨h2, by simp, fun a ha b hb e => hm (by rw [List.mem_singleton] at hb; subst hb; subst e; exact ha)⟩
   have h3' : ∀ x ∈ S ++ [n], InR N x := fun x hx => by
    rcases List.mem_append.1 hx with h | h
    ·exact h3 x h
    ·rw [List.mem_singleton.1 h]; exact h1
   by_cases hneg : nxtG ns n < 0
   ·rw [if_pos hneg]
    exact ⟨h2', h3', fun e h => by injection h with h; subst h; exact h1⟩
   ·rw [if_neg hneg]
    rcases hok n h1 with h | h
    ·omega
    ·exact chainF_keeps hok f _ _ h h2' h3'
end Go.Proofs.Ytgbafpjeapkklaa.Mb
namespace Go.Proofs.Ytgbafpjeapkklaa.Mb
open Go.RowKit
set_option linter.unusedVariables false
set_option linter.unusedSimpArgs false
def ints (l : List Int) : List Value := l.map (Value.int .i64)
theorem own_some {W : World} {B : Nat} {e : TypeId} {v : Value} {n : Nat} {l : List (Int × Int × Int)} (hn : n = l.length) (h : W.ownsRow B e 3 v n (cellsT l)) (h0 : 0 < n) : ∃ gn cap, v = .slice (some ⟨gn, 0, none⟩) n cap ∧ B ≤ gn ∧ n ≤ cap ∧
  (∃ cur, W.heap[gn]? = some (.cells cur e (0, 0))) ∧ ∀ k x, l[k]? = some x → W.cell? ⟨gn, k * 3, none⟩ = some (.int .i64 x.1) ∧ W.cell? ⟨gn, k * 3 + 1, none⟩ = some (.int .i64 x.2.1) ∧ W.cell? ⟨gn, k * 3 + 2, none⟩ = some (.int .i64 x.2.2) := by
 have hc := fun g hg => h.cells (g := g) hg
 rcases h.2 with ⟨rfl, h1⟩ | ⟨g, cap, cur, rfl, hb, hg, hcap, _⟩
 ·omega
 ·refine ⟨g, cap, rfl, hb, hcap, ⟨cur, hg⟩, fun k x hx => ?_⟩
  obtain ⟨a, b, c⟩ := cellsT_get l k x hx
  have h1 := hc g rfl _ _ a
  have h2 := hc g rfl _ _ b
  have h3 := hc g rfl _ _ c
  rw [Addr.add_lit] at h1 h2 h3
  simp only [Nat.zero_add] at h1 h2 h3
  exact ⟨h1, h2, h3⟩
theorem info3 : (Try.prog.info? 3).map (fun i => (i.zero, i.size, i.bytes)) = some (some (.int .i64 0), 1, 8) := by kernel_rfl
theorem ints_one (l : List Int) : ∀ u ∈ ints l, u.oneCell' = true := by
 intro u hu
 simp only [ints, List.mem_map] at hu
 obtain ⟨x, _, rfl⟩ := hu
 rfl
theorem CO.grown {w : World} {ns ps : Value} {m d : Int} {b : Bool} {g B : Nat} {ns' ps' : Value} {l1 l2 : List (Int × Int × Int)} {m' d' : Int} {b' : Bool} {W W' : World} (h : CO w ns ps m d b g B ns' ps' l1 l2 m' d' b' W) {v : Value} {n B' : Nat} {xs : List Value}
  (hv : W.ownsRow B' 3 1 v n xs) (hB : w.heap.size ≤ B') (hg : W.grownBy W' v.ownBlock) : CO w ns ps m d b g B ns' ps' l1 l2 m' d' b' W' := by
 have hne : ∀ (k : Nat) (C : Array Value) (t : TypeId) (f : Nat × Nat), W.heap[k]? = some (.cells C t f) → t ≠ 3 → some k ≠ v.ownBlock := by
  intro k C t f hk ht e
  rcases hv.2 with ⟨rfl, _⟩ | ⟨g', cap, cur, rfl, _, hgg, _⟩
  ·simp [Value.ownBlock] at e
  ·simp [Value.ownBlock] at e
   subst e
   rw [hk] at hgg
   injection hgg with hgg
   injection hgg with _ h2 _
   exact ht h2
 have hk : ∀ (k : Nat) (C : Array Value) (t : TypeId) (f : Nat × Nat), W.heap[k]? = some (.cells C t f) → t ≠ 3 → W'.heap[k]? = some (.cells C t f) := fun k C t f h1 h2 => (hg.block k (blk_lt h1) (hne k C t f h1 h2)).trans h1
 have hr : ∀ {e : TypeId} {v' : Value} {n' : Nat} {ys : List Value}, e ≠ 3 → W.ownsRow B e 3 v' n' ys → W'.ownsRow B e 3 v' n' ys := by
  intro e v' n' ys he h'
  refine ⟨h'.1, ?_⟩
  rcases h'.2 with h0 | ⟨g', cap, cur, h1, h2, h3, h4⟩
  ·exact .inl h0
  ·exact .inr ⟨g', cap, cur, h1, h2, hk _ _ _ _ h3 he, h4⟩
 refine ⟨⟨?_, hk _ _ _ _ h.cb.2.1 (by decide), hk _ _ _ _ h.cb.2.2 (by decide)⟩, hk _ _ _ _ h.box (by decide), h.low, h.lowg, hr (by decide) h.r1, hr (by decide) h.r2⟩
 exact h.cb.1.grown hg h.cb.1.size (fun k hk => by have := hv.lt k hk; omega)
theorem own1_slice {w : World} {base : Nat} {e : TypeId} {s : Nat} {v : Value} {n : Nat} {xs : List Value} (h : w.ownsRow base e s v n xs) : ∃ p cap, v = .slice p n cap := by
 rcases h.2 with ⟨rfl, rfl⟩ | ⟨g, cap, cur, rfl, _⟩
 ·exact ⟨none, 0, rfl⟩
 ·exact ⟨_, cap, rfl⟩
theorem own1_kept {W W' : World} {B g : Nat} {e t : TypeId} {s : Nat} {v : Value} {n : Nat} {xs : List Value} {C : Array Value} {f : Nat × Nat} (h : W.ownsRow B e s v n xs) (hg : W.heap[g]? = some (.cells C t f)) (ht : e ≠ t) (hk : ∀ k, k < W.heap.size → k ≠ g → W'.heap[k]? = W.heap[k]?) : W'.ownsRow B e s v n xs := by
 refine ⟨h.1, ?_⟩
 rcases h.2 with h0 | ⟨g', cap, cur, h1, h2, h3, h4⟩
 ·exact .inl h0
 ·refine .inr ⟨g', cap, cur, h1, h2, (hk g' (blk_lt h3) ?_).trans h3, h4⟩
  rintro rfl
  rw [hg] at h3
  injection h3 with h3
  injection h3 with _ h5 _
  exact ht h5.symm
theorem own1_below {w w' : World} {base : Nat} {e : TypeId} {s : Nat} {v : Value} {n : Nat} {xs : List Value} (h : w.ownsRow base e s v n xs) (hb : Below w.heap.size w w') : w'.ownsRow base e s v n xs := by
 refine ⟨h.1, ?_⟩
 rcases h.2 with h0 | ⟨g, cap, cur, h1, h2, h3, h4⟩
 ·exact .inl h0
 ·exact .inr ⟨g, cap, cur, h1, h2, (hb.block g (blk_lt h3)).trans h3, h4⟩
def lenOf : Value → Nat
 | .slice _ n _ => n
 | _ => 0
theorem own5 {W : World} {B g : Nat} {e t : TypeId} {s : Nat} {v : Value} {n : Nat} {xs : List Value} {C : Array Value} (h : W.ownsRow B e s v n xs) (hg : W.heap[g]? = some (.cells C t (0, 0))) (ht : e ≠ t) (v0 v1 v2 v3 v4 : Value) :
  (((((W.setCell ⟨g, 0, none⟩ v0).setCell ⟨g, 1, none⟩ v1).setCell ⟨g, 2, none⟩ v2).setCell ⟨g, 3, none⟩ v3).setCell ⟨g, 4, none⟩ v4).ownsRow B e s v n xs := by
 refine own1_kept h hg ht fun k hk hkg => ?_
 rw [Below.heap_setCell _ _ _ _ hkg, Below.heap_setCell _ _ _ _ hkg, Below.heap_setCell _ _ _ _ hkg, Below.heap_setCell _ _ _ _ hkg, Below.heap_setCell _ _ _ _ hkg]
end Go.Proofs.Ytgbafpjeapkklaa.Mb
namespace Go.Proofs.Ytgbafpjeapkklaa.Mb
open Go.RowKit
set_option linter.unusedVariables false
set_option linter.unusedSimpArgs false
theorem step_append_run {P : Program} {ops : Array Oper} {o : Oper} {a : Act} {w : World} {K : Act → World → Prop} {Q : Exit → Act → World → Prop} {E : Prop}
  (hg : o.guard = none) (d x : Operand) (t : TypeId) (hop : o.op = Op.call { callee := Callee.builtin Builtin.append, args := #[d, x], argTypes := #[t, t] })
  (v u : Value) (hd : a.eval d = v) (hx : a.eval x = u) {v' : Value} {w' : World} (hr : (Builtin.append_ #[t, t] o.type #[v, u]).run P w = .ok v' w') (hK : K (a.put o.dst v') w') :
  if Region.wanted o (yielded ops a.tmps) = true then Oper.wp P o a w K Q else E := by
 have hw : Region.wanted o (yielded ops a.tmps) = true := by simp [Region.wanted, hg]
 rw [if_pos hw]
 unfold Oper.wp
 simp [execOp, hop, resolve, invoke, builtin, hd, hx, hr, Result.andThen]
 exact hK
theorem cellsT_take (l : List (Int × Int × Int)) : ∀ i, (cellsT l).take (i * 3) = cellsT (l.take i) := by
 induction l with
 | nil => intro i; simp [cellsT]
 | cons x l ih =>
  intro i
  cases i with
  | zero => simp [cellsT]
  | succ i => rw [cellsT_cons, List.take_succ_cons, cellsT_cons, ← ih i, show (i + 1) * 3 = (trip x).length + i * 3 by simp [trip]; omega, List.take_length_add_append]
theorem cellsT_drop (l : List (Int × Int × Int)) : ∀ i, (cellsT l).drop (i * 3) = cellsT (l.drop i) := by
 induction l with
 | nil => intro i; simp [cellsT]
 | cons x l ih =>
  intro i
  cases i with
  | zero => simp [cellsT]
  | succ i => rw [cellsT_cons, List.drop_succ_cons, ← ih i, show (i + 1) * 3 = (trip x).length + i * 3 by simp [trip]; omega, List.drop_length_add_append]
theorem clear_last (W : World) (ty : TypeId) (g c k : Nat) (cur : Array Value) (hg : W.heap[g]? = some (.cells cur 102 (0, 0))) (hk : k * 3 + 3 ≤ cur.size) :
  (Builtin.clear_ #[26] ty #[.slice (some ⟨g, k * 3, none⟩) 1 c]).run Try.prog W = .ok (.tuple #[]) (W.setRow g (cur.toList.take (k * 3) ++ trip (0, 0, 0) ++ cur.toList.drop (k * 3 + 3)).toArray) := by
 have hz : ∀ w, (zeroValue 102).run Try.prog w = .ok (.agg #[.int .i64 0, .int .i64 0, .int .i64 0]) w := fun w => by kernel_rfl
 have hzc : (Builtin.zeroCells (Value.cells (.agg #[.int .i64 0, .int .i64 0, .int .i64 0])) 1).toList = trip (0, 0, 0) := by kernel_rfl
 have hst := run_storeCells_at Try.prog g (k * 3) 102 (trip (0, 0, 0)) 0 cur W hg (by simpa [trip] using hk) (by intro v hv; simp [trip] at hv; subst hv; rfl)
 simp only [Nat.add_zero] at hst
 simp [Builtin.clear_, run_underlying Try.underlying26, hz, Result.andThen, hzc]
 rw [hst]
 simp [trip]
set_option maxRecDepth 100000 in
set_option maxHeartbeats 4000000 in
theorem delete_at {W : World} {B : Nat} {v : Value} {l : List (Int × Int × Int)} (h : W.ownsRow B 102 3 v l.length (cellsT l)) (hl : l.length ≤ 2000) (i : Nat) (hi : i < l.length) :
  Calls Try.prog 42 #[v, .int .i64 i, .int .i64 ((i : Int) + 1)] W fun e w' => ∃ v', e = .returned v' ∧ w'.ownsRow B 102 3 v' (l.length - 1) (cellsT (l.eraseIdx i)) ∧ W.grownBy w' v.ownBlock := by
 obtain ⟨i0, hi0, hz0, hz1, hz2⟩ := info_parts info102
 rcases h.2 with ⟨_, h0⟩ | ⟨g, cap, cur, rfl, hBg, hcur, hcap, hmax, hsize, htake⟩
 ·omega
 obtain ⟨news, hnews⟩ : ∃ news, news = cellsT (l.drop (i + 1)) := ⟨_, rfl⟩
 have hlen : news.length = (l.length - (i + 1)) * 3 := by rw [hnews, cellsT_len]; simp
 have hsrc0 : ∀ t u, news[t]? = some u → cur[(i + 1) * 3 + t]? = some u := by
  intro t u hu
  have ht : t < (l.length - (i + 1)) * 3 := by
   have := (List.getElem?_eq_some_iff.1 hu).1
   rwa [hlen] at this
  rw [hnews, ← cellsT_drop, List.getElem?_drop, ← htake, List.getElem?_take, if_pos (by omega)] at hu
  simpa using hu
 obtain ⟨A, hA, hsrc⟩ : ∃ A : Addr, (if cap = i + 1 then some (⟨g, 0, none⟩ : Addr) else some ⟨g, (i + 1) * 3, none⟩) = some A ∧ Hid (∀ t u, news[t]? = some u → W.drew.cell? (A.add t) = some u) := by
  by_cases hc : cap = i + 1
  ·refine ⟨⟨g, 0, none⟩, by simp [hc], fun t u hu => ?_⟩
   have h0 : news.length = 0 := by rw [hlen]; omega
   rw [List.length_eq_zero_iff.1 h0] at hu
   simp at hu
  ·refine ⟨⟨g, (i + 1) * 3, none⟩, by simp [hc], fun t u hu => ?_⟩
   rw [Addr.add_lit]
   exact (cB (w := W.drew) hcur _).trans (hsrc0 t u hu)
 have H1 : Hid (∀ u ∈ news, u.oneCell' = true) := by rw [hnews]; exact cellsT_one _
 have hap := fun (ty : TypeId) => run_append_room (P := Try.prog) W.drew 26 ty 102 i0 Try.underlying26 hi0 g i cap cur hcur A (l.length - (i + 1)) (cap - (i + 1)) news (by rw [hz1]; exact hlen) hsrc.out H1.out (by omega) (by rw [hz1, hlen, hsize]; omega)
 rw [hz1, show i + (l.length - (i + 1)) = l.length - 1 by omega] at hap
 obtain ⟨cur1, hcur1⟩ : ∃ cur1, cur1 = (cur.toList.take (i * 3) ++ news ++ cur.toList.drop (i * 3 + news.length)).toArray := ⟨_, rfl⟩
 rw [← hcur1] at hap
 obtain ⟨W1, hW1⟩ : ∃ W1, W1 = W.drew.setRow g cur1 := ⟨_, rfl⟩
 rw [← hW1] at hap
 have hg1 : W1.heap[g]? = some (.cells cur1 102 (0, 0)) := by rw [hW1]; exact setRow_heap W.drew g cur cur1 102 _ hcur
 have hs1 : cur1.size = cur.size := by
  rw [hcur1]
  simp only [List.size_toArray, List.length_append, List.length_take, List.length_drop, Array.length_toList]
  rw [hlen, hsize]
  omega
 have hcl := fun ty => clear_last W1 ty g (cap - (l.length - 1)) (l.length - 1) cur1 hg1 (by rw [hs1, hsize]; omega)
 obtain ⟨W2, hW2⟩ : ∃ W2, W2 = W1.setRow g (cur1.toList.take ((l.length - 1) * 3) ++ trip (0, 0, 0) ++ cur1.toList.drop ((l.length - 1) * 3 + 3)).toArray := ⟨_, rfl⟩
 rw [← hW2] at hcl
 have HRES : Hid (W2.ownsRow B 102 3 (.slice (some ⟨g, 0, none⟩) (l.length - 1) cap) (l.length - 1) (cellsT (l.eraseIdx i)) ∧ W.grownBy W2 (some g)) := by
  refine ⟨⟨?_, .inr ⟨g, cap, _, rfl, hBg, by rw [hW2]; exact setRow_heap W1 g cur1 _ 102 _ hg1, by omega, hmax, ?_, ?_⟩⟩, ?_⟩
  ·rw [cellsT_len, List.length_eraseIdx, if_pos hi]
  ·simp only [List.size_toArray, List.length_append, List.length_take, List.length_drop, Array.length_toList, trip, List.length_cons, List.length_nil]
   rw [hs1, hsize]
   omega
  ·have e1 : cur.toList.take (i * 3) = cellsT (l.take i) := by
    rw [← cellsT_take, ← htake, List.take_take, Nat.min_eq_left (by omega)]
   have e2 : (cellsT (l.take i)).length = i * 3 := by rw [cellsT_len]; simp; omega
   have e3 : cur1.toList.take ((l.length - 1) * 3) = cellsT (l.eraseIdx i) := by
    rw [hcur1, e1]
    show (cellsT (l.take i) ++ news ++ _).take _ = _
    rw [List.eraseIdx_eq_take_drop_succ, cellsT_append, hnews]
    rw [← hnews]
    refine List.take_left' ?_
    rw [List.length_append, e2, hlen]
    omega
   rw [e3]
   show (cellsT (l.eraseIdx i) ++ trip (0, 0, 0) ++ _).take _ = _
   rw [List.append_assoc]
   refine List.take_left' ?_
   rw [cellsT_len, List.length_eraseIdx, if_pos hi]
  ·refine ⟨by rw [hW2, hW1]; rfl, by rw [hW2, hW1]; rfl, by rw [hW2, hW1]; rfl, ?_, ?_⟩
   ·rw [hW2, hW1]; simp [World.setRow]
   ·intro k _ hk
    rw [hW2, hW1, setRow_other _ _ _ _ (fun e => hk (by rw [e])), setRow_other _ _ _ _ (fun e => hk (by rw [e]))]
    rfl
 have HAP := Lib.hid hap
 have HL := Lib.hid hlen
 clear hW1 hW2 hcur1 hs1 hg1 hsrc0 hsrc hnews hlen htake hsize hcur hBg H1 hi0 hz0 hz1 hz2 h hap
 generalize hn : l.length = n at *
 obtain ⟨N, rfl⟩ : ∃ N, n = N + 1 := ⟨n - 1, by omega⟩
 simp only [Nat.add_sub_cancel, Nat.add_sub_add_right] at *
 have hiN : i ≤ N := by omega
 have hcn : ¬ cap = N := by omega
 have hcn' : ¬ N = cap := by omega
 have hNN : (N : Int) ≤ (N : Int) + 1 := by omega
 have hNc : N ≤ cap := by omega
 have hiw : wrap64 ((i : Int) + 1) = (i : Int) + 1 := by unfold wrap64; omega
 have hne : ((i : Int) == (i : Int) + 1) = false := by simp; omega
 have d1 : decide ((i : Int) ≤ (i : Int) + 1) = true := decide_eq_true (by omega)
 have hic : i ≤ cap := by omega
 have hjc : i + 1 ≤ cap := by omega
 have hin' : (i : Int) + 1 ≤ ((N + 1 : Nat) : Int) := by omega
 have hi0' : 0 ≤ (i : Int) + 1 := by omega
 have hi00 : 0 ≤ (i : Int) := by omega
 have hcm : cap ≤ 9223372036854775807 := by unfold maxLen at hmax; omega
 clear hmax
 go_enter Try.func42, Try.ntmps42
 go_upto_region 5 with fail
 go_region_law (refine step_append_run rfl (.tmp 22) (.tmp 25) 26 rfl (.slice (some ⟨g, 0, none⟩) i cap) (.slice (some A) (N - i) (cap - (i + 1))) (by simp [Act.eval, Act.put]) (by simp [Act.eval, Act.put]) (HAP.out _) ?_)
 go_wp2_with fail
 go_ret
 exact ⟨_, rfl, HRES.out.1, HRES.out.2⟩
end Go.Proofs.Ytgbafpjeapkklaa.Mb
namespace Go.Proofs.Ytgbafpjeapkklaa.Mb
open Go.RowKit
set_option linter.unusedVariables false
set_option linter.unusedSimpArgs false
def Q.fin (q : Q) (i : Nat) : Q := { q with opn := q.opn.eraseIdx i }
theorem cellsT_set (l : List (Int × Int × Int)) : ∀ (k : Nat) (x : Int × Int × Int) (c : Int), l[k]? = some x → (cellsT l).set (k * 3 + 2) (.int .i64 c) = cellsT (l.set k (x.1, x.2.1, c)) := by
 induction l with
 | nil => intro k x c h; simp at h
 | cons y l ih =>
  intro k x c h
  cases k with
  | zero =>
   simp at h; subst h
   simp [cellsT, trip]
  | succ k =>
   rw [List.set_cons_succ, cellsT_cons, cellsT_cons, ← ih k x c (by simpa using h), List.set_append, if_neg (by simp [trip]; omega)]
   rw [show (k + 1) * 3 + 2 - (trip y).length = k * 3 + 2 by simp [trip]; omega]
theorem CO.setNode {w : World} {ns ps : Value} {m d : Int} {b : Bool} {g B gn cap : Nat} {ps' : Value} {l1 l2 : List (Int × Int × Int)} {m' d' : Int} {b' : Bool} {W : World} (h : CO w ns ps m d b g B (.slice (some ⟨gn, 0, none⟩) l1.length cap) ps' l1 l2 m' d' b' W)
  {k : Nat} {x : Int × Int × Int} (hx : l1[k]? = some x) (c : Int) : CO w ns ps m d b g B (.slice (some ⟨gn, 0, none⟩) l1.length cap) ps' (l1.set k (x.1, x.2.1, c)) l2 m' d' b' (W.setCell ⟨gn, k * 3 + 2, none⟩ (.int .i64 c)) := by
 have hk := (List.getElem?_eq_some_iff.1 hx).1
 rcases h.r1.2 with ⟨e, h0⟩ | ⟨gn', cap', cur, e, hB, hg, hc, hm, hs, ht⟩
 ·cases e
 injection e with e1 _ e3
 injection e1 with e1
 injection e1 with e1
 subst e1
 subst e3
 have hlow := h.low
 have ng : g ≠ gn := by rintro rfl; rw [h.box] at hg; injection hg with hg; injection hg with _ e _; cases e
 refine ⟨⟨h.cb.1.setCell (p := ⟨gn, k * 3 + 2, none⟩) (by show w.heap.size ≤ gn; omega) _, blk_set_ne h.cb.2.1 ⟨gn, k * 3 + 2, none⟩ (by show w.heap.size ≠ gn; omega) _, blk_set_ne h.cb.2.2 ⟨gn, k * 3 + 2, none⟩ (by show w.heap.size + 1 ≠ gn; omega) _⟩,
  blk_set_ne h.box ⟨gn, k * 3 + 2, none⟩ ng _, h.low, h.lowg, ?_, own_set h.r2 hg (by decide) _ _⟩
 rw [List.length_set]
 refine ⟨?_, .inr ⟨gn, cap, _, rfl, hB, blk_set hg _ _, hc, hm, by simp [hs], ?_⟩⟩
 ·rw [cellsT_len, List.length_set]
 ·rw [Array.toList_setIfInBounds, List.take_set, ht, cellsT_set l1 k x c hx]
theorem CO.re2 {w : World} {ns ps : Value} {m d : Int} {b : Bool} {g B : Nat} {ns' ps' : Value} {l1 l2 : List (Int × Int × Int)} {m' d' : Int} {b' : Bool} {W W' : World} (h : CO w ns ps m d b g B ns' ps' l1 l2 m' d' b' W)
  (hg : W.grownBy W' ps'.ownBlock) {ps'' : Value} {l2' : List (Int × Int × Int)} (ho : W'.ownsRow B 102 3 ps'' l2'.length (cellsT l2')) :
  W'.heap[g]? = some (.cells #[ns', .int .i64 m', .int .i64 d', ps', .bool b'] 28 (0, 0)) ∧ CB w ns ps m d b W' ∧ CO w ns ps m d b g B ns' ps'' l1 l2' m' d' b' (W'.setCell ⟨g, 3, none⟩ ps'') := by
 have hne : ∀ (k : Nat) (C : Array Value) (t : TypeId) (f : Nat × Nat), W.heap[k]? = some (.cells C t f) → t ≠ 102 → some k ≠ ps'.ownBlock := fun k C t f hk ht e => own_ne h.r2 hk (Ne.symm ht) e.symm
 have hk : ∀ (k : Nat) (C : Array Value) (t : TypeId) (f : Nat × Nat), W.heap[k]? = some (.cells C t f) → t ≠ 102 → W'.heap[k]? = some (.cells C t f) := fun k C t f h1 h2 => (hg.block k (blk_lt h1) (hne k C t f h1 h2)).trans h1
 have hlow := h.low
 have hlowg := h.lowg
 have hbox := hk _ _ _ _ h.box (by decide)
 have hcb : CB w ns ps m d b W' := ⟨h.cb.1.grown hg h.cb.1.size (fun k hk => by have := h.r2.lt k hk; omega), hk _ _ _ _ h.cb.2.1 (by decide), hk _ _ _ _ h.cb.2.2 (by decide)⟩
 have hr1 : W'.ownsRow B 99 3 ns' l1.length (cellsT l1) := by
  refine ⟨h.r1.1, ?_⟩
  rcases h.r1.2 with h0 | ⟨g', cap, cur, h1, h2, h3, h4⟩
  ·exact .inl h0
  ·exact .inr ⟨g', cap, cur, h1, h2, hk _ _ _ _ h3 (by decide), h4⟩
 refine ⟨hbox, hcb, ⟨hcb.1.setCell (p := ⟨g, 3, none⟩) (by show w.heap.size ≤ g; omega) _, blk_set_ne hcb.2.1 ⟨g, 3, none⟩ (by show w.heap.size ≠ g; omega) _, blk_set_ne hcb.2.2 ⟨g, 3, none⟩ (by show w.heap.size + 1 ≠ g; omega) _⟩, blk_set hbox 3 _, h.low, h.lowg, own_set hr1 hbox (by decide) _ _, own_set ho hbox (by decide) _ _⟩
end Go.Proofs.Ytgbafpjeapkklaa.Mb
namespace Go.Proofs.Ytgbafpjeapkklaa.Mb
open Go.RowKit
set_option linter.unusedVariables false
set_option linter.unusedSimpArgs false
def InsC (k : Nat) (l : List (Int × Int × Int)) (x : Int × Int × Int) : Prop :=
 ∀ (W : World) (B X : Nat) (v : Value), W.ownsRow B 102 3 v l.length (cellsT l) → B ≤ W.heap.size → W.heap[X]? = some (.cells (trip x).toArray 102 (0, 0)) → v.ownBlock ≠ some X →
  Calls Try.prog 41 #[v, .int .i64 k, .slice (some ⟨X, 0, none⟩) 1 1] W fun e w' => ∃ v', e = .returned v' ∧ w'.ownsRow B 102 3 v' (l.length + 1) (cellsT (l.take k ++ x :: l.drop k)) ∧ W.grownBy w' v.ownBlock
theorem trip_src {W : World} {X : Nat} {x : Int × Int × Int} (hX : W.heap[X]? = some (.cells (trip x).toArray 102 (0, 0))) : ∀ j u, (cellsT [x])[j]? = some u → W.cell? ((⟨X, 0, none⟩ : Addr).add j) = some u := by
 intro j u hj
 have e : cellsT [x] = trip x := by simp [cellsT]
 rw [e] at hj
 rw [Addr.add_lit, Nat.zero_add]
 refine (cB hX j).trans ?_
 rw [List.getElem?_toArray]
 exact hj
set_option maxRecDepth 100000 in
set_option maxHeartbeats 4000000 in
theorem insert_end {l : List (Int × Int × Int)} (hl : l.length ≤ 2000) (x : Int × Int × Int) : InsC l.length l x := by
 intro W B X v h hB hX hne
 obtain ⟨i0, hi0, hz0, hz1, hz2⟩ := info_parts info102
 have HI := Lib.hid hi0; clear hi0
 have HZ0 := Lib.hid hz0; clear hz0
 have HZ1 := Lib.hid hz1; clear hz1
 have HZ2 := Lib.hid hz2; clear hz2
 have HSRC := Lib.hid (trip_src hX)
 have HLL : Hid (l.take l.length ++ x :: l.drop l.length = l ++ [x]) := by show _ = _; simp
 have HOWN := Lib.hid h
 have HBB := Lib.hid hB
 rw [HLL.out]
 have HXS : Hid (cellsT (l ++ [x]) = cellsT l ++ cellsT [x]) := cellsT_append _ _
 have HL := Lib.hid hl
 clear hX hB hl
 rcases h.2 with ⟨rfl, h0⟩ | ⟨g, cap, cur, rfl, hBg, hcur, hcap, hmax, hsize, htake⟩
 ·clear h hne
  generalize l.length = n at *
  subst h0
  go_enter Try.func41, Try.ntmps41
  go_upto_region 7 with fail
  go_wp2_with (at_builtin; refine wpList_append_own _ rfl _ _ 26 rfl B 102 i0 (.agg #[.int .i64 0, .int .i64 0, .int .i64 0]) 3 24 Try.underlying26 HI.out HZ0.out HZ1.out HZ2.out rfl (by decide) _ _ _ rfl HOWN.out ⟨X, 0, none⟩ 1 1 (cellsT [x]) rfl rfl ?c1 ?c2 ?c3 ?c4 ?c5 ?_)
  case c1 => exact HSRC.out
  case c2 => exact cellsT_one _
  case c3 => unfold maxLen; omega
  case c4 => omega
  case c5 => exact HBB.out
  intro v1 w1 hown1 hgr _
  have HO1 := Lib.hid hown1; clear hown1
  have HG1 := Lib.hid hgr; clear hgr
  go_wp2_with fail
  go_ret
  refine ⟨_, rfl, ?_, HG1.out⟩
  rw [HXS.out]
  exact HO1.out
 ·clear h hne hcur htake hsize
  generalize l.length = n at *
  have hc2 : cap ≤ 9223372036854775807 := by unfold maxLen at hmax; omega
  obtain ⟨A, hA⟩ : ∃ A : Addr, (if cap = n then (some ⟨g, 0, none⟩ : Option Addr) else some ⟨g, n * 3, none⟩) = some A := by
   by_cases hcn : cap = n
   ·exact ⟨⟨g, 0, none⟩, by simp [hcn]⟩
   ·exact ⟨⟨g, n * 3, none⟩, by simp [hcn]⟩
  go_enter Try.func41, Try.ntmps41
  go_upto_region 7 with fail
  go_wp2_with (at_builtin; refine wpList_append_own _ rfl _ _ 26 rfl B 102 i0 (.agg #[.int .i64 0, .int .i64 0, .int .i64 0]) 3 24 Try.underlying26 HI.out HZ0.out HZ1.out HZ2.out rfl (by decide) _ _ _ rfl HOWN.out ⟨X, 0, none⟩ 1 1 (cellsT [x]) rfl rfl ?c1 ?c2 ?c3 ?c4 ?c5 ?_)
  case c1 => exact HSRC.out
  case c2 => exact cellsT_one _
  case c3 => have := HL.out; unfold maxLen; omega
  case c4 => have := HL.out; omega
  case c5 => exact HBB.out
  intro v1 w1 hown1 hgr _
  have HO1 := Lib.hid hown1; clear hown1
  have HG1 := Lib.hid hgr; clear hgr
  go_wp2_with fail
  go_ret
  refine ⟨_, rfl, ?_, HG1.out⟩
  rw [HXS.out]
  exact HO1.out
end Go.Proofs.Ytgbafpjeapkklaa.Mb
namespace Go.Proofs.Ytgbafpjeapkklaa.Mb
open Go.RowKit
set_option linter.unusedVariables false
set_option linter.unusedSimpArgs false
def Q.pos (q : Q) (p : Int) : Nat := q.opn.findIdx fun o => decide (p ≤ o.1)
def Q.beg (q : Q) (p x : Int) : Q := { vals := q.vals ++ [(x, p)], opn := q.opn.take (q.pos p) ++ (p, q.m + 1) :: q.opn.drop (q.pos p), done := q.done, empty := false }
theorem CO.re1 {w : World} {ns ps : Value} {m d : Int} {b : Bool} {g B : Nat} {ns' ps' : Value} {l1 l2 : List (Int × Int × Int)} {m' d' : Int} {b' : Bool} {W W' : World} (h : CO w ns ps m d b g B ns' ps' l1 l2 m' d' b' W)
  (hg : W.grownBy W' ns'.ownBlock) {ns'' : Value} {l1' : List (Int × Int × Int)} (ho : W'.ownsRow B 99 3 ns'' l1'.length (cellsT l1')) :
  W'.heap[g]? = some (.cells #[ns', .int .i64 m', .int .i64 d', ps', .bool b'] 28 (0, 0)) ∧ CB w ns ps m d b W' ∧ CO w ns ps m d b g B ns'' ps' l1' l2 m' d' b' (W'.setCell ⟨g, 0, none⟩ ns'') := by
 have hne : ∀ (k : Nat) (C : Array Value) (t : TypeId) (f : Nat × Nat), W.heap[k]? = some (.cells C t f) → t ≠ 99 → some k ≠ ns'.ownBlock := fun k C t f hk ht e => own_ne h.r1 hk (Ne.symm ht) e.symm
 have hk : ∀ (k : Nat) (C : Array Value) (t : TypeId) (f : Nat × Nat), W.heap[k]? = some (.cells C t f) → t ≠ 99 → W'.heap[k]? = some (.cells C t f) := fun k C t f h1 h2 => (hg.block k (blk_lt h1) (hne k C t f h1 h2)).trans h1
 have hlow := h.low
 have hlowg := h.lowg
 have hbox := hk _ _ _ _ h.box (by decide)
 have hcb : CB w ns ps m d b W' := ⟨h.cb.1.grown hg h.cb.1.size (fun k hk => by have := h.r1.lt k hk; omega), hk _ _ _ _ h.cb.2.1 (by decide), hk _ _ _ _ h.cb.2.2 (by decide)⟩
 have hr2 : W'.ownsRow B 102 3 ps' l2.length (cellsT l2) := by
  refine ⟨h.r2.1, ?_⟩
  rcases h.r2.2 with h0 | ⟨g', cap, cur, h1, h2, h3, h4⟩
  ·exact .inl h0
  ·exact .inr ⟨g', cap, cur, h1, h2, hk _ _ _ _ h3 (by decide), h4⟩
 refine ⟨hbox, hcb, ⟨hcb.1.setCell (p := ⟨g, 0, none⟩) (by show w.heap.size ≤ g; omega) _, blk_set_ne hcb.2.1 ⟨g, 0, none⟩ (by show w.heap.size ≠ g; omega) _, blk_set_ne hcb.2.2 ⟨g, 0, none⟩ (by show w.heap.size + 1 ≠ g; omega) _⟩, blk_set hbox 0 _, h.low, h.lowg, own_set ho hbox (by decide) _ _, own_set hr2 hbox (by decide) _ _⟩
theorem own_fresh {W : World} {B : Nat} {e : TypeId} {v : Value} {n : Nat} {xs : List Value} (h : W.ownsRow B e 3 v n xs) : v.ownBlock ≠ some W.heap.size := by
 intro hv
 have := h.lt _ hv
 omega
end Go.Proofs.Ytgbafpjeapkklaa.Mb
namespace Go.Proofs.Ytgbafpjeapkklaa.Mb
open Go.RowKit
set_option linter.unusedVariables false
set_option linter.unusedSimpArgs false
theorem drewN_two (w : World) (a : Nat) : ∀ b, (w.drewN a).drewN b = w.drewN (a + b) := by
 intro b
 simp only [World.drewN, Nat.add_assoc]
def q0 : Q := { vals := [], opn := [], done := 0, empty := true }
set_option maxRecDepth 100000 in
set_option maxHeartbeats 1000000 in
theorem new_at (w : World) : Calls Try.prog 9 #[] w fun e w' => ∃ v, e = .returned v ∧ St w' v q0 ∧ Below w.heap.size w w' := by
 have h1 : Below w.heap.size w (w.alloc (Obj.cells #[.slice (some ⟨w.heap.size + 1, 0, none⟩) 1 1, .int .i64 0, .int .i64 0, .slice none 0 0, .bool true] 28)) := (Below.refl _ _).alloc (Nat.le_refl _) _
 have h2 := (Below.refl (w.alloc (Obj.cells #[.slice (some ⟨w.heap.size + 1, 0, none⟩) 1 1, .int .i64 0, .int .i64 0, .slice none 0 0, .bool true] 28)).heap.size (w.alloc (Obj.cells #[.slice (some ⟨w.heap.size + 1, 0, none⟩) 1 1, .int .i64 0, .int .i64 0, .slice none 0 0, .bool true] 28))).alloc (Nat.le_refl _) (Obj.cells #[.int .i64 0, .int .i64 (-1), .int .i64 (-1)] 99)
 have h3 := (MapKept.heap_alloc w (Obj.cells #[.slice (some ⟨w.heap.size + 1, 0, none⟩) 1 1, .int .i64 0, .int .i64 0, .slice none 0 0, .bool true] 28)).1
 have h4 := (MapKept.heap_alloc (w.alloc (Obj.cells #[.slice (some ⟨w.heap.size + 1, 0, none⟩) 1 1, .int .i64 0, .int .i64 0, .slice none 0 0, .bool true] 28)) (Obj.cells #[.int .i64 0, .int .i64 (-1), .int .i64 (-1)] 99)).1
 have hsz : (w.alloc (Obj.cells #[.slice (some ⟨w.heap.size + 1, 0, none⟩) 1 1, .int .i64 0, .int .i64 0, .slice none 0 0, .bool true] 28)).heap.size = w.heap.size + 1 := by simp
 have h5 := (h2.block _ (blk_lt h3)).trans h3
 have h6 := h1.trans (h2.mono h1.size)
 rw [hsz] at h4
 obtain ⟨W, hW⟩ : ∃ W, W = ((w.alloc (Obj.cells #[.slice (some ⟨w.heap.size + 1, 0, none⟩) 1 1, .int .i64 0, .int .i64 0, .slice none 0 0, .bool true] 28)).alloc (Obj.cells #[.int .i64 0, .int .i64 (-1), .int .i64 (-1)] 99)) := ⟨_, rfl⟩
 rw [← hW] at h4 h5 h6
 have H4 := Lib.hid h4
 have H6 := Lib.hid h6
 clear h1 h2 h3 hsz h4 h6
 go_enter Try.func9, Try.ntmps9
 go_wp2_with fail
 rw [← hW]
 clear hW
 have c0 : W.cell? ⟨w.heap.size, 0, none⟩ = some (.slice (some ⟨w.heap.size + 1, 0, none⟩) 1 1) := cB h5 0
 have c1 : W.cell? ⟨w.heap.size, 1, none⟩ = some (.int .i64 0) := cB h5 1
 have c2 : W.cell? ⟨w.heap.size, 2, none⟩ = some (.int .i64 0) := cB h5 2
 have c3 : W.cell? ⟨w.heap.size, 3, none⟩ = some (.slice none 0 0) := cB h5 3
 have c4 : W.cell? ⟨w.heap.size, 4, none⟩ = some (.bool true) := cB h5 4
 refine bodyPost_ret (v := .agg #[.slice (some ⟨w.heap.size + 1, 0, none⟩) 1 1, .int .i64 0, .int .i64 0, .slice none 0 0, .bool true]) (by simp [results, Try.results9, go_sem, c0, c1, c2, c3, c4]) rfl ⟨_, rfl, ⟨_, _, rfl, ?_, ?_⟩, ?_⟩
 ·refine ⟨⟨_, _, rfl, Nat.le_refl _, .inr ⟨_, _, rfl, blk_lt H4.out, fun k x hx => ?_⟩⟩, fun g hg => by simp [Value.ownBlock] at hg; subst hg; exact ⟨_, _, H4.out⟩⟩
  have e : q0.nodes = [(0, -1, -1)] := by decide
  rw [e] at hx
  cases k with
  | zero =>
   simp at hx; subst hx
   exact ⟨cB H4.out 0, cB H4.out 1, cB H4.out 2⟩
  | succ k => simp at hx
 ·exact ⟨⟨none, 0, rfl, Nat.le_refl _, .inl rfl⟩, fun g hg => by simp [Value.ownBlock] at hg⟩
 ·exact H6.out
set_option maxRecDepth 100000 in
set_option maxHeartbeats 1000000 in
theorem equal_at {w : World} {u v : Value} {n : Nat} {B B' : Nat} {l : List Int} (h1 : w.ownsRow B 3 1 u n (ints l)) (h2 : w.ownsRow B' 3 1 v n (ints l)) (hn : n ≤ 100000) :
  Calls Try.prog 14 #[u, v] w fun e w' => e = .returned (.bool true) ∧ Below w.heap.size w w' := by
 have hc1 := fun g hg => h1.cells (g := g) hg
 have hc2 := fun g hg => h2.cells (g := g) hg
 have hl : l.length = n := by have := h1.1; simpa [ints] using this
 rcases h1.2 with ⟨rfl, h0⟩ | ⟨g, cap, cur, rfl, _, hg, hcap, _⟩
 ·subst h0
  obtain ⟨p2, c2, rfl⟩ := own1_slice h2
  go_enter Try.func14, Try.ntmps14
  go_wp2_with fail
  go_loop [13] (fun s => s = .int .i64 0) (fun _ => 0)
  case atStart => rfl
  case round =>
   obtain rfl := hrel
   go_wp2
   go_ret
   exact ⟨rfl, Below.refl _ _⟩
 ·rcases h2.2 with ⟨rfl, h0⟩ | ⟨g', cap', cur', rfl, _, hg', hcap', _⟩
  ·subst h0
   go_enter Try.func14, Try.ntmps14
   go_wp2_with fail
   go_loop [13] (fun s => s = .int .i64 0) (fun _ => 0)
   case atStart => rfl
   case round =>
    obtain rfl := hrel
    go_wp2
    go_ret
    exact ⟨rfl, Below.refl _ _⟩
  ·have HC : Hid (∀ (k : Nat) (x : Int), l[k]? = some x → w.cell? ⟨g, k, none⟩ = some (.int .i64 x) ∧ w.cell? ⟨g', k, none⟩ = some (.int .i64 x)) := by
    intro k x hx
    have hi : (ints l)[k]? = some (.int .i64 x) := by simp [ints, hx]
    have a := hc1 g rfl k _ hi
    have b := hc2 g' rfl k _ hi
    rw [Addr.add_lit, Nat.zero_add] at a b
    exact ⟨a, b⟩
   have HN := Lib.hid hl
   clear h1 h2 hc1 hc2 hl hg hg' hcap hcap'
   go_enter Try.func14, Try.ntmps14
   go_wp2_with fail
   go_loopw [13] (fun s13 wr => ∃ k : Nat, k ≤ n ∧ s13 = .int .i64 k ∧ ∃ r, wr = w.drewN r) (fun s13 _ => n - (intOf s13).toNat)
   case atStart => exact ⟨0, by omega, rfl, 0, rfl⟩
   case round =>
    obtain ⟨k, hk, rfl, r, hr⟩ := hrel
    have HR := Lib.hid hr; clear hr
    by_cases hlt : k < n
    ·obtain ⟨x, hx⟩ : ∃ x, l[k]? = some x := ⟨l[k]'(by rw [HN.out]; exact hlt), by simp⟩
     obtain ⟨a, b⟩ := HC.out k x hx
     have c1 : wr.cell? ⟨g, k, none⟩ = some (.int .i64 x) := by rw [HR.out]; exact a
     have c2 : wr.cell? ⟨g', k, none⟩ = some (.int .i64 x) := by rw [HR.out]; exact b
     clear a b hx
     go_wp2_with fail
     go_quiet (fail)
     go_wp2
     go_roundw
     case rel => exact ⟨k + 1, by omega, by go_num, r + nq, by rw [HR.out]; exact drewN_two w r nq⟩
     case measure => simp [intOf]; omega
    ·obtain rfl : k = n := by omega
     go_wp2
     go_ret
     exact ⟨rfl, by rw [HR.out]; exact below_drewN (Below.refl _ _) r⟩
end Go.Proofs.Ytgbafpjeapkklaa.Mb
namespace Go.Proofs.Ytgbafpjeapkklaa.Mb
open Go.RowKit
set_option linter.unusedVariables false
set_option linter.unusedSimpArgs false
structure SB (w : World) (X : Nat) (ns ps : Value) (q : Q) (W : World) : Prop where
 below : Below w.heap.size w W
 low : w.heap.size ≤ X
 box : W.heap[X]? = some (.cells #[ns, .int .i64 q.m, .int .i64 q.done, ps, .bool q.empty] 28 (0, 0))
 t1 : TriT W 99 ns q.nodes
 t2 : TriT W 102 ps q.pushes
theorem SB.step {w : World} {X : Nat} {ns ps : Value} {q : Q} {W W' : World} (h : SB w X ns ps q W) (hb : Below W.heap.size W W') : SB w X ns ps q W' :=
 ⟨h.below.trans (hb.mono h.below.size), h.low, (hb.block _ (blk_lt h.box)).trans h.box, h.t1.below hb, h.t2.below hb⟩
theorem SB.st {w : World} {X : Nat} {ns ps : Value} {q : Q} {W : World} (h : SB w X ns ps q W) : St W (.agg #[ns, .int .i64 q.m, .int .i64 q.done, ps, .bool q.empty]) q := ⟨ns, ps, rfl, h.t1, h.t2⟩
theorem SB.facts {w : World} {X : Nat} {ns ps : Value} {q : Q} {W : World} (h : SB w X ns ps q W) :
  W.cell? ⟨X, 0, none⟩ = some ns ∧ W.cell? ⟨X, 1, none⟩ = some (.int .i64 q.m) ∧ W.cell? ⟨X, 2, none⟩ = some (.int .i64 q.done) ∧ W.cell? ⟨X, 3, none⟩ = some ps ∧ W.cell? ⟨X, 4, none⟩ = some (.bool q.empty) :=
 ⟨cB h.box 0, cB h.box 1, cB h.box 2, cB h.box 3, cB h.box 4⟩
theorem SB.frz {w : World} {X : Nat} {ns ps : Value} {q : Q} {W : World} (h : SB w X ns ps q W) :
  W.frozen? ⟨X, 0, none⟩ = false ∧ W.frozen? ⟨X, 1, none⟩ = false ∧ W.frozen? ⟨X, 2, none⟩ = false ∧ W.frozen? ⟨X, 3, none⟩ = false ∧ W.frozen? ⟨X, 4, none⟩ = false :=
 ⟨frozen_blk h.box 0, frozen_blk h.box 1, frozen_blk h.box 2, frozen_blk h.box 3, frozen_blk h.box 4⟩
theorem TriT.keep {W W' : World} {e : TypeId} {v : Value} {l : List (Int × Int × Int)} (h : TriT W e v l) (hs : W.heap.size ≤ W'.heap.size) (hk : ∀ (k : Nat) (C : Array Value) (f : Nat × Nat), W.heap[k]? = some (.cells C e f) → W'.heap[k]? = W.heap[k]?) : TriT W' e v l := by
 obtain ⟨⟨p, cap, rfl, hc, h1⟩, h2⟩ := h
 refine ⟨⟨p, cap, rfl, hc, ?_⟩, fun g hg => ?_⟩
 ·rcases h1 with h1 | ⟨g, off, rfl, hg, h1⟩
  ·exact .inl h1
  ·obtain ⟨cur, f, hcur⟩ := h2 g rfl
   have e' := hk _ _ _ hcur
   refine .inr ⟨g, off, rfl, Nat.lt_of_lt_of_le hg hs, fun k x hx => ?_⟩
   obtain ⟨a, b, c⟩ := h1 k x hx
   exact ⟨(World.cell?_of_block (a := ⟨g, off + k * 3, none⟩) e').trans a, (World.cell?_of_block (a := ⟨g, off + k * 3 + 1, none⟩) e').trans b, (World.cell?_of_block (a := ⟨g, off + k * 3 + 2, none⟩) e').trans c⟩
 ·obtain ⟨cur, f, hcur⟩ := h2 g hg
  exact ⟨cur, f, (hk _ _ _ hcur).trans hcur⟩
theorem TriT.five {W : World} {e t : TypeId} {v : Value} {l : List (Int × Int × Int)} (h : TriT W e v l) {X : Nat} {C : Array Value} {f : Nat × Nat} (hX : W.heap[X]? = some (.cells C t f)) (ht : e ≠ t) (v0 v1 v2 v3 v4 : Value) :
  TriT (((((W.setCell ⟨X, 0, none⟩ v0).setCell ⟨X, 1, none⟩ v1).setCell ⟨X, 2, none⟩ v2).setCell ⟨X, 3, none⟩ v3).setCell ⟨X, 4, none⟩ v4) e v l := by
 refine h.keep (by simp [World.setCell]) fun k C' f' hk => ?_
 have hne : k ≠ X := by
  rintro rfl
  rw [hk] at hX
  injection hX with hX
  injection hX with _ h2 _
  exact ht h2
 rw [Below.heap_setCell _ _ _ _ hne, Below.heap_setCell _ _ _ _ hne, Below.heap_setCell _ _ _ _ hne, Below.heap_setCell _ _ _ _ hne, Below.heap_setCell _ _ _ _ hne]
theorem SB.put {w : World} {X : Nat} {ns ps : Value} {q : Q} {W : World} (h : SB w X ns ps q W) {ns' ps' : Value} {q' : Q} (h1 : TriT W 99 ns' q'.nodes) (h2 : TriT W 102 ps' q'.pushes) {W' : World}
  (hW : W' = (((((W.setCell ⟨X, 0, none⟩ ns').setCell ⟨X, 1, none⟩ (.int .i64 q'.m)).setCell ⟨X, 2, none⟩ (.int .i64 q'.done)).setCell ⟨X, 3, none⟩ ps').setCell ⟨X, 4, none⟩ (.bool q'.empty))) : SB w X ns' ps' q' W' := by
 subst hW
 obtain ⟨f1, f2, _⟩ := five h.box ns' (.int .i64 q'.m) (.int .i64 q'.done) ps' (.bool q'.empty)
 exact ⟨f2 _ _ h.low h.below, h.low, f1, h1.five h.box (by decide) _ _ _ _ _, h2.five h.box (by decide) _ _ _ _ _⟩
theorem SB.mk' {w : World} {W : World} (hb : Below w.heap.size w W) {ns' ps' : Value} {q' : Q} (h1 : TriT W 99 ns' q'.nodes) (h2 : TriT W 102 ps' q'.pushes) :
  ∃ X W', X = W.heap.size ∧ W' = W.alloc (Obj.cells #[ns', .int .i64 q'.m, .int .i64 q'.done, ps', .bool q'.empty] 28) ∧ SB w X ns' ps' q' W' ∧ Below W.heap.size W W' := by
 have ha : Below W.heap.size W (W.alloc (Obj.cells #[ns', .int .i64 q'.m, .int .i64 q'.done, ps', .bool q'.empty] 28)) := (Below.refl _ _).alloc (Nat.le_refl _) _
 exact ⟨_, _, rfl, rfl, ⟨hb.trans (ha.mono hb.size), hb.size, (MapKept.heap_alloc _ _).1, h1.below ha, h2.below ha⟩, ha⟩
def a1 : Q := q0.beg 0 7
def a2 : Q := a1.beg 1 8
def a3 : Q := a2.fin 1
def a4 : Q := a3.fin 0
def a5 : Q := { a4 with done := a4.done + 1 }
def a6 : Q := { a5 with done := a5.done + 1 }
end Go.Proofs.Ytgbafpjeapkklaa.Mb
namespace Go.Proofs.Ytgbafpjeapkklaa.Mb
open Go.RowKit
set_option linter.unusedVariables false
set_option linter.unusedSimpArgs false
set_option maxRecDepth 100000 in
theorem run_append_one (W : World) (ty : TypeId) {B : Nat} {u : Value} {n : Nat} {xs : List Int} (h : W.ownsRow B 3 1 u n (ints xs)) {g : Nat} {c : Int} (hg : W.heap[g]? = some (.cells #[.int .i64 c] 3 (0, 0))) (hn : n ≤ 2000) (hB : B ≤ W.heap.size) :
  ∃ u' W', (Builtin.append_ #[30, 30] ty #[u, .slice (some ⟨g, 0, none⟩) 1 1]).run Try.prog W = .ok u' W' ∧ W'.ownsRow B 3 1 u' (n + 1) (ints (xs ++ [c])) ∧ W.grownBy W' u.ownBlock ∧ (u'.ownBlock = u.ownBlock ∨ u'.ownBlock = some W.heap.size) ∧ ∃ p k, u' = .slice p (n + 1) k := by
 obtain ⟨i0, hi, hz0, hz1, hz2⟩ := info_parts info3
 have hsrc : ∀ j x, [Value.int .i64 c][j]? = some x → W.cell? ((⟨g, 0, none⟩ : Addr).add j) = some x := by
  intro j x hj
  cases j with
  | zero => simp at hj; subst hj; exact cB hg 0
  | succ j => simp at hj
 obtain ⟨u', W', hr, ho, hgr, hnil⟩ := run_append_own (P := Try.prog) W B 30 ty 3 i0 (.int .i64 0) 1 8 Try.underlying30 hi hz0 hz1 hz2 rfl (by decide) u n (ints xs) h ⟨g, 0, none⟩ 1 1 [.int .i64 c] rfl hsrc (ints_one [c]) (by unfold maxLen; omega) (by omega) hB
 have hsl := own1_slice ho
 refine ⟨u', W', hr, by simpa [ints] using ho, hgr, ?_, hsl⟩
 rcases h.2 with ⟨rfl, h0⟩ | ⟨g', cap, cur, rfl, hb, hgg, hnc, hm, hs, ht⟩
 ·right
  have hr2 := run_append_nil (P := Try.prog) W 30 ty 3 i0 (.int .i64 0) Try.underlying30 hi hz0 ⟨g, 0, none⟩ 1 1 [.int .i64 c] (by rw [hz1]; rfl) hsrc (by omega) (by omega) (by omega)
  have e := (hr.symm.trans hr2); injection e with e _
  rw [e]; rfl
 ·by_cases hroom : n + 1 ≤ cap
  ·left
   have hr2 := run_append_room (P := Try.prog) W 30 ty 3 i0 Try.underlying30 hi g' n cap cur hgg ⟨g, 0, none⟩ 1 1 [.int .i64 c] (by rw [hz1]; rfl) hsrc (ints_one [c]) hroom (by rw [hz1, hs]; simp; omega)
   have e := (hr.symm.trans hr2); injection e with e _
   rw [e]; rfl
  ·right
   have hx := h.cells (g := g') rfl
   have hr2 := run_append_grow (P := Try.prog) W 30 ty 3 i0 (.int .i64 0) Try.underlying30 hi hz0 ⟨g', 0, none⟩ n cap (ints xs) (by rw [hz1]; exact h.1) hx ⟨g, 0, none⟩ 1 1 [.int .i64 c] (by rw [hz1]; rfl) hsrc (by omega) (by omega) (growslice_fits (by omega) (by rw [hz2]; omega))
   have e := (hr.symm.trans hr2); injection e with e _
   rw [e]; rfl
end Go.Proofs.Ytgbafpjeapkklaa.Mb
namespace Go.Proofs.Ytgbafpjeapkklaa.Mb
open Go.RowKit
set_option linter.unusedVariables false
set_option linter.unusedSimpArgs false
theorem z_cells {W : World} {g : Nat} (h : W.heap[g]? = some (.cells #[.slice none 0 0, .int .i64 0, .int .i64 0, .slice none 0 0, .bool false] 28 (0, 0))) :
  W.cell? ⟨g, 0, none⟩ = some (.slice none 0 0) ∧ W.cell? ⟨g, 1, none⟩ = some (.int .i64 0) ∧ W.cell? ⟨g, 2, none⟩ = some (.int .i64 0) ∧ W.cell? ⟨g, 3, none⟩ = some (.slice none 0 0) ∧ W.cell? ⟨g, 4, none⟩ = some (.bool false) :=
 ⟨cB h 0, cB h 1, cB h 2, cB h 3, cB h 4⟩
end Go.Proofs.Ytgbafpjeapkklaa.Mb
