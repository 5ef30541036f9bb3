/- Parts Tw, Tz, Ty of the proof. -/
import Derived.Test.YtgbafpjeapkklaaG2
import Derived.Test.YtgbafpjeapkklaaG7
import Derived.Test.YtgbafpjeapkklaaG11
import Derived.Test.YtgbafpjeapkklaaG14
namespace Go.Proofs.Ytgbafpjeapkklaa.Mb
open Go.RowKit Go.ChangeShapes
set_option linter.unusedVariables false
set_option linter.unusedSimpArgs false
theorem rowAt_leaf {p : Program} {fits : TypeId → Bool} {e : TypeId} (h0 : fits e = false) (h1 : ∀ gs, p.underlying e ≠ some (.struct gs)) (h2 : ∀ m u, p.underlying e ≠ some (.array m u)) : ∀ d count off n, rowAt p fits d e count off n = false
 | 0, _, _, _ => rfl
 | d + 1, count, off, n => by
  unfold rowAt
  simp only [h0, Bool.and_false, Bool.false_or]
  split
  ·rfl
  ·first
    | rfl
    | (split
       ·next gs hg => exact absurd hg (h1 gs)
       ·next m u hg => exact absurd hg (h2 m u)
       ·simp)
theorem rowAt_flat {p : Program} {fits : TypeId → Bool} {e : TypeId} {fs : Array Field} (he : p.underlying e = some (.struct fs)) (h0 : fits e = false)
  (hf : ∀ f ∈ fs.toList, fits f.type = false ∧ (∀ gs, p.underlying f.type ≠ some (.struct gs)) ∧ ∀ m u, p.underlying f.type ≠ some (.array m u)) : ∀ d count off n, rowAt p fits d e count off n = false
 | 0, _, _, _ => rfl
 | d + 1, count, off, n => by
  unfold rowAt
  simp only [h0, Bool.and_false, Bool.false_or, he]
  split
  ·rfl
  ·have : (fs.any fun f => decide (f.offset ≤ off % p.cellsOf e) && decide (off % p.cellsOf e < f.offset + p.cellsOf f.type) && rowAt p fits d f.type 1 (off % p.cellsOf e - f.offset) n) = false := by
    rw [← Array.any_toList, List.any_eq_false]
    intro f hm
    obtain ⟨a, b, c⟩ := hf f hm
    rw [rowAt_leaf a b c]
    simp
   rw [this]
   simp
theorem liesAt_no {p : Program} {row u : TypeId} {fs gs : Array Field} (hr : p.underlying row = some (.struct fs)) (hu : p.underlying u = some (.struct gs)) (h0 : sameLayout p p.depth row u = false)
  (hf : ∀ f ∈ fs.toList, sameLayout p p.depth f.type u = false ∧ (∀ gs, p.underlying f.type ≠ some (.struct gs)) ∧ ∀ m u, p.underlying f.type ≠ some (.array m u)) : ∀ d count off n, liesAt p d row count off u n = false
 | 0, _, _, _ => rfl
 | d + 1, count, off, n => by
  unfold liesAt
  rw [rowAt_flat hr h0 hf, hu]
  rfl
theorem no_28_105 (d count off n : Nat) : liesAt Try.prog d 28 count off 105 n = false := by
 refine liesAt_no Try.underlying28 Try.underlying105 (by kernel_rfl) ?_ d count off n
 intro f hf
 simp only [List.mem_cons, List.not_mem_nil, or_false] at hf
 rcases hf with rfl | rfl | rfl | rfl | rfl
 all_goals refine ⟨by kernel_rfl, fun gs h => ?_, fun m u h => ?_⟩
 all_goals first | (rw [Try.underlying24] at h; cases h) | (rw [Try.underlying25] at h; cases h) | (rw [Try.underlying26] at h; cases h) | (rw [Try.underlying3] at h; cases h) | (rw [Try.underlying4] at h; cases h)
theorem no_46_105 (d count off n : Nat) : liesAt Try.prog d 46 count off 105 n = false := by
 refine liesAt_no Try.underlying46 Try.underlying105 (by kernel_rfl) ?_ d count off n
 intro f hf
 simp only [List.mem_cons, List.not_mem_nil, or_false] at hf
 rcases hf with rfl | rfl | rfl | rfl | rfl
 all_goals refine ⟨by kernel_rfl, fun gs h => ?_, fun m u h => ?_⟩
 all_goals first | (rw [Try.underlying43] at h; cases h) | (rw [Try.underlying44] at h; cases h) | (rw [Try.underlying3] at h; cases h) | (rw [Try.underlying4] at h; cases h)
theorem no_28_122 (d count off n : Nat) : liesAt Try.prog d 28 count off 122 n = false := by
 refine liesAt_no Try.underlying28 Try.underlying122 (by kernel_rfl) ?_ d count off n
 intro f hf
 simp only [List.mem_cons, List.not_mem_nil, or_false] at hf
 rcases hf with rfl | rfl | rfl | rfl | rfl
 all_goals refine ⟨by kernel_rfl, fun gs h => ?_, fun m u h => ?_⟩
 all_goals first | (rw [Try.underlying24] at h; cases h) | (rw [Try.underlying25] at h; cases h) | (rw [Try.underlying26] at h; cases h) | (rw [Try.underlying3] at h; cases h) | (rw [Try.underlying4] at h; cases h)
theorem no_46_122 (d count off n : Nat) : liesAt Try.prog d 46 count off 122 n = false := by
 refine liesAt_no Try.underlying46 Try.underlying122 (by kernel_rfl) ?_ d count off n
 intro f hf
 simp only [List.mem_cons, List.not_mem_nil, or_false] at hf
 rcases hf with rfl | rfl | rfl | rfl | rfl
 all_goals refine ⟨by kernel_rfl, fun gs h => ?_, fun m u h => ?_⟩
 all_goals first | (rw [Try.underlying43] at h; cases h) | (rw [Try.underlying44] at h; cases h) | (rw [Try.underlying3] at h; cases h) | (rw [Try.underlying4] at h; cases h)
theorem cells105 : Try.prog.cellsOf 105 = 3 := by kernel_rfl
theorem cells122 : Try.prog.cellsOf 122 = 3 := by kernel_rfl
theorem cells3 : Try.prog.cellsOf 3 = 1 := by kernel_rfl
set_option maxRecDepth 100000 in
theorem tri_of {H : Type} {enc : TypeId × Value → H} {W : World} {t e : TypeId} {b0 : Nat} {fuel : Nat} {v : Value} {x : DataW H × List MemPlace} (ht : Try.prog.underlying t = some (.slice e)) (ce : Try.prog.cellsOf e = 3)
  (hel : ∀ (n : Nat) (cs : List Value) (y : DataW H × List MemPlace), cs.length = 3 → DataW.trod enc Try.prog W 0 (fun _ => true) true n e cs = some y → ∃ a b c : Int, cs = [.int .i64 a, .int .i64 b, .int .i64 c])
  (h28 : ∀ d count off n, liesAt Try.prog d 28 count off e n = false) (h46 : ∀ d count off n, liesAt Try.prog d 46 count off e n = false)
  (hc : Cell.okWide Try.prog W .any b0 t v) (h : DataW.trod enc Try.prog W 0 (fun _ => true) true fuel t [v] = some x) : ∃ l, TriI W v l := by
 rcases Go.Deep.open_slice ht h with ⟨hv, _⟩ | ⟨a, len, cap, m, n, D, Pl, hv, hb, hl, hm, hmm, _, hx⟩
 ·obtain rfl : v = .slice none 0 0 := by simpa using hv
  exact ⟨[], ⟨none, 0, rfl, Nat.le_refl _, .inl rfl⟩, .inl rfl⟩
 ·obtain rfl : v = .slice (some a) len cap := by simpa using hv
  have hlm : len ≤ m := by rw [hmm]; split <;> omega
  have each : ∀ i, i < len → ∃ x : T3, W.cell? (a.add (i * 3)) = some (.int .i64 x.1) ∧ W.cell? (a.add (i * 3 + 1)) = some (.int .i64 x.2.1) ∧ W.cell? (a.add (i * 3 + 2)) = some (.int .i64 x.2.2) := by
   intro i hi
   obtain ⟨cs', h1, h2⟩ := hx i (by omega)
   rw [ce] at h1
   obtain ⟨_, hlen, hcell⟩ := World.cells?_some h1
   obtain ⟨p, q, r, rfl⟩ := hel _ _ _ hlen h2
   have e0 := hcell 0 (by omega)
   have e1 := hcell 1 (by omega)
   have e2 := hcell 2 (by omega)
   rw [Go.Deep.add_add] at e0 e1 e2
   exact ⟨(p, q, r), by simpa using e0, by simpa using e1, by simpa using e2⟩
  obtain ⟨q, hq⟩ := Go.Deep.choose_lt each
  have hlen : ((List.range len).map q).length = len := by simp
  by_cases h0 : len = 0
  ·subst h0
   exact ⟨[], ⟨some a, cap, rfl, hl, .inl rfl⟩, .inl rfl⟩
  ·have hp := (hq 0 (by omega)).1
   obtain ⟨b, off, mm⟩ := a
   cases mm with
   | some x => exfalso; simp [World.cell?, Addr.add] at hp; split at hp <;> cases hp
   | none =>
    refine ⟨(List.range len).map q, ⟨some ⟨b, off, none⟩, cap, by rw [hlen], by rw [hlen]; exact hl, .inr ⟨b, off, rfl, World.block_lt_of_cell? _ _ hp, fun k x hx => ?_⟩⟩, .inr fun g hg => ?_⟩
    ·have hk := (List.getElem?_eq_some_iff.1 hx).1
     simp at hk
     simp [hk] at hx
     subst hx
     obtain ⟨y0, y1, y2⟩ := hq k hk
     rw [Addr.add_lit] at y0 y1 y2
     exact ⟨y0, by rw [Nat.add_assoc]; exact y1, by rw [Nat.add_assoc]; exact y2⟩
    ·obtain rfl : b = g := by simpa [Value.ownBlock] using hg
     simp only [Cell.okWide, ht, Cell.ok] at hc
     obtain ⟨_, _, _, _, row, cells, hsh, hlies⟩ := hc
     simp only [World.shape?] at hsh
     split at hsh
     ·next cur f e' f' hcur =>
      injection hsh with hsh
      injection hsh with e1 e2
      refine ⟨_, _, _, hcur, ?_, ?_⟩
      ·rintro rfl
       subst e1
       rw [h28] at hlies
       cases hlies
      ·rintro rfl
       subst e1
       rw [h46] at hlies
       cases hlies
     ·cases hsh
set_option maxRecDepth 100000 in
theorem el105 {H : Type} {enc : TypeId × Value → H} {W : World} (n : Nat) (cs : List Value) (y : DataW H × List MemPlace) (hl : cs.length = 3) (h : DataW.trod enc Try.prog W 0 (fun _ => true) true n 105 cs = some y) : ∃ a b c : Int, cs = [.int .i64 a, .int .i64 b, .int .i64 c] := by
 obtain ⟨xs, k, hk, hxy, _, hxl, hf⟩ := DataW.trod_struct Try.underlying105 h
 match xs, hxl, cs, hl with
 | [y0, y1, y2], _, [v0, v1, v2], _ =>
  have g0 := hf 0 _ rfl
  have g1 := hf 1 _ rfl
  have g2 := hf 2 _ rfl
  simp [cells3] at g0 g1 g2
  obtain ⟨z0, q0, _, w0⟩ := DataW.trod_int Try.underlying3 g0
  obtain ⟨z1, q1, _, w1⟩ := DataW.trod_int Try.underlying3 g1
  obtain ⟨z2, q2, _, w2⟩ := DataW.trod_int Try.underlying3 g2
  simp at q0 q1 q2
  subst q0 q1 q2
  exact ⟨z0, z1, z2, rfl⟩
set_option maxRecDepth 100000 in
theorem el122 {H : Type} {enc : TypeId × Value → H} {W : World} (n : Nat) (cs : List Value) (y : DataW H × List MemPlace) (hl : cs.length = 3) (h : DataW.trod enc Try.prog W 0 (fun _ => true) true n 122 cs = some y) : ∃ a b c : Int, cs = [.int .i64 a, .int .i64 b, .int .i64 c] := by
 obtain ⟨xs, k, hk, hxy, _, hxl, hf⟩ := DataW.trod_struct Try.underlying122 h
 match xs, hxl, cs, hl with
 | [y0, y1, y2], _, [v0, v1, v2], _ =>
  have g0 := hf 0 _ rfl
  have g1 := hf 1 _ rfl
  have g2 := hf 2 _ rfl
  simp [cells3] at g0 g1 g2
  obtain ⟨z0, q0, _, w0⟩ := DataW.trod_int Try.underlying3 g0
  obtain ⟨z1, q1, _, w1⟩ := DataW.trod_int Try.underlying3 g1
  obtain ⟨z2, q2, _, w2⟩ := DataW.trod_int Try.underlying3 g2
  simp at q0 q1 q2
  subst q0 q1 q2
  exact ⟨z0, z1, z2, rfl⟩
theorem types46 : Try.prog.cellTypes Try.prog.depth 46 = some [43, 3, 3, 44, 4] := by kernel_rfl
theorem cellsOf46 : Try.prog.cellsOf 46 = 5 := by kernel_rfl
theorem types51 : Try.prog.cellTypes Try.prog.depth 51 = some [49, 49, 49] := by kernel_rfl
theorem cells43 : Try.prog.cellsOf 43 = 1 := by kernel_rfl
theorem cells44 : Try.prog.cellsOf 44 = 1 := by kernel_rfl
theorem cells4 : Try.prog.cellsOf 4 = 1 := by kernel_rfl
set_option maxRecDepth 100000 in
theorem state_of {H : Type} {enc : TypeId × Value → H} {W : World} {v : Value} {d : DataW H} {pl : List MemPlace} {b0 : Nat} (hval : Value.okWide Try.prog W .any b0 46 v) (h : DataW.Trod enc Try.prog W 0 (fun _ => true) true 46 v d pl) :
  ∃ ns last done ps em, StRG W v ns last done ps em := by
 simp only [Value.okWide, Try.underlying46] at hval
 obtain ⟨cs, rfl, hsz, ts, hts, _, hcell⟩ := hval
 rw [types46] at hts
 injection hts with hts
 subst hts
 rw [cellsOf46] at hsz
 obtain ⟨cl⟩ := cs
 match cl, hsz with
 | [v0, v1, v2, v3, v4], _ =>
  obtain ⟨fuel, h⟩ := h
  obtain ⟨xs, k, hk, hxy, _, hxl, hf⟩ := DataW.trod_struct Try.underlying46 h
  have c0 := hcell 0 v0 rfl
  have c3 := hcell 3 v3 rfl
  simp at c0 c3
  match xs, hxl with
  | [y0, y1, y2, y3, y4], _ =>
   have g0 := hf 0 _ rfl
   have g1 := hf 1 _ rfl
   have g2 := hf 2 _ rfl
   have g3 := hf 3 _ rfl
   have g4 := hf 4 _ rfl
   simp [cells3, cells43, cells44, cells4, Value.cells] at g0 g1 g2 g3 g4
   obtain ⟨z1, q1, _, w1⟩ := DataW.trod_int Try.underlying3 g1
   obtain ⟨z2, q2, _, w2⟩ := DataW.trod_int Try.underlying3 g2
   have c4 := hcell 4 v4 rfl
   simp only [Cell.okWide] at c4
   simp at q1 q2
   subst q1 q2
   obtain ⟨em, rfl⟩ : ∃ b, v4 = .bool b := by
    simp [Cell.okWide, Cell.ok, Try.underlying4] at c4
    cases v4 <;> simp_all
   obtain ⟨ns, hn⟩ := tri_of Try.underlying43 cells105 el105 no_28_105 no_46_105 c0 g0
   obtain ⟨ps, hp⟩ := tri_of Try.underlying44 cells122 el122 no_28_122 no_46_122 c3 g3
   exact ⟨ns, z1, z2, ps, em, v0, v3, rfl, hn, hp⟩
set_option maxRecDepth 100000 in
theorem op_of {W : World} {v : Value} {b0 : Nat} (hval : Value.okWide Try.prog W .any b0 51 v) :
  ∃ a b c : Int, v = .agg #[.int .i8 a, .int .i8 b, .int .i8 c] ∧ (-128 ≤ a ∧ a ≤ 127) ∧ (-128 ≤ b ∧ b ≤ 127) ∧ (-128 ≤ c ∧ c ≤ 127) := by
 simp only [Value.okWide, Try.underlying51] at hval
 obtain ⟨cs, rfl, hsz, ts, hts, _, hcell⟩ := hval
 rw [types51] at hts
 injection hts with hts
 subst hts
 rw [cells51] at hsz
 obtain ⟨cl⟩ := cs
 match cl, hsz with
 | [v0, v1, v2], _ =>
  have one : ∀ v, Cell.okWide Try.prog W .any b0 49 v → ∃ a : Int, v = .int .i8 a ∧ (-128 ≤ a ∧ a ≤ 127) := fun v h => by
   simp only [Cell.okWide, Try.underlying49, Cell.ok] at h
   cases v <;> simp_all [IntKind.has, IntKind.min, IntKind.max, IntKind.signed, IntKind.bits]
  have c0 := hcell 0 v0 rfl
  have c1 := hcell 1 v1 rfl
  have c2 := hcell 2 v2 rfl
  simp at c0 c1 c2
  obtain ⟨a, rfl, ha⟩ := one _ c0
  obtain ⟨b, rfl, hb⟩ := one _ c1
  obtain ⟨c, rfl, hc⟩ := one _ c2
  exact ⟨a, b, c, rfl, ha, hb, hc⟩
end Go.Proofs.Ytgbafpjeapkklaa.Mb
namespace Go.Proofs.Ytgbafpjeapkklaa.Mb
open Go.RowKit
set_option linter.unusedVariables false
set_option linter.unusedSimpArgs false
instance (N : Nat) (n : Int) : Decidable (InR N n) := inferInstanceAs (Decidable (_ ∧ _))
instance (N k : Nat) (x : T3) : Decidable (NodeOk N k x) := inferInstanceAs (Decidable (_ ∧ _))
def RB (ns : List T3) (last done : Int) (ps : List T3) (em : Bool) (S0 : List Int) (e0 : Int) (S : List Int) : Prop :=
 (1 ≤ ns.length ∧ ns.length ≤ 2000 ∧ InR ns.length last ∧ InR ns.length done ∧ (ngt ns 0).1 = 0 ∧ (ngt ns 0).2.1 = -1) ∧ (∀ k, k < ns.length → NodeOk ns.length k (ngt ns k)) ∧
 (∀ k, k < ps.length → InR ns.length (pgt ps k).2.1 ∧ InR ns.length (pgt ps k).2.2 ∧ 0 ≤ (pgt ps k).1 ∧ (0 < k → (pgt ps (k - 1)).1 < (pgt ps k).1) ∧ nxtG ns (pgt ps k).2.1 = -1 ∧ (ngt ns (pgt ps k).2.2.toNat).2.1 = (pgt ps k).1) ∧
 (∀ k, k < ps.length → fb ps k (pgt ps k).2.1 = none) ∧ (chainF ns (ns.length + 1) [] 0 = (S0, some e0) ∧ done ∈ S0 ∧ loopF ns ps ps.length S0 e0 = some (S, last) ∧ S.length = ns.length ∧ (em = true → done = last))
instance (ns : List T3) (last done : Int) (ps : List T3) (em : Bool) (S0 : List Int) (e0 : Int) (S : List Int) : Decidable (RB ns last done ps em S0 e0 S) := by
 unfold RB
 infer_instance
theorem ngt_get {ns : List T3} {k : Nat} {x : T3} (h : ns[k]? = some x) : ngt ns k = x := by simp [ngt, List.getD_eq_getElem?_getD, h]
theorem RB.right {ns : List T3} {last done : Int} {ps : List T3} {em : Bool} {S0 : List Int} {e0 : Int} {S : List Int} (h : RB ns last done ps em S0 e0 S) : RightS ns last done ps em := by
 obtain ⟨⟨h1, h2, h3, h4, h5, h6⟩, h7, h8, h9, h10, h11, h12, h13, h14⟩ := h
 refine ⟨⟨h1, h2, h3, h4, fun x hx => ?_, fun k x hx => ?_, fun k p hp => ?_⟩, h9, S0, e0, h10, h11, S, last, h12, rfl, h13, h14⟩
 ·rw [ngt_get hx] at h5 h6
  exact ⟨h5, h6⟩
 ·have := h7 k (List.getElem?_eq_some_iff.1 hx).1
  rw [ngt_get hx] at this
  exact this
 ·have hk := (List.getElem?_eq_some_iff.1 hp).1
  have := h8 k hk
  rw [pgt_of hp] at this
  obtain ⟨a, b, c, d, e, f⟩ := this
  refine ⟨a, b, c, fun j q hj hq => ?_, fun x hx => ?_, fun x hx => ?_⟩
  ·have := d (by omega)
   rw [show k - 1 = j by omega, pgt_of hq] at this
   exact this
  ·rw [← nxtG_of hx]; exact e
  ·rw [ngt_get hx] at f; exact f
theorem st_of {w : World} {v : Value} {q : Q} {ns ps : List T3} {last done : Int} {em : Bool} (h : StG w v ns last done ps em) (e1 : q.nodes = ns) (e2 : (q.m : Int) = last) (e3 : (q.done : Int) = done) (e4 : q.pushes = ps) (e5 : q.empty = em) : St w v q := by
 subst e1 e2 e3 e4 e5
 exact h
theorem q0_right : RightS q0.nodes q0.m q0.done q0.pushes q0.empty := RB.right (S0 := [0]) (e0 := 0) (S := [0]) (of_decide_eq_true (by kernel_rfl))
theorem a1_right : RightS a1.nodes a1.m a1.done a1.pushes a1.empty := RB.right (S0 := [0]) (e0 := 0) (S := [0, 1]) (of_decide_eq_true (by kernel_rfl))
theorem a2_right : RightS a2.nodes a2.m a2.done a2.pushes a2.empty := RB.right (S0 := [0]) (e0 := 0) (S := [0, 1, 2]) (of_decide_eq_true (by kernel_rfl))
theorem a3_right : RightS a3.nodes a3.m a3.done a3.pushes a3.empty := RB.right (S0 := [0]) (e0 := 0) (S := [0, 1, 2]) (of_decide_eq_true (by kernel_rfl))
theorem a4_right : RightS a4.nodes a4.m a4.done a4.pushes a4.empty := RB.right (S0 := [0, 1, 2]) (e0 := 2) (S := [0, 1, 2]) (of_decide_eq_true (by kernel_rfl))
theorem a5_right : RightS a5.nodes a5.m a5.done a5.pushes a5.empty := RB.right (S0 := [0, 1, 2]) (e0 := 2) (S := [0, 1, 2]) (of_decide_eq_true (by kernel_rfl))
theorem a6_right : RightS a6.nodes a6.m a6.done a6.pushes a6.empty := RB.right (S0 := [0, 1, 2]) (e0 := 2) (S := [0, 1, 2]) (of_decide_eq_true (by kernel_rfl))
set_option maxRecDepth 100000 in
set_option maxHeartbeats 8000000 in
theorem awake_g (w : World) : Calls Try.prog 8 #[] w fun e w' => e = .returned (.bool true) ∧ Below w.heap.size w w' := by
 have H1 : Hid (∀ W v, St W v q0 → Calls Try.prog 10 #[v, .int .i64 0, .int .i64 7] W fun e w' => ∃ v', e = .returned (.tuple #[v', .bool true, .int .i64 0]) ∧ St w' v' a1 ∧ Below W.heap.size W w') :=
  fun W v h => (begin_g q0_right (by decide) (by kernel_rfl) (by decide) (insert_any (posG_le _ _) (by decide) _) W h).mono fun e w' ⟨v', e1, e2, e3⟩ => ⟨v', e1, st_of e2 (of_decide_eq_true (by kernel_rfl)) (by kernel_rfl) (by kernel_rfl) (of_decide_eq_true (by kernel_rfl)) (by kernel_rfl), e3⟩
 have H2 : Hid (∀ W v, St W v a1 → Calls Try.prog 10 #[v, .int .i64 1, .int .i64 8] W fun e w' => ∃ v', e = .returned (.tuple #[v', .bool false, .int .i64 0]) ∧ St w' v' a2 ∧ Below W.heap.size W w') :=
  fun W v h => (begin_g a1_right (by decide) (by kernel_rfl) (by decide) (insert_any (posG_le _ _) (by decide) _) W h).mono fun e w' ⟨v', e1, e2, e3⟩ => ⟨v', e1, st_of e2 (of_decide_eq_true (by kernel_rfl)) (by kernel_rfl) (by kernel_rfl) (of_decide_eq_true (by kernel_rfl)) (by kernel_rfl), e3⟩
 have H3 : Hid (∀ W v, St W v a2 → Calls Try.prog 11 #[v, .int .i64 1] W fun e w' => ∃ v', e = .returned (.tuple #[v', .int .i64 0]) ∧ St w' v' a3 ∧ Below W.heap.size W w') :=
  fun W v h => (finish_g a2_right (i := 1) (bj := 1) (nd := 2) (bx := (7, 0, -1)) (by kernel_rfl) (by kernel_rfl) (by kernel_rfl) W h).mono fun e w' ⟨v', e1, e2, e3⟩ => ⟨v', e1, st_of e2 (of_decide_eq_true (by kernel_rfl)) (by kernel_rfl) (by kernel_rfl) (of_decide_eq_true (by kernel_rfl)) (by kernel_rfl), e3⟩
 have H4 : Hid (∀ W v, St W v a3 → Calls Try.prog 21 #[v] W fun e w' => ∃ v', e = .returned (.tuple #[v', .int .i64 0, .bool false, .int .i64 0]) ∧ St w' v' a3 ∧ Below W.heap.size W w') :=
  fun W v h => (popNo_g a3_right (by kernel_rfl) W h).mono fun e w' ⟨v', e1, e2, e3⟩ => ⟨v', e1, st_of e2 (of_decide_eq_true (by kernel_rfl)) (by kernel_rfl) (by kernel_rfl) (of_decide_eq_true (by kernel_rfl)) (by kernel_rfl), e3⟩
 have H5 : Hid (∀ W v, St W v a3 → Calls Try.prog 11 #[v, .int .i64 0] W fun e w' => ∃ v', e = .returned (.tuple #[v', .int .i64 0]) ∧ St w' v' a4 ∧ Below W.heap.size W w') :=
  fun W v h => (finish_g a3_right (i := 0) (bj := 0) (nd := 1) (bx := (0, -1, -1)) (by kernel_rfl) (by kernel_rfl) (by kernel_rfl) W h).mono fun e w' ⟨v', e1, e2, e3⟩ => ⟨v', e1, st_of e2 (of_decide_eq_true (by kernel_rfl)) (by kernel_rfl) (by kernel_rfl) (of_decide_eq_true (by kernel_rfl)) (by kernel_rfl), e3⟩
 have H6 : Hid (∀ W v, St W v a4 → Calls Try.prog 21 #[v] W fun e w' => ∃ v', e = .returned (.tuple #[v', .int .i64 7, .bool true, .int .i64 0]) ∧ St w' v' a5 ∧ Below W.heap.size W w') :=
  fun W v h => (popYes_g a4_right (of_decide_eq_true (by kernel_rfl)) W h).mono fun e w' ⟨v', e1, e2, e3⟩ => ⟨v', e1, st_of e2 (of_decide_eq_true (by kernel_rfl)) (by kernel_rfl) (by kernel_rfl) (of_decide_eq_true (by kernel_rfl)) (by kernel_rfl), e3⟩
 have H7 : Hid (∀ W v, St W v a5 → Calls Try.prog 21 #[v] W fun e w' => ∃ v', e = .returned (.tuple #[v', .int .i64 8, .bool true, .int .i64 0]) ∧ St w' v' a6 ∧ Below W.heap.size W w') :=
  fun W v h => (popYes_g a5_right (of_decide_eq_true (by kernel_rfl)) W h).mono fun e w' ⟨v', e1, e2, e3⟩ => ⟨v', e1, st_of e2 (of_decide_eq_true (by kernel_rfl)) (by kernel_rfl) (by kernel_rfl) (of_decide_eq_true (by kernel_rfl)) (by kernel_rfl), e3⟩
 have H8 : Hid (∀ W v, St W v a6 → Calls Try.prog 13 #[v] W fun e w' => ∃ v', e = .returned (.tuple #[v', .bool true, .int .i64 0]) ∧ St w' v' { a6 with empty := true } ∧ Below W.heap.size W w') :=
  fun W v h => (mark_g a6_right W h).mono fun e w' ⟨v', e1, e2, e3⟩ => ⟨v', e1, st_of e2 (of_decide_eq_true (by kernel_rfl)) (by kernel_rfl) (by kernel_rfl) (of_decide_eq_true (by kernel_rfl)) (by kernel_rfl), e3⟩
 go_enter Try.func8, Try.ntmps8
 go_wp2_with fail
 refine (new_at w).mono ?_
 rintro e W1 ⟨v1, rfl, ⟨ns1, ps1, rfl, t1, t2⟩, hb1⟩
 have HB1 := Lib.hid hb1; clear hb1
 have HST := Lib.hid (show St W1 (.agg #[ns1, .int .i64 q0.m, .int .i64 q0.done, ps1, .bool q0.empty]) q0 from ⟨_, _, rfl, t1, t2⟩); clear t1 t2
 go_wp2_with fail
 refine (H1.out _ _ HST.out).mono ?_
 rintro e W2 ⟨v2, rfl, ⟨ns2, ps2, rfl, t1, t2⟩, hb2⟩
 obtain ⟨pn2, cn2, e1⟩ := t1.slice
 obtain ⟨pp2, cp2, e2⟩ := t2.slice
 subst e1
 subst e2
 obtain ⟨X, W3, hX, hW3, hsb, _⟩ := SB.mk' (HB1.out.trans (hb2.mono HB1.out.size)) t1 t2
 have HS := Lib.hid hsb
 clear hb2 t1 t2 hsb HB1 HST
 go_upto_region 2 with fail
 rw [← hX, ← hW3]
 clear hX hW3
 obtain ⟨c0, c1, c2, c3, c4⟩ := HS.out.facts
 go_wp2_with fail
 refine (H2.out _ _ HS.out.st).mono ?_
 rintro e V3 ⟨v3, rfl, ⟨ns3, ps3, rfl, t1, t2⟩, hb⟩
 obtain ⟨pn3, cn3, e1⟩ := t1.slice
 obtain ⟨pp3, cp3, e2⟩ := t2.slice
 subst e1
 subst e2
 have HS1 := Lib.hid (HS.out.step hb)
 clear hb c0 c1 c2 c3 c4 HS
 obtain ⟨c0, c1, c2, c3, c4⟩ := HS1.out.facts
 obtain ⟨f0, f1, f2, f3, f4⟩ := HS1.out.frz
 obtain ⟨W4, hW⟩ : ∃ W4, W4 = (((((V3.setCell ⟨X, 0, none⟩ (.slice pn3 a2.nodes.length cn3)).setCell ⟨X, 1, none⟩ (.int .i64 a2.m)).setCell ⟨X, 2, none⟩ (.int .i64 a2.done)).setCell ⟨X, 3, none⟩ (.slice pp3 a2.pushes.length cp3)).setCell ⟨X, 4, none⟩ (.bool a2.empty)) := ⟨_, rfl⟩
 have HS := Lib.hid (HS1.out.put t1 t2 hW)
 clear t1 t2
 go_upto_region 3 with fail
 rw [← hW]
 clear hW c0 c1 c2 c3 c4 f0 f1 f2 f3 f4 HS1
 obtain ⟨c0, c1, c2, c3, c4⟩ := HS.out.facts
 go_wp2_with fail
 refine (H3.out _ _ HS.out.st).mono ?_
 rintro e V4 ⟨v4, rfl, ⟨ns4, ps4, rfl, t1, t2⟩, hb⟩
 obtain ⟨pn4, cn4, e1⟩ := t1.slice
 obtain ⟨pp4, cp4, e2⟩ := t2.slice
 subst e1
 subst e2
 have HS1 := Lib.hid (HS.out.step hb)
 clear hb c0 c1 c2 c3 c4 HS
 obtain ⟨c0, c1, c2, c3, c4⟩ := HS1.out.facts
 obtain ⟨f0, f1, f2, f3, f4⟩ := HS1.out.frz
 obtain ⟨W5, hW⟩ : ∃ W5, W5 = (((((V4.setCell ⟨X, 0, none⟩ (.slice pn4 a3.nodes.length cn4)).setCell ⟨X, 1, none⟩ (.int .i64 a3.m)).setCell ⟨X, 2, none⟩ (.int .i64 a3.done)).setCell ⟨X, 3, none⟩ (.slice pp4 a3.pushes.length cp4)).setCell ⟨X, 4, none⟩ (.bool a3.empty)) := ⟨_, rfl⟩
 have HS := Lib.hid (HS1.out.put t1 t2 hW)
 clear t1 t2
 go_upto_region 4 with fail
 rw [← hW]
 clear hW c0 c1 c2 c3 c4 f0 f1 f2 f3 f4 HS1
 obtain ⟨c0, c1, c2, c3, c4⟩ := HS.out.facts
 go_wp2_with fail
 refine (H4.out _ _ HS.out.st).mono ?_
 rintro e V5 ⟨v5, rfl, ⟨ns5, ps5, rfl, t1, t2⟩, hb⟩
 obtain ⟨pn5, cn5, e1⟩ := t1.slice
 obtain ⟨pp5, cp5, e2⟩ := t2.slice
 subst e1
 subst e2
 have HS1 := Lib.hid (HS.out.step hb)
 clear hb c0 c1 c2 c3 c4 HS
 obtain ⟨c0, c1, c2, c3, c4⟩ := HS1.out.facts
 obtain ⟨f0, f1, f2, f3, f4⟩ := HS1.out.frz
 obtain ⟨W6, hW⟩ : ∃ W6, W6 = (((((V5.setCell ⟨X, 0, none⟩ (.slice pn5 a3.nodes.length cn5)).setCell ⟨X, 1, none⟩ (.int .i64 a3.m)).setCell ⟨X, 2, none⟩ (.int .i64 a3.done)).setCell ⟨X, 3, none⟩ (.slice pp5 a3.pushes.length cp5)).setCell ⟨X, 4, none⟩ (.bool a3.empty)) := ⟨_, rfl⟩
 have HS := Lib.hid (HS1.out.put t1 t2 hW)
 clear t1 t2
 go_upto_region 5 with fail
 rw [← hW]
 clear hW c0 c1 c2 c3 c4 f0 f1 f2 f3 f4 HS1
 obtain ⟨c0, c1, c2, c3, c4⟩ := HS.out.facts
 go_wp2_with fail
 refine (H5.out _ _ HS.out.st).mono ?_
 rintro e V6 ⟨v6, rfl, ⟨ns6, ps6, rfl, t1, t2⟩, hb⟩
 obtain ⟨pn6, cn6, e1⟩ := t1.slice
 obtain ⟨pp6, cp6, e2⟩ := t2.slice
 subst e1
 subst e2
 have HS1 := Lib.hid (HS.out.step hb)
 clear hb c0 c1 c2 c3 c4 HS
 obtain ⟨c0, c1, c2, c3, c4⟩ := HS1.out.facts
 obtain ⟨f0, f1, f2, f3, f4⟩ := HS1.out.frz
 obtain ⟨W7, hW⟩ : ∃ W7, W7 = (((((V6.setCell ⟨X, 0, none⟩ (.slice pn6 a4.nodes.length cn6)).setCell ⟨X, 1, none⟩ (.int .i64 a4.m)).setCell ⟨X, 2, none⟩ (.int .i64 a4.done)).setCell ⟨X, 3, none⟩ (.slice pp6 a4.pushes.length cp6)).setCell ⟨X, 4, none⟩ (.bool a4.empty)) := ⟨_, rfl⟩
 have HS := Lib.hid (HS1.out.put t1 t2 hW)
 clear t1 t2
 go_upto_region 6 with fail
 rw [← hW]
 clear hW c0 c1 c2 c3 c4 f0 f1 f2 f3 f4 HS1
 obtain ⟨c0, c1, c2, c3, c4⟩ := HS.out.facts
 go_wp2_with fail
 refine (H6.out _ _ HS.out.st).mono ?_
 rintro e V7 ⟨v7, rfl, ⟨ns7, ps7, rfl, t1, t2⟩, hb⟩
 obtain ⟨pn7, cn7, e1⟩ := t1.slice
 obtain ⟨pp7, cp7, e2⟩ := t2.slice
 subst e1
 subst e2
 have HS1 := Lib.hid (HS.out.step hb)
 clear hb c0 c1 c2 c3 c4 HS
 obtain ⟨c0, c1, c2, c3, c4⟩ := HS1.out.facts
 obtain ⟨f0, f1, f2, f3, f4⟩ := HS1.out.frz
 obtain ⟨W8, hW⟩ : ∃ W8, W8 = (((((V7.setCell ⟨X, 0, none⟩ (.slice pn7 a5.nodes.length cn7)).setCell ⟨X, 1, none⟩ (.int .i64 a5.m)).setCell ⟨X, 2, none⟩ (.int .i64 a5.done)).setCell ⟨X, 3, none⟩ (.slice pp7 a5.pushes.length cp7)).setCell ⟨X, 4, none⟩ (.bool a5.empty)) := ⟨_, rfl⟩
 have HS := Lib.hid (HS1.out.put t1 t2 hW)
 clear t1 t2
 go_upto_region 7 with fail
 rw [← hW]
 clear hW c0 c1 c2 c3 c4 f0 f1 f2 f3 f4 HS1
 obtain ⟨c0, c1, c2, c3, c4⟩ := HS.out.facts
 go_wp2_with fail
 refine (H7.out _ _ HS.out.st).mono ?_
 rintro e V8 ⟨v8, rfl, ⟨ns8, ps8, rfl, t1, t2⟩, hb⟩
 obtain ⟨pn8, cn8, e1⟩ := t1.slice
 obtain ⟨pp8, cp8, e2⟩ := t2.slice
 subst e1
 subst e2
 have HS1 := Lib.hid (HS.out.step hb)
 clear hb c0 c1 c2 c3 c4 HS
 obtain ⟨c0, c1, c2, c3, c4⟩ := HS1.out.facts
 obtain ⟨f0, f1, f2, f3, f4⟩ := HS1.out.frz
 obtain ⟨W9, hW⟩ : ∃ W9, W9 = (((((V8.setCell ⟨X, 0, none⟩ (.slice pn8 a6.nodes.length cn8)).setCell ⟨X, 1, none⟩ (.int .i64 a6.m)).setCell ⟨X, 2, none⟩ (.int .i64 a6.done)).setCell ⟨X, 3, none⟩ (.slice pp8 a6.pushes.length cp8)).setCell ⟨X, 4, none⟩ (.bool a6.empty)) := ⟨_, rfl⟩
 have HS := Lib.hid (HS1.out.put t1 t2 hW)
 clear t1 t2
 go_upto_region 8 with fail
 rw [← hW]
 clear hW c0 c1 c2 c3 c4 f0 f1 f2 f3 f4 HS1
 obtain ⟨c0, c1, c2, c3, c4⟩ := HS.out.facts
 go_wp2_with fail
 refine (H8.out _ _ HS.out.st).mono ?_
 rintro e V ⟨v, rfl, ⟨ns, ps, rfl, t1, t2⟩, hb⟩
 obtain ⟨pn, cn, e1⟩ := t1.slice
 obtain ⟨pp, cp, e2⟩ := t2.slice
 subst e1
 subst e2
 obtain ⟨Y, W, hY, hW, hsb, _⟩ := SB.mk' (HS.out.step hb).below t1 t2
 have HF : Hid (Below w.heap.size w W) := hsb.below
 clear hb c0 c1 c2 c3 c4 HS t1 t2 hsb
 go_upto_region 9 with fail
 rw [← hY, ← hW]
 clear hY hW
 have hmx : ∀ (ts : Array TypeId) (t : TypeId) (w : World), (Builtin.max_ ts t #[.int .i64 0, .int .i64 0, .int .i64 0, .int .i64 0, .int .i64 0, .int .i64 0, .int .i64 0, .int .i64 0]).run Try.prog w = .ok (.int .i64 0) w := fun ts t w => by
  simp [Builtin.max_, Builtin.max2, Result.andThen]
 go_wp2_with fail
 go_ret
 exact ⟨rfl, HF.out⟩
end Go.Proofs.Ytgbafpjeapkklaa.Mb
namespace Go.Proofs.Ytgbafpjeapkklaa.Mb
open Go.RowKit Go.Proofs.YtgbafpjeapkklaaW.PrintWords PMailboxRuns
set_option linter.unusedVariables false
set_option linter.unusedSimpArgs false
theorem R99_tri {w : World} {base : Nat} {ok : Nat → Prop} {v : Value} {l : List (Int × Int × Int)} (h : Kd.R k99 99 w base ok v (L99 l)) : TriT w 99 v l := by
 obtain ⟨_, inner, ho, hr⟩ := h
 have e : inner = cellsT l := cells_of_reps _ n99 (fun y c hc => k99_openM hc) l inner hr
 rw [e] at ho
 exact own_triT (by simp [L99]) ho
theorem R102_tri {w : World} {base : Nat} {ok : Nat → Prop} {v : Value} {l : List (Int × Int × Int)} (h : Kd.R k102 102 w base ok v (L102 l)) : TriT w 102 v l := by
 obtain ⟨_, inner, ho, hr⟩ := h
 have e : inner = cellsT l := cells_of_reps _ n102 (fun y c hc => k102_openM hc) l inner hr
 rw [e] at ho
 exact own_triT (by simp [L102]) ho
theorem given_g {ns ps : List T3} {last done : Int} {em : Bool} (hl : ns.length ≤ 2000) (hm : ps.length ≤ 2000) {b : Value} (w : World) (hb : StRG w b ns last done ps em) :
  Calls Try.prog 19 #[b] w fun e w' => ∃ a, e = .returned a ∧ StG w' a ns last done ps em ∧ Below w.heap.size w w' := by
 obtain ⟨vn, vp, rfl, hn, hp⟩ := hb
 obtain ⟨A, c, rfl, hc, hC⟩ := tri105i hn hl
 obtain ⟨A', c', rfl, hc', hC'⟩ := tri122i hp hm
 obtain ⟨k, hk⟩ := (given_ev (l := ns) (m := ps) (x1 := last) (x2 := done) (b := em) hl hm).rounds
 refine (hackamorelaw28_given.calls k A c _ _ _ A' c' _ _ _ _ _ _ _ w hC hc hC' hc' hk).mono ?_
 rintro e w' ⟨v0, v3, rfl, h1, h2, hb⟩
 exact ⟨_, rfl, ⟨v0, v3, rfl, R99_tri h1, R102_tri h2⟩, hb⟩
theorem check_gv {ns ps : List T3} {last done : Int} {em : Bool} {c : Int} (hc1 : RightS ns last done ps em → c = 0) (hc2 : ¬ RightS ns last done ps em → c = 14) (hl1 : ns.length ≤ 2000) (hl2 : ps.length ≤ 2000) {a : Value} (w : World) (ha : StG w a ns last done ps em) :
  Calls Try.prog 18 #[a] w fun e w' => e = .returned (.int .i64 c) ∧ Below w.heap.size w w' := by
 obtain ⟨vn, vp, rfl, hn, hp⟩ := ha
 exact check_g ns ps last done em c hc1 hc2 vn vp w hn.1 hp.1 (by omega) (by omega)
theorem rcheck_gv {ns ps : List T3} {last done : Int} {em : Bool} {c : Int} (hc1 : RightS ns last done ps em → c = 0) (hc2 : ¬ RightS ns last done ps em → c = 14) (hl1 : ns.length ≤ 2000) (hl2 : ps.length ≤ 2000) {a : Value} (w : World) (ha : StRG w a ns last done ps em) :
  Calls Try.prog 20 #[a] w fun e w' => e = .returned (.int .i64 c) ∧ Below w.heap.size w w' := by
 by_cases hr : RightS ns last done ps em
 ·rw [hc1 hr]; exact rcheck_g hr w ha
 ·rw [hc2 hr]; exact rcheck_w hr hl1 hl2 w ha
structure LS (w : World) (b0 b1 b2 b3 b4 : Value) (ki p v : Int) (X : Nat) (a0 a1 a2 a3 a4 : Value) (W : World) : Prop where
 below : Below w.heap.size w W
 b : B5 W w.heap.size 46 b0 b1 b2 b3 b4
 o : W.heap[w.heap.size + 1]? = some (.cells #[.int .i8 ki, .int .i8 p, .int .i8 v] 51 (0, 0))
 a : B5 W X 28 a0 a1 a2 a3 a4
theorem LS.step {w : World} {b0 b1 b2 b3 b4 : Value} {ki p v : Int} {X : Nat} {a0 a1 a2 a3 a4 : Value} {W W' : World} (h : LS w b0 b1 b2 b3 b4 ki p v X a0 a1 a2 a3 a4 W) (hb : Below W.heap.size W W') : LS w b0 b1 b2 b3 b4 ki p v X a0 a1 a2 a3 a4 W' :=
 ⟨h.below.trans (hb.mono h.below.size), h.b.step hb, (hb.block _ (blk_lt h.o)).trans h.o, h.a.step hb⟩
set_option maxRecDepth 100000 in
set_option maxHeartbeats 16000000 in
theorem states_walk {ns ps : List T3} {last done : Int} {em : Bool} {b : Value} {ki p v : Int} (w : World) (hb : StRG w b ns last done ps em)
  (g3 : -128 ≤ p ∧ p ≤ 127) (g5 : -128 ≤ v ∧ v ≤ 127) :
  Calls Try.prog 5 #[b, .agg #[.int .i8 ki, .int .i8 p, .int .i8 v]] w fun e w' => e = .returned (.bool true) ∧ Below w.heap.size w w' := by
 have HBS := Lib.hid hb
 obtain ⟨vn, vp, rfl, hn, hp⟩ := hb
 obtain ⟨bp, bc, rfl⟩ := hn.slice
 obtain ⟨bp2, bc2, rfl⟩ := hp.slice
 clear hn hp
 have HP := Lib.hid g3
 have HV := Lib.hid g5
 clear g3 g5
 generalize hN : ns.length = N at *
 generalize hM : ps.length = M at *
 have HN := Lib.hid hN
 have HM := Lib.hid hM
 clear hN hM
 have HX0 : Hid (Below w.heap.size w ((w.alloc (Obj.cells #[.slice bp N bc, .int .i64 last, .int .i64 done, .slice bp2 M bc2, .bool em] 46)).alloc (Obj.cells #[.int .i8 ki, .int .i8 p, .int .i8 v] 51)) ∧
   B5 ((w.alloc (Obj.cells #[.slice bp N bc, .int .i64 last, .int .i64 done, .slice bp2 M bc2, .bool em] 46)).alloc (Obj.cells #[.int .i8 ki, .int .i8 p, .int .i8 v] 51)) w.heap.size 46 (.slice bp N bc) (.int .i64 last) (.int .i64 done) (.slice bp2 M bc2) (.bool em) ∧
   ((w.alloc (Obj.cells #[.slice bp N bc, .int .i64 last, .int .i64 done, .slice bp2 M bc2, .bool em] 46)).alloc (Obj.cells #[.int .i8 ki, .int .i8 p, .int .i8 v] 51)).heap[w.heap.size + 1]? = some (.cells #[.int .i8 ki, .int .i8 p, .int .i8 v] 51 (0, 0))) := by
  have m1 := B5.made (W := w) (.slice bp N bc) (.int .i64 last) (.int .i64 done) (.slice bp2 M bc2) (.bool em) 46
  have s1 : Below w.heap.size w (w.alloc (Obj.cells #[.slice bp N bc, .int .i64 last, .int .i64 done, .slice bp2 M bc2, .bool em] 46)) := (Below.refl _ _).alloc (Nat.le_refl _) _
  have z1 : (w.alloc (Obj.cells #[.slice bp N bc, .int .i64 last, .int .i64 done, .slice bp2 M bc2, .bool em] 46)).heap.size = w.heap.size + 1 := by simp
  generalize w.alloc (Obj.cells #[.slice bp N bc, .int .i64 last, .int .i64 done, .slice bp2 M bc2, .bool em] 46) = W1 at *
  have m2 := (MapKept.heap_alloc W1 (Obj.cells #[.int .i8 ki, .int .i8 p, .int .i8 v] 51)).1
  have s2 : Below W1.heap.size W1 (W1.alloc (Obj.cells #[.int .i8 ki, .int .i8 p, .int .i8 v] 51)) := (Below.refl _ _).alloc (Nat.le_refl _) _
  rw [z1] at m2
  exact ⟨s1.trans (s2.mono s1.size), m1.step s2, m2⟩
 by_cases hg : 40 < N
 ·have t1 : decide ((40 : Int) < (N : Int)) = true := decide_eq_true (by omega)
  have t1' : decide (40 < N) = true := decide_eq_true (by omega)
  go_enter Try.func5, Try.ntmps5
  go_upto_region 1 with fail
  generalize ((w.alloc (Obj.cells #[.slice bp N bc, .int .i64 last, .int .i64 done, .slice bp2 M bc2, .bool em] 46)).alloc (Obj.cells #[.int .i8 ki, .int .i8 p, .int .i8 v] 51)) = W0 at *
  obtain ⟨c0, c1, c2, c3, c4⟩ := HX0.out.2.1.cells
  go_wp2_with fail
  refine (awake_g W0).mono ?_
  rintro e w' ⟨rfl, hb⟩
  have HB := Lib.hid (HX0.out.1.trans (hb.mono HX0.out.1.size)); clear hb
  go_wp2_with fail
  go_ret
  exact ⟨rfl, HB.out⟩
 have t1 : decide ((40 : Int) < (N : Int)) = false := decide_eq_false (by omega)
 have t1' : decide (40 < N) = false := decide_eq_false (by omega)
 by_cases hg2 : 12 < M
 ·have t2 : decide ((12 : Int) < (M : Int)) = true := decide_eq_true (by omega)
  have t2' : decide (12 < M) = true := decide_eq_true (by omega)
  go_enter Try.func5, Try.ntmps5
  go_upto_region 1 with fail
  generalize ((w.alloc (Obj.cells #[.slice bp N bc, .int .i64 last, .int .i64 done, .slice bp2 M bc2, .bool em] 46)).alloc (Obj.cells #[.int .i8 ki, .int .i8 p, .int .i8 v] 51)) = W0 at *
  obtain ⟨c0, c1, c2, c3, c4⟩ := HX0.out.2.1.cells
  go_wp2_with fail
  refine (awake_g W0).mono ?_
  rintro e w' ⟨rfl, hb⟩
  have HB := Lib.hid (HX0.out.1.trans (hb.mono HX0.out.1.size)); clear hb
  go_wp2_with fail
  go_ret
  exact ⟨rfl, HB.out⟩
 have t2 : decide ((12 : Int) < (M : Int)) = false := decide_eq_false (by omega)
 have t2' : decide (12 < M) = false := decide_eq_false (by omega)
 have HGN : Hid (ns.length ≤ 1000) := by show _ ≤ _; rw [HN.out]; omega
 have HGM : Hid (ps.length ≤ 1000) := by show _ ≤ _; rw [HM.out]; omega
 clear hg hg2
 go_enter Try.func5, Try.ntmps5
 go_upto_region 1 with fail
 generalize ((w.alloc (Obj.cells #[.slice bp N bc, .int .i64 last, .int .i64 done, .slice bp2 M bc2, .bool em] 46)).alloc (Obj.cells #[.int .i8 ki, .int .i8 p, .int .i8 v] 51)) = W0 at *
 obtain ⟨c0, c1, c2, c3, c4⟩ := HX0.out.2.1.cells
 go_wp2_with fail
 have HGV := Lib.hid (given_g (by have := HGN.out; omega) (by have := HGM.out; omega) W0 (HBS.out.below HX0.out.1))
 refine HGV.out.mono ?_
 rintro e W1 ⟨a, rfl, ha, hb1⟩
 obtain ⟨ap, an, ac, am, ad, ap2, an2, ac2, ab, rfl⟩ := ha.shape
 have s2 : Below W1.heap.size W1 (W1.alloc (Obj.cells #[.slice ap an ac, .int .i64 am, .int .i64 ad, .slice ap2 an2 ac2, .bool ab] 28)) := (Below.refl _ _).alloc (Nat.le_refl _) _
 have m2 := B5.made (W := W1) (.slice ap an ac) (.int .i64 am) (.int .i64 ad) (.slice ap2 an2 ac2) (.bool ab) 28
 obtain ⟨X, hX⟩ : ∃ X, X = W1.heap.size := ⟨_, rfl⟩
 obtain ⟨W2, hW2⟩ : ∃ W2, W2 = W1.alloc (Obj.cells #[.slice ap an ac, .int .i64 am, .int .i64 ad, .slice ap2 an2 ac2, .bool ab] 28) := ⟨_, rfl⟩
 rw [← hW2] at s2 m2
 rw [← hX] at m2
 have hb02 := hb1.trans (s2.mono hb1.size)
 have HL2 : Hid (LS w (.slice bp N bc) (.int .i64 last) (.int .i64 done) (.slice bp2 M bc2) (.bool em) ki p v X (.slice ap an ac) (.int .i64 am) (.int .i64 ad) (.slice ap2 an2 ac2) (.bool ab) W2) :=
  ⟨HX0.out.1.trans (hb02.mono HX0.out.1.size), HX0.out.2.1.step hb02, (hb02.block _ (blk_lt HX0.out.2.2)).trans HX0.out.2.2, m2⟩
 have HA2 := Lib.hid (ha.below s2)
 have HXL : Hid (w.heap.size ≤ X ∧ w.heap.size ≠ X) := by
  show _ ∧ _
  have h1 := blk_lt HX0.out.2.1
  have h2 := hb1.size
  omega
 clear c0 c1 c2 c3 c4 ha hb1 s2 m2 hb02 t1 t1' t2 t2'
 go_upto_region 4 with fail
 rw [← hW2, ← hX]
 clear hW2 hX
 obtain ⟨c, hc1, hc2⟩ : ∃ c : Int, (RightS ns last done ps em → c = 0) ∧ (¬ RightS ns last done ps em → c = 14) := by
  by_cases hr : RightS ns last done ps em
  ·exact ⟨0, fun _ => rfl, fun h => absurd hr h⟩
  ·exact ⟨14, fun h => absurd h hr, fun _ => rfl⟩
 have HCK : Hid (∀ W, Below W2.heap.size W2 W → Calls Try.prog 18 #[.agg #[.slice ap an ac, .int .i64 am, .int .i64 ad, .slice ap2 an2 ac2, .bool ab]] W fun e w' => e = .returned (.int .i64 c) ∧ Below W.heap.size W w') :=
  fun W h => check_gv hc1 hc2 (by have := HGN.out; omega) (by have := HGM.out; omega) W (HA2.out.below h)
 have HRK : Hid (∀ W, Below W2.heap.size W2 W → Calls Try.prog 20 #[.agg #[.slice bp N bc, .int .i64 last, .int .i64 done, .slice bp2 M bc2, .bool em]] W fun e w' => e = .returned (.int .i64 c) ∧ Below W.heap.size W w') :=
  fun W h => rcheck_gv hc1 hc2 (by have := HGN.out; omega) (by have := HGM.out; omega) W (HBS.out.below (HL2.out.below.trans (h.mono HL2.out.below.size)))
 clear hc1 hc2
 obtain ⟨a0, a1, a2, a3, a4⟩ := HL2.out.a.cells
 obtain ⟨b0, b1, b2, b3, b4⟩ := HL2.out.b.cells
 clear a0 a1 a2 a3 a4 b0 b1 b2 b3 b4
 have HD2 : Hid (Below W2.heap.size W2 W2.drew) := (Below.refl _ _).drew
 go_region_held3 (fun W => W.cell? ⟨X, 0, none⟩ = some (.slice ap an ac) ∧ W.cell? ⟨X, 1, none⟩ = some (.int .i64 am) ∧ W.cell? ⟨X, 2, none⟩ = some (.int .i64 ad) ∧ W.cell? ⟨X, 3, none⟩ = some (.slice ap2 an2 ac2) ∧ W.cell? ⟨X, 4, none⟩ = some (.bool ab) ∧ W.cell? ⟨w.heap.size, 0, none⟩ = some (.slice bp N bc) ∧ W.cell? ⟨w.heap.size, 1, none⟩ = some (.int .i64 last) ∧ W.cell? ⟨w.heap.size, 2, none⟩ = some (.int .i64 done) ∧ W.cell? ⟨w.heap.size, 3, none⟩ = some (.slice bp2 M bc2) ∧ W.cell? ⟨w.heap.size, 4, none⟩ = some (.bool em))
  (first | with_reducible exact Both.facts2 HL2.out.a HL2.out.b | with_reducible exact Both.facts2 (HL2.out.step HD2.out).a (HL2.out.step HD2.out).b | with_reducible exact Both.facts2 HL3.out.a HL3.out.b | with_reducible exact Both.facts2 HL4.out.a HL4.out.b | (trace_state; fail))
  (first
   | (go_at_call 18; first | (refine (HCK.out _ HD2.out).mono ?_; rintro en W3 ⟨rfl, hb⟩; have hbb := HD2.out.trans (hb.mono HD2.out.size); have HL3 := Lib.hid (HL2.out.step hbb); have HB3 := Lib.hid hbb; clear hb hbb) | (refine (HCK.out _ HB3.out).mono ?_; rintro en W4 ⟨rfl, hb⟩; have HL4 := Lib.hid (HL3.out.step hb); have HB4 := Lib.hid (HB3.out.trans (hb.mono HB3.out.size)); clear hb))
   | (go_at_call 20; first | (refine (HRK.out _ HD2.out).mono ?_; rintro en W3 ⟨rfl, hb⟩; have hbb := HD2.out.trans (hb.mono HD2.out.size); have HL3 := Lib.hid (HL2.out.step hbb); have HB3 := Lib.hid hbb; clear hb hbb) | (refine (HRK.out _ HB3.out).mono ?_; rintro en W4 ⟨rfl, hb⟩; have HL4 := Lib.hid (HL3.out.step hb); have HB4 := Lib.hid (HB3.out.trans (hb.mono HB3.out.size)); clear hb)))
 have HCKs : True := trivial
 clear HCK HRK HD2 HL3 HB3 HGV
 go_upto_region 7 with fail
 go_loopw [28] (fun s28 wr => ∃ k : Nat, k ≤ 6 ∧ s28 = .int .i8 k ∧ LS w (.slice bp N bc) (.int .i64 last) (.int .i64 done) (.slice bp2 M bc2) (.bool em) ki p v X (.slice ap an ac) (.int .i64 am) (.int .i64 ad) (.slice ap2 an2 ac2) (.bool ab) wr ∧ Below W2.heap.size W2 wr) (fun s28 _ => 6 - (intOf s28).toNat)
 case atStart => exact ⟨0, by omega, rfl, HL4.out, HB4.out⟩
 case round =>
  clear HL4 HB4
  obtain ⟨k, hk, rfl, hl, hbw⟩ := hrel
  have HL := Lib.hid hl
  have HW := Lib.hid hbw
  clear hl hbw
  obtain ⟨a0, a1, a2, a3, a4⟩ := HL.out.a.cells
  obtain ⟨b0, b1, b2, b3, b4⟩ := HL.out.b.cells
  have o0 : wr.cell? ⟨w.heap.size + 1, 0, none⟩ = some (.int .i8 ki) := cB HL.out.o 0
  have o1 : wr.cell? ⟨w.heap.size + 1, 1, none⟩ = some (.int .i8 p) := cB HL.out.o 1
  have o2 : wr.cell? ⟨w.heap.size + 1, 2, none⟩ = some (.int .i8 v) := cB HL.out.o 2
  by_cases hlt : k < 6
  ·have tl : decide ((k : Int) < 6) = true := decide_eq_true (by omega)
   have tl' : decide (k < 6) = true := decide_eq_true hlt
   go_wp2_with fail
   refine (step_g HGN.out HGM.out (HA2.out.below HW.out) (HBS.out.below HL.out.below) (by omega) (by omega) HP.out.1 HP.out.2 HV.out.1 HV.out.2).mono ?_
   rintro en W5 ⟨xa, xb, rfl, hxa, hxb, hb5⟩
   obtain ⟨up, un, uc, um, ud, up2, un2, uc2, ub, rfl⟩ := hxa
   obtain ⟨tp, tn, tc, tm, td, tp2, tn2, tc2, tb, rfl⟩ := hxb
   have HL5 := Lib.hid (HL.out.step hb5)
   have HW5 := Lib.hid (HW.out.trans (hb5.mono HW.out.size))
   clear hb5 a0 a1 a2 a3 a4 b0 b1 b2 b3 b4 o0 o1 o2
   go_upto_region 10 with fail
   have s6 : Below W5.heap.size W5 ((W5.alloc (Obj.cells #[.slice up un uc, .int .i64 um, .int .i64 ud, .slice up2 un2 uc2, .bool ub] 28)).alloc (Obj.cells #[.slice tp tn tc, .int .i64 tm, .int .i64 td, .slice tp2 tn2 tc2, .bool tb] 46)) := ((Below.refl _ _).alloc (Nat.le_refl _) _).alloc (by simp) _
   obtain ⟨W6, hW6⟩ : ∃ W6, W6 = ((W5.alloc (Obj.cells #[.slice up un uc, .int .i64 um, .int .i64 ud, .slice up2 un2 uc2, .bool ub] 28)).alloc (Obj.cells #[.slice tp tn tc, .int .i64 tm, .int .i64 td, .slice tp2 tn2 tc2, .bool tb] 46)) := ⟨_, rfl⟩
   rw [← hW6] at s6 ⊢
   clear hW6
   have HL6 := Lib.hid (HL5.out.step s6)
   have HW6 := Lib.hid (HW5.out.trans (s6.mono HW5.out.size))
   clear s6
   obtain ⟨a0, a1, a2, a3, a4⟩ := HL6.out.a.cells
   obtain ⟨b0, b1, b2, b3, b4⟩ := HL6.out.b.cells
   go_wp2_with fail
   refine (alike_g (by have := HGN.out; omega) (by have := HGM.out; omega) (HA2.out.below HW6.out) (HBS.out.below HL6.out.below)).mono ?_
   rintro en W7 ⟨rfl, hb7⟩
   have HL7 := Lib.hid (HL6.out.step hb7)
   have HW7 := Lib.hid (HW6.out.trans (hb7.mono HW6.out.size))
   clear hb7 a0 a1 a2 a3 a4 b0 b1 b2 b3 b4
   have ew : IntKind.i8.wrap ((k : Int) + 1) = ((k + 1 : Nat) : Int) := by
    have : k < 6 := hlt
    rcases (by omega : k = 0 ∨ k = 1 ∨ k = 2 ∨ k = 3 ∨ k = 4 ∨ k = 5) with rfl | rfl | rfl | rfl | rfl | rfl <;> rfl
   have HLT := Lib.hid hlt
   clear hlt tl tl'
   go_wp2_with fail
   go_roundw
   case rel => exact ⟨k + 1, by have := HLT.out; omega, by simp, HL7.out, HW7.out⟩
   case measure =>
    show 6 - ((k : Int) + 1).toNat < 6 - ((k : Int)).toNat
    have := HLT.out
    omega
  ·have tl : decide ((k : Int) < 6) = false := decide_eq_false (by omega)
   have tl' : decide (k < 6) = false := decide_eq_false hlt
   clear a0 a1 a2 a3 a4 b0 b1 b2 b3 b4 o0 o1 o2
   go_wp2_with fail
   refine (awake_g wr).mono ?_
   rintro e w' ⟨rfl, hb⟩
   have HB := Lib.hid (HL.out.below.trans (hb.mono HL.out.below.size)); clear hb
   go_wp2_with fail
   go_ret
   exact ⟨rfl, HB.out⟩
theorem law_states (v0 v1 : Value) (w : World) {ns ps : List T3} {last done : Int} {em : Bool} {ki p v : Int} (h0 : StRG w v0 ns last done ps em) (h1 : v1 = .agg #[.int .i8 ki, .int .i8 p, .int .i8 v]) (g3 : -128 ≤ p ∧ p ≤ 127) (g5 : -128 ≤ v ∧ v ≤ 127) :
  Calls Try.prog 5 #[v0, v1] w fun e w' => e = .returned (.bool true) ∧ Below w.heap.size w w' := by
 subst h1
 exact states_walk w h0 g3 g5
end Go.Proofs.Ytgbafpjeapkklaa.Mb
