/- Mailbox: Batch. -/
import Derived.Test.YtgbafpjeapkklaaMi
namespace Go.Proofs.Ytgbafpjeapkklaa.Mb
open Go.RowKit
set_option linter.unusedVariables false
set_option linter.unusedSimpArgs false

def Q.can (q : Q) (d : Nat) : Bool := decide (d < q.m) && !q.isOpen (d + 1)
/-- How many of so many pops take something. -/
def Q.pops (q : Q) : Nat → Nat → Nat
  | 0, _ => 0
  | n + 1, d => if q.can d then q.pops n (d + 1) + 1 else 0
def Q.val (q : Q) (i : Nat) : Int := (q.vals.getD i (0, 0)).1
def Q.took (q : Q) (d k : Nat) : List Int := (List.range k).map fun i => q.val (d + i)
def ints (l : List Int) : List Value := l.map (Value.int .i64)
theorem took_snoc (q : Q) (d k : Nat) : q.took d k ++ [q.val (d + k)] = q.took d (k + 1) := by simp [Q.took, List.range_succ]
theorem node_nxt (q : Q) (d : Nat) : (q.node d).2.2 = if q.can d then (d : Int) + 1 else -1 := by
  have e : (q.node d).2.2 = q.nxt d := by unfold Q.node; split <;> simp_all
  rw [e]
  unfold Q.nxt Q.can
  by_cases h : d < q.m
  · cases ho : q.isOpen (d + 1) <;> simp [h]
  · simp [h]
theorem node_val (q : Q) (d : Nat) : (q.node (d + 1)).1 = q.val d := by simp [Q.node, Q.val]

abbrev COq (w : World) (ns ps : Value) (m d : Int) (b : Bool) (g B : Nat) (ns' ps' : Value) (q : Q) (d' : Nat) (W : World) : Prop := CO w ns ps m d b g B ns' ps' q.nodes q.pushes q.m d' q.empty W

theorem own_some {W : World} {B : Nat} {e : TypeId} {v : Value} {n : Nat} {l : List (Int × Int × Int)} (hn : n = l.length) (h : W.ownsRow B e 3 v n (cellsT l)) (h0 : 0 < n) : ∃ gn cap, v = .slice (some ⟨gn, 0, none⟩) n cap ∧ B ≤ gn ∧ n ≤ cap ∧
    (∃ cur, W.heap[gn]? = some (.cells cur e (0, 0))) ∧ ∀ k x, l[k]? = some x → W.cell? ⟨gn, k * 3, none⟩ = some (.int .i64 x.1) ∧ W.cell? ⟨gn, k * 3 + 1, none⟩ = some (.int .i64 x.2.1) ∧ W.cell? ⟨gn, k * 3 + 2, none⟩ = some (.int .i64 x.2.2) := by
  have hc := fun g hg => h.cells (g := g) hg
  rcases h.2 with ⟨rfl, h1⟩ | ⟨g, cap, cur, rfl, hb, hg, hcap, _⟩
  · omega
  · refine ⟨g, cap, rfl, hb, hcap, ⟨cur, hg⟩, fun k x hx => ?_⟩
    obtain ⟨a, b, c⟩ := cellsT_get l k x hx
    have h1 := hc g rfl _ _ a
    have h2 := hc g rfl _ _ b
    have h3 := hc g rfl _ _ c
    rw [Addr.add_lit] at h1 h2 h3
    simp only [Nat.zero_add] at h1 h2 h3
    exact ⟨h1, h2, h3⟩

theorem pop_no' {w : World} {ns ps : Value} {m d : Int} {b : Bool} {g B : Nat} {ns' ps' : Value} {q : Q} {d' : Nat} {W : World} (h : COq w ns ps m d b g B ns' ps' q d' W) (hd : d' ≤ q.m) (hc : q.can d' = false) :
    Calls Try.prog 43 #[.pointer (some ⟨g, 0, none⟩)] W fun e w' => e = .returned (.tuple #[.int .i64 0, .bool false]) ∧ COq w ns ps m d b g B ns' ps' q d' w' ∧ Below W.heap.size W w' := by
  obtain ⟨gn, cap, rfl, h1, h2, _, h3⟩ := own_some rfl h.r1 (by rw [nodes_len]; omega)
  obtain ⟨_, _, z⟩ := h3 d' _ (nodes_get hd)
  rw [node_nxt, hc, if_neg (by simp)] at z
  refine (pop_no (off := 0) W h.box (by rw [nodes_len]; omega) (by rw [Nat.zero_add]; exact z)).mono ?_
  rintro e w' ⟨h4, h5⟩
  exact ⟨h4, CO.step h h5, h5⟩
theorem pop_yes' {w : World} {ns ps : Value} {m d : Int} {b : Bool} {g B : Nat} {ns' ps' : Value} {q : Q} {d' : Nat} {W : World} (h : COq w ns ps m d b g B ns' ps' q d' W) (hd : d' ≤ q.m) (hc : q.can d' = true) :
    Calls Try.prog 43 #[.pointer (some ⟨g, 0, none⟩)] W fun e w' => e = .returned (.tuple #[.int .i64 (q.val d'), .bool true]) ∧ COq w ns ps m d b g B ns' ps' q (d' + 1) w' ∧ W.heap.size ≤ w'.heap.size ∧ ∀ k, k < W.heap.size → k ≠ g → w'.heap[k]? = W.heap[k]? := by
  have hlt : d' < q.m := by unfold Q.can at hc; simp at hc; exact hc.1
  have hr1 := h.r1
  obtain ⟨gn, cap, rfl, h1, h2, ⟨cur, hcur⟩, h3⟩ := own_some rfl h.r1 (by rw [nodes_len]; omega)
  obtain ⟨_, _, z⟩ := h3 d' _ (nodes_get hd)
  obtain ⟨y, _, _⟩ := h3 (d' + 1) _ (nodes_get hlt)
  rw [node_nxt, hc, if_pos rfl] at z
  rw [node_val] at y
  have hne : gn ≠ g := by
    rintro rfl
    rw [h.box] at hcur; injection hcur with hcur; injection hcur with _ e _; cases e
  refine (pop_yes (off := 0) (k := d' + 1) (v := q.val d') W h.box hne (by rw [nodes_len]; omega) (by rw [nodes_len]; omega) (by rw [Nat.zero_add]; exact z) (by rw [Nat.zero_add]; exact y)).mono ?_
  rintro e w' ⟨h4, W1, h5, rfl⟩
  refine ⟨h4, ?_, ?_, ?_⟩
  · have := (CO.step h h5).set2 ((d' + 1 : Nat) : Int)
    exact this
  · simp [World.setCell]; exact h5.size
  · intro k hk hkg
    rw [Below.heap_setCell _ _ _ _ hkg]
    exact h5.block k hk
theorem info3 : (Try.prog.info? 3).map (fun i => (i.zero, i.size, i.bytes)) = some (some (.int .i64 0), 1, 8) := by kernel_rfl
theorem ints_one (l : List Int) : ∀ u ∈ ints l, u.oneCell' = true := by
  intro u hu
  simp only [ints, List.mem_map] at hu
  obtain ⟨x, _, rfl⟩ := hu
  rfl
/-- A row of numbers that is appended to leaves an operation's memory. -/
theorem CO.grown {w : World} {ns ps : Value} {m d : Int} {b : Bool} {g B : Nat} {ns' ps' : Value} {l1 l2 : List (Int × Int × Int)} {m' d' : Int} {b' : Bool} {W W' : World} (h : CO w ns ps m d b g B ns' ps' l1 l2 m' d' b' W) {v : Value} {n B' : Nat} {xs : List Value}
    (hv : W.ownsRow B' 3 1 v n xs) (hB : w.heap.size ≤ B') (hg : W.grownBy W' v.ownBlock) : CO w ns ps m d b g B ns' ps' l1 l2 m' d' b' W' := by
  have hne : ∀ (k : Nat) (C : Array Value) (t : TypeId) (f : Nat × Nat), W.heap[k]? = some (.cells C t f) → t ≠ 3 → some k ≠ v.ownBlock := by
    intro k C t f hk ht e
    rcases hv.2 with ⟨rfl, _⟩ | ⟨g', cap, cur, rfl, _, hgg, _⟩
    · simp [Value.ownBlock] at e
    · simp [Value.ownBlock] at e
      subst e
      rw [hk] at hgg
      injection hgg with hgg
      injection hgg with _ h2 _
      exact ht h2
  have hk : ∀ (k : Nat) (C : Array Value) (t : TypeId) (f : Nat × Nat), W.heap[k]? = some (.cells C t f) → t ≠ 3 → W'.heap[k]? = some (.cells C t f) := fun k C t f h1 h2 => (hg.block k (blk_lt h1) (hne k C t f h1 h2)).trans h1
  have hr : ∀ {e : TypeId} {v' : Value} {n' : Nat} {ys : List Value}, e ≠ 3 → W.ownsRow B e 3 v' n' ys → W'.ownsRow B e 3 v' n' ys := by
    intro e v' n' ys he h'
    refine ⟨h'.1, ?_⟩
    rcases h'.2 with h0 | ⟨g', cap, cur, h1, h2, h3, h4⟩
    · exact .inl h0
    · exact .inr ⟨g', cap, cur, h1, h2, hk _ _ _ _ h3 he, h4⟩
  refine ⟨⟨?_, hk _ _ _ _ h.cb.2.1 (by decide), hk _ _ _ _ h.cb.2.2 (by decide)⟩, hk _ _ _ _ h.box (by decide), h.low, h.lowg, hr (by decide) h.r1, hr (by decide) h.r2⟩
  exact h.cb.1.grown hg h.cb.1.size (fun k hk => by have := hv.lt k hk; omega)

theorem own1_slice {w : World} {base : Nat} {e : TypeId} {s : Nat} {v : Value} {n : Nat} {xs : List Value} (h : w.ownsRow base e s v n xs) : ∃ p cap, v = .slice p n cap := by
  rcases h.2 with ⟨rfl, rfl⟩ | ⟨g, cap, cur, rfl, _⟩
  · exact ⟨none, 0, rfl⟩
  · exact ⟨_, cap, rfl⟩
theorem own1_kept {W W' : World} {B g : Nat} {e t : TypeId} {s : Nat} {v : Value} {n : Nat} {xs : List Value} {C : Array Value} {f : Nat × Nat} (h : W.ownsRow B e s v n xs) (hg : W.heap[g]? = some (.cells C t f)) (ht : e ≠ t) (hk : ∀ k, k < W.heap.size → k ≠ g → W'.heap[k]? = W.heap[k]?) : W'.ownsRow B e s v n xs := by
  refine ⟨h.1, ?_⟩
  rcases h.2 with h0 | ⟨g', cap, cur, h1, h2, h3, h4⟩
  · exact .inl h0
  · refine .inr ⟨g', cap, cur, h1, h2, (hk g' (blk_lt h3) ?_).trans h3, h4⟩
    rintro rfl
    rw [hg] at h3
    injection h3 with h3
    injection h3 with _ h5 _
    exact ht h5.symm
theorem own1_below {w w' : World} {base : Nat} {e : TypeId} {s : Nat} {v : Value} {n : Nat} {xs : List Value} (h : w.ownsRow base e s v n xs) (hb : Below w.heap.size w w') : w'.ownsRow base e s v n xs := by
  refine ⟨h.1, ?_⟩
  rcases h.2 with h0 | ⟨g, cap, cur, h1, h2, h3, h4⟩
  · exact .inl h0
  · exact .inr ⟨g, cap, cur, h1, h2, (hb.block g (blk_lt h3)).trans h3, h4⟩
theorem pops_zero {q : Q} {n d : Nat} (h : q.can d = false) : q.pops n d = 0 := by
  cases n with
  | zero => rfl
  | succ n => simp [Q.pops, h]

/-- The length of a slice value. -/
def lenOf : Value → Nat
  | .slice _ n _ => n
  | _ => 0
theorem own5 {W : World} {B g : Nat} {e t : TypeId} {s : Nat} {v : Value} {n : Nat} {xs : List Value} {C : Array Value} (h : W.ownsRow B e s v n xs) (hg : W.heap[g]? = some (.cells C t (0, 0))) (ht : e ≠ t) (v0 v1 v2 v3 v4 : Value) :
    (((((W.setCell ⟨g, 0, none⟩ v0).setCell ⟨g, 1, none⟩ v1).setCell ⟨g, 2, none⟩ v2).setCell ⟨g, 3, none⟩ v3).setCell ⟨g, 4, none⟩ v4).ownsRow B e s v n xs := by
  refine own1_kept h hg ht fun k hk hkg => ?_
  rw [Below.heap_setCell _ _ _ _ hkg, Below.heap_setCell _ _ _ _ hkg, Below.heap_setCell _ _ _ _ hkg, Below.heap_setCell _ _ _ _ hkg, Below.heap_setCell _ _ _ _ hkg]

set_option maxRecDepth 100000 in
set_option maxHeartbeats 4000000 in
theorem batch_at {q : Q} (hq : WF q) {v : Value} (most : Nat) (w : World) (hv : St w v q) :
    Calls Try.prog 12 #[v, .int .i64 most] w fun e w' => ∃ v' u, e = .returned (.tuple #[v', u, .int .i64 0]) ∧ St w' v' { q with done := q.done + q.pops most q.done } ∧
      w'.ownsRow w.heap.size 3 1 u (q.pops most q.done) (ints (q.took q.done (q.pops most q.done))) ∧ Below w.heap.size w w' := by
  obtain ⟨ns, ps, rfl, hn, hp⟩ := hv
  have hfew := hq.few
  have hfo := hq.fewo
  have HCK : Hid (∀ W, Below w.heap.size w W → Calls Try.prog 18 #[.agg #[ns, .int .i64 q.m, .int .i64 q.done, ps, .bool q.empty]] W fun e w' => e = .returned (.int .i64 0) ∧ Below W.heap.size W w') := fun W h => check_at hq ns ps W (hn.below h).1 (hp.below h).1
  have HCL : Hid (∀ W, Below w.heap.size w W → Calls Try.prog 40 #[.agg #[ns, .int .i64 q.m, .int .i64 q.done, ps, .bool q.empty]] W fun e w' => ∃ ns' ps', e = .returned (.agg #[ns', .int .i64 q.m, .int .i64 q.done, ps', .bool q.empty]) ∧
      w'.ownsRow W.heap.size 99 3 ns' q.nodes.length (cellsT q.nodes) ∧ w'.ownsRow W.heap.size 102 3 ps' q.pushes.length (cellsT q.pushes) ∧ Below W.heap.size W w') :=
    fun W h => clone_at (hn.below h).1 (hp.below h).1 (by rw [nodes_len]; omega) (by rw [pushes_len]; omega) _ _ _
  have HB0 : Hid (CB w ns ps q.m q.done q.empty ((w.alloc (Obj.cells #[ns, .int .i64 q.m, .int .i64 q.done, ps, .bool q.empty] 28)).alloc (Obj.cells #[.slice none 0 0, .int .i64 0, .int .i64 0, .slice none 0 0, .bool false] 28))) := CB.mk w ns ps q.m q.done q.empty
  obtain ⟨pn, cn, hA⟩ := hn.slice
  obtain ⟨pp, cp, hB⟩ := hp.slice
  subst hA
  subst hB
  clear hn hp
  obtain ⟨i0, hi, hz0, hz1, hz2⟩ := info_parts info3
  have HI := Lib.hid hi; clear hi
  have HZ0 := Lib.hid hz0; clear hz0
  have HZ1 := Lib.hid hz1; clear hz1
  have HZ2 := Lib.hid hz2; clear hz2
  have HQ := Lib.hid hq
  have HQD := Lib.hid hq.done
  have tm : decide ((most : Int) < 0) = false := decide_eq_false (by omega)
  clear hfo hq
  generalize hM : q.m = M at *
  generalize hD : q.done = D at *
  go_enter Try.func12, Try.ntmps12
  go_upto_region 1 with fail
  generalize ((w.alloc (Obj.cells #[.slice pn q.nodes.length cn, .int .i64 M, .int .i64 D, .slice pp q.pushes.length cp, .bool q.empty] 28)).alloc (Obj.cells #[.slice none 0 0, .int .i64 0, .int .i64 0, .slice none 0 0, .bool false] 28)) = W0 at *
  obtain ⟨c0, c1, c2, c3, c4⟩ := HB0.out.facts
  go_wp2_with fail
  refine (HCK.out _ HB0.out.1).mono ?_
  rintro e W1 ⟨rfl, hb1⟩
  have HB1 := Lib.hid (HB0.out.step hb1)
  clear hb1 c0 c1 c2 c3 c4
  obtain ⟨c0, c1, c2, c3, c4⟩ := HB1.out.facts
  go_wp2_with fail
  refine (HCL.out _ HB1.out.1).mono ?_
  rintro e W2 ⟨ns', ps', rfl, r1, r2, hb2⟩
  obtain ⟨pn', cn', hA⟩ := own_slice r1
  obtain ⟨pp', cp', hB⟩ := own_slice r2
  subst hA
  subst hB
  have HB2 := Lib.hid (HB1.out.step hb2)
  obtain ⟨g, W3, hg, hW3, hC3⟩ := CO.made M D q.empty HB2.out HB1.out.size hb2.size r1 r2
  have HC3 : Hid (COq w (.slice pn q.nodes.length cn) (.slice pp q.pushes.length cp) M D q.empty g W1.heap.size (.slice pn' q.nodes.length cn') (.slice pp' q.pushes.length cp') q D W3) := by unfold COq; rw [hM]; exact hC3
  clear hb2 r1 r2 c0 c1 c2 c3 c4 hC3
  go_upto_region 7 with fail
  rw [← hg, ← hW3]
  clear hg hW3
  have HMQ := Lib.hid hM
  have HU0 : Hid (W3.ownsRow w.heap.size 3 1 (.slice none 0 0) 0 (ints (q.took D 0))) := World.ownsRow_nil _ _ _ _
  go_loopw [5] (fun s5 wr => ∃ k : Nat, k ≤ most ∧ D + k ≤ M ∧ q.pops most D = k + q.pops (most - k) (D + k) ∧ COq w (.slice pn q.nodes.length cn) (.slice pp q.pushes.length cp) M D q.empty g W1.heap.size (.slice pn' q.nodes.length cn') (.slice pp' q.pushes.length cp') q (D + k) wr ∧
    (∃ pu cu, s5 = .slice pu k cu ∧ wr.ownsRow w.heap.size 3 1 (.slice pu k cu) k (ints (q.took D k)))) (fun s5 _ => most - (lenOf s5))
  case atStart => exact ⟨0, by omega, by have := HQD.out; omega, by simp, HC3.out, none, 0, rfl, HU0.out⟩
  case round =>
    obtain ⟨k, hk, hkM, hpk, hco, pu, cu, rfl, hu⟩ := hrel
    obtain ⟨E, hE⟩ : ∃ E, E = D + k := ⟨_, rfl⟩
    rw [← hE] at hco hpk hkM
    have HE := Lib.hid hE; clear hE
    have HCO := Lib.hid hco; clear hco
    have HU := Lib.hid hu; clear hu
    have HPKS := Lib.hid hpk; clear hpk
    by_cases hlt : k < most
    · have tl : decide ((k : Int) < (most : Int)) = true := decide_eq_true (by omega)
      cases hcan : q.can E with
      | false =>
        have HPK : Hid (q.pops most D = k) := by have h1 := HPKS.out; rw [pops_zero hcan] at h1; exact h1
        go_wp2_with fail
        refine (pop_no' HCO.out (by rw [HMQ.out]; exact hkM) hcan).mono ?_
        rintro e WX ⟨rfl, hco, hbx⟩
        have HCX := Lib.hid hco; clear hco
        have HUX : Hid (WX.ownsRow w.heap.size 3 1 (.slice pu k cu) k (ints (q.took D k))) := own1_below HU.out hbx
        clear hbx
        obtain ⟨y0, y1, y2, y3, y4, z0, z1, z2, z3, z4⟩ := HCX.out.facts
        rw [HMQ.out] at y1
        have f0 := (HCX.out.frozen 0).2
        have f1 := (HCX.out.frozen 1).2
        have f2 := (HCX.out.frozen 2).2
        have f3 := (HCX.out.frozen 3).2
        have f4 := (HCX.out.frozen 4).2
        go_wp2_with fail
        obtain ⟨W5, hW5⟩ : ∃ W5, W5 = (((((WX.setCell ⟨w.heap.size + 1, 0, none⟩ (.slice pn' q.nodes.length cn')).setCell ⟨w.heap.size + 1, 1, none⟩ (.int .i64 M)).setCell ⟨w.heap.size + 1, 2, none⟩ (.int .i64 (E : Int))).setCell ⟨w.heap.size + 1, 3, none⟩ (.slice pp' q.pushes.length cp')).setCell ⟨w.heap.size + 1, 4, none⟩ (.bool q.empty)) := ⟨_, rfl⟩
        rw [← hW5]
        have HOX := Lib.hid (own5 HUX.out HCX.out.cb.2.2 (by decide) (.slice pn' q.nodes.length cn') (.int .i64 M) (.int .i64 (E : Int)) (.slice pp' q.pushes.length cp') (.bool q.empty))
        rw [← hW5] at HOX
        have hW5' := hW5
        rw [← HMQ.out] at hW5'
        obtain ⟨k1, k2, k3, k4⟩ := HCX.out.out hW5'
        rw [HMQ.out] at k2
        have K1 := Lib.hid k1
        have K3 := Lib.hid k3
        have K4 := Lib.hid k4
        clear y0 y1 y2 y3 y4 z0 z1 z2 z3 z4 f0 f1 f2 f3 f4 k1 k3 k4 hW5 hW5'
        have c0 : W5.cell? ⟨w.heap.size + 1, 0, none⟩ = some (.slice pn' q.nodes.length cn') := cell_blk k2 0
        have c1 : W5.cell? ⟨w.heap.size + 1, 1, none⟩ = some (.int .i64 M) := cell_blk k2 1
        have c2 : W5.cell? ⟨w.heap.size + 1, 2, none⟩ = some (.int .i64 (E : Int)) := cell_blk k2 2
        have c3 : W5.cell? ⟨w.heap.size + 1, 3, none⟩ = some (.slice pp' q.pushes.length cp') := cell_blk k2 3
        have c4 : W5.cell? ⟨w.heap.size + 1, 4, none⟩ = some (.bool q.empty) := cell_blk k2 4
        refine bodyPost_ret (v := .tuple #[.agg #[.slice pn' q.nodes.length cn', .int .i64 M, .int .i64 (E : Int), .slice pp' q.pushes.length cp', .bool q.empty], .slice pu k cu, .int .i64 0]) (by simp [results, Try.results12, go_sem, c0, c1, c2, c3, c4]) rfl ⟨_, .slice pu k cu, rfl, ⟨_, _, by rw [HPK.out, ← HE.out]; subst hM; rfl, ?_, ?_⟩, ?_, ?_⟩
        · exact K3.out
        · exact K4.out
        · rw [HPK.out]; exact HOX.out
        · exact K1.out

      | true =>
        go_wp2_with fail
        refine (pop_yes' HCO.out (by rw [HMQ.out]; exact hkM) hcan).mono ?_
        rintro e W6 ⟨rfl, hco, hs6, hk6⟩
        have HC6 := Lib.hid hco; clear hco
        have HU6 := Lib.hid (own1_kept HU.out HCO.out.box (by decide) hk6); clear hs6 hk6
        obtain ⟨x, hx⟩ : ∃ x, x = q.val E := ⟨_, rfl⟩
        rw [← hx]
        have HX := Lib.hid hx; clear hx
        have ha : Below W6.heap.size W6 (W6.alloc (Obj.cells #[.int .i64 x] 3)) := (Below.refl _ _).alloc (Nat.le_refl _) _
        have hnew := (MapKept.heap_alloc W6 (Obj.cells #[.int .i64 x] 3)).1
        have HC7 := Lib.hid (CO.step HC6.out ha)
        have HU7 := Lib.hid (HU6.out.alloc (Obj.cells #[.int .i64 x] 3))
        have HSRC : Hid (∀ j u, [Value.int .i64 x][j]? = some u → (W6.alloc (Obj.cells #[.int .i64 x] 3)).cell? ((⟨W6.heap.size, 0, none⟩ : Addr).add j) = some u) := by
          intro j u hj
          cases j with
          | zero => simp at hj; subst hj; exact cell_blk hnew 0
          | succ j => simp at hj
        clear ha hnew
        go_wp2_with (at_builtin; refine wpList_append_own _ rfl _ _ 30 rfl w.heap.size 3 i0 (.int .i64 0) 1 8 Try.underlying30 HI.out HZ0.out HZ1.out HZ2.out rfl (by decide) _ _ _ rfl HU7.out ⟨W6.heap.size, 0, none⟩ 1 1 [.int .i64 x] rfl rfl ?c1 ?c2 ?c3 ?c4 ?c5 ?_)
        case c1 => exact HSRC.out
        case c2 => exact ints_one [x]
        case c3 => have := HE.out; unfold maxLen; omega
        case c4 => have := HE.out; omega
        case c5 => have := HC7.out.cb.size; omega
        intro v8 W8 hown8 hgr8 _
        obtain ⟨pu8, cu8, e8⟩ := own1_slice hown8
        subst e8
        have HU8 := Lib.hid hown8; clear hown8
        have HC8 := Lib.hid (CO.grown HC7.out HU7.out (Nat.le_refl _) hgr8)
        clear hgr8
        go_wp2_with fail
        go_roundw
        case rel =>
          refine ⟨k + 1, by omega, ?_, ?_, ?_, pu8, cu8, rfl, ?_⟩
          · have h1 : q.can E = true := hcan
            unfold Q.can at h1
            rw [HMQ.out] at h1
            simp at h1
            have := HE.out
            omega
          · have h1 := HPKS.out
            obtain ⟨j, hj⟩ : ∃ j, most - k = j + 1 := ⟨most - k - 1, by omega⟩
            rw [hj] at h1
            rw [show most - (k + 1) = j by omega, h1, show D + (k + 1) = E + 1 by have := HE.out; omega]
            simp [Q.pops, hcan]
            omega
          · have := HC8.out
            rw [show D + (k + 1) = E + 1 by have := HE.out; omega]
            exact this
          · have := HU8.out
            rw [← took_snoc, ← HE.out]
            rw [HX.out] at this
            simpa [ints] using this
        case measure => simp [lenOf]; omega
    · have HPK : Hid (q.pops most D = k) := by
        have h1 := HPKS.out
        rw [show most - k = 0 by omega] at h1
        exact h1
      have tl : decide ((k : Int) < (most : Int)) = false := decide_eq_false (by omega)
      have HCX := HCO
      have HUX := HU
      generalize hwx : wr = WX at *
      clear hwx
      obtain ⟨y0, y1, y2, y3, y4, z0, z1, z2, z3, z4⟩ := HCX.out.facts
      rw [HMQ.out] at y1
      have f0 := (HCX.out.frozen 0).2
      have f1 := (HCX.out.frozen 1).2
      have f2 := (HCX.out.frozen 2).2
      have f3 := (HCX.out.frozen 3).2
      have f4 := (HCX.out.frozen 4).2
      go_wp2_with fail
      obtain ⟨W5, hW5⟩ : ∃ W5, W5 = (((((WX.setCell ⟨w.heap.size + 1, 0, none⟩ (.slice pn' q.nodes.length cn')).setCell ⟨w.heap.size + 1, 1, none⟩ (.int .i64 M)).setCell ⟨w.heap.size + 1, 2, none⟩ (.int .i64 (E : Int))).setCell ⟨w.heap.size + 1, 3, none⟩ (.slice pp' q.pushes.length cp')).setCell ⟨w.heap.size + 1, 4, none⟩ (.bool q.empty)) := ⟨_, rfl⟩
      rw [← hW5]
      have HOX := Lib.hid (own5 HUX.out HCX.out.cb.2.2 (by decide) (.slice pn' q.nodes.length cn') (.int .i64 M) (.int .i64 (E : Int)) (.slice pp' q.pushes.length cp') (.bool q.empty))
      rw [← hW5] at HOX
      have hW5' := hW5
      rw [← HMQ.out] at hW5'
      obtain ⟨k1, k2, k3, k4⟩ := HCX.out.out hW5'
      rw [HMQ.out] at k2
      have K1 := Lib.hid k1
      have K3 := Lib.hid k3
      have K4 := Lib.hid k4
      clear y0 y1 y2 y3 y4 z0 z1 z2 z3 z4 f0 f1 f2 f3 f4 k1 k3 k4 hW5 hW5'
      have c0 : W5.cell? ⟨w.heap.size + 1, 0, none⟩ = some (.slice pn' q.nodes.length cn') := cell_blk k2 0
      have c1 : W5.cell? ⟨w.heap.size + 1, 1, none⟩ = some (.int .i64 M) := cell_blk k2 1
      have c2 : W5.cell? ⟨w.heap.size + 1, 2, none⟩ = some (.int .i64 (E : Int)) := cell_blk k2 2
      have c3 : W5.cell? ⟨w.heap.size + 1, 3, none⟩ = some (.slice pp' q.pushes.length cp') := cell_blk k2 3
      have c4 : W5.cell? ⟨w.heap.size + 1, 4, none⟩ = some (.bool q.empty) := cell_blk k2 4
      refine bodyPost_ret (v := .tuple #[.agg #[.slice pn' q.nodes.length cn', .int .i64 M, .int .i64 (E : Int), .slice pp' q.pushes.length cp', .bool q.empty], .slice pu k cu, .int .i64 0]) (by simp [results, Try.results12, go_sem, c0, c1, c2, c3, c4]) rfl ⟨_, .slice pu k cu, rfl, ⟨_, _, by rw [HPK.out, ← HE.out]; subst hM; rfl, ?_, ?_⟩, ?_, ?_⟩
      · exact K3.out
      · exact K4.out
      · rw [HPK.out]; exact HOX.out
      · exact K1.out

end Go.Proofs.Ytgbafpjeapkklaa.Mb
