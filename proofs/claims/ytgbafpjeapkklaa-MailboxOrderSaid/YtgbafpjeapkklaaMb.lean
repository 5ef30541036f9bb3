/- Mailbox: formed. -/
import Derived.Test.YtgbafpjeapkklaaMa
import Derived.Deep.RegionHeld3
import Derived.Deep.Cut
import Derived.Deep.CutRange
namespace Go.Proofs.Ytgbafpjeapkklaa.Mb
open Go.RowKit
set_option linter.unusedVariables false
set_option linter.unusedSimpArgs false

theorem toArr (g off n cap : Nat) (w : World) : (Instr.arrayAt 134 (.slice (some ⟨g, off, none⟩) (n + 1) cap)).run Try.prog w = .ok (.pointer (some ⟨g, off, none⟩)) w := by
  have h : Try.prog.underlying 134 = some (.array 1 99) := by kernel_rfl
  simp [Instr.arrayAt, go_sem, h]

/-- A state in a box. -/
structure Bx (w : World) (q : Q) (ns ps : Value) (g : Nat) (W : World) : Prop where
  below : Below w.heap.size w W
  box : W.heap[g]? = some (.cells #[ns, .int .i64 q.m, .int .i64 q.done, ps, .bool q.empty] 28 (0, 0))
theorem Bx.step {w : World} {q : Q} {ns ps : Value} {g : Nat} {W W' : World} (h : Bx w q ns ps g W) (hb : Below W.heap.size W W') : Bx w q ns ps g W' :=
  ⟨h.below.trans (hb.mono h.below.size), (hb.block g (blk_lt h.box)).trans h.box⟩
theorem Bx.facts {w : World} {q : Q} {ns ps : Value} {g : Nat} {W : World} (h : Bx w q ns ps g W) :
    W.cell? ⟨g, 0, none⟩ = some ns ∧ W.cell? ⟨g, 1, none⟩ = some (.int .i64 q.m) ∧ W.cell? ⟨g, 2, none⟩ = some (.int .i64 q.done) ∧ W.cell? ⟨g, 3, none⟩ = some ps ∧ W.cell? ⟨g, 4, none⟩ = some (.bool q.empty) :=
  ⟨cell_blk h.box 0, cell_blk h.box 1, cell_blk h.box 2, cell_blk h.box 3, cell_blk h.box 4⟩

theorem node_ok {q : Q} {j : Nat} : (q.node j).2.2 = -1 ∨ (0 ≤ (q.node j).2.2 ∧ (q.node j).2.2 < q.m + 1) := by
  unfold Q.node
  split
  · simp only [Q.nxt]; split <;> omega
  · simp only [Q.nxt]; split <;> omega
theorem node_prod {q : Q} (hq : WF q) {j : Nat} (h : j ≤ q.m) (h0 : 0 < j) : 0 ≤ (q.node j).2.1 := by
  unfold Q.node
  rw [if_neg (by omega)]
  have hlt : j - 1 < q.vals.length := by have : q.m = q.vals.length := rfl; omega
  have e : q.vals.getD (j - 1) (0, 0) = q.vals[j - 1] := by simp [List.getD, hlt]
  rw [e]
  exact hq.prod _ (List.getElem_mem _)

set_option maxRecDepth 100000 in
set_option maxHeartbeats 4000000 in
theorem formed_at {q : Q} (hq : WF q) (ns ps : Value) (w : World) (hn : Tri w ns q.nodes) (hp : Tri w ps q.pushes) :
    Calls Try.prog 53 #[.agg #[ns, .int .i64 q.m, .int .i64 q.done, ps, .bool q.empty]] w fun e w' => e = .returned (.bool true) ∧ Below w.heap.size w w' := by
  obtain ⟨A, cap, rfl, hcap, hn⟩ := hn
  obtain ⟨B, cap2, rfl, hcap2, hp⟩ := hp
  rw [nodes_len] at hcap ⊢
  rw [pushes_len] at hcap2 ⊢
  obtain ⟨g, off, rfl, hg, hc⟩ : ∃ g off, A = some ⟨g, off, none⟩ ∧ g < w.heap.size ∧
    ∀ (k : Nat) (x : Int × Int × Int), q.nodes[k]? = some x → w.cell? ⟨g, off + k * 3, none⟩ = some (.int .i64 x.1) ∧ w.cell? ⟨g, off + k * 3 + 1, none⟩ = some (.int .i64 x.2.1) ∧ w.cell? ⟨g, off + k * 3 + 2, none⟩ = some (.int .i64 x.2.2) := by
    rcases hn with h | h
    · have := nodes_len q; rw [h] at this; simp at this
    · exact h
  have hf := hq.few
  have hfo := hq.fewo
  have hd := hq.done
  have HC := Lib.hid hc; clear hc hn
  have HP := Lib.hid hp; clear hp
  have HQ := Lib.hid hq; clear hq
  obtain ⟨z0, z1, z2⟩ := HC.out 0 _ (nodes_get (Nat.zero_le _))
  have HF : Hid (∀ W, Bx w q (.slice (some ⟨g, off, none⟩) (q.m + 1) cap) (.slice B q.opn.length cap2) w.heap.size W → W.cell? ⟨w.heap.size, 0, none⟩ = some (.slice (some ⟨g, off, none⟩) (q.m + 1) cap) ∧ W.cell? ⟨w.heap.size, 1, none⟩ = some (.int .i64 q.m) ∧ W.cell? ⟨w.heap.size, 2, none⟩ = some (.int .i64 q.done) ∧ W.cell? ⟨w.heap.size, 3, none⟩ = some (.slice B q.opn.length cap2) ∧ W.cell? ⟨w.heap.size, 4, none⟩ = some (.bool q.empty)) := fun W h => h.facts
  have HIS : Hid (∀ (n : Int) (W : World), 0 ≤ n → n < ((q.m + 1 : Nat) : Int) → Calls Try.prog 66 #[.agg #[.slice (some ⟨g, off, none⟩) (q.m + 1) cap, .int .i64 q.m, .int .i64 q.done, .slice B q.opn.length cap2, .bool q.empty], .int .i64 n] W fun e w' => e = .returned (.bool true) ∧ Below W.heap.size W w') :=
    fun n W h1 h2 => is_at _ _ _ _ _ _ _ _ _ n h1 h2 W
  have HS0 : Hid (Bx w q (.slice (some ⟨g, off, none⟩) (q.m + 1) cap) (.slice B q.opn.length cap2) w.heap.size (w.alloc (Obj.cells #[.slice (some ⟨g, off, none⟩) (q.m + 1) cap, .int .i64 q.m, .int .i64 q.done, .slice B q.opn.length cap2, .bool q.empty] 28))) :=
    ⟨(Below.refl _ _).alloc (Nat.le_refl _) _, (MapKept.heap_alloc _ _).1⟩
  generalize hM : q.m = M at *
  have HM := Lib.hid hM; clear hM
  generalize hP : q.opn.length = PN at *
  have HPN := Lib.hid hP; clear hP
  go_enter Try.func53, Try.ntmps53
  go_upto_region 1 with fail
  generalize (w.alloc (Obj.cells #[.slice (some ⟨g, off, none⟩) (M + 1) cap, .int .i64 M, .int .i64 q.done, .slice B PN cap2, .bool q.empty] 28)) = W0 at *
  obtain ⟨c0, c1, c2, c3, c4⟩ := HF.out _ HS0.out
  have t1 : decide ((M : Int) + 1 < 1) = false := decide_eq_false (by omega)
  have t2 : decide ((2000 : Int) < (M : Int) + 1) = false := decide_eq_false (by omega)
  go_wp2_with fail
  refine (HIS.out _ _ (by omega) (by omega)).mono ?_
  rintro e W1 ⟨rfl, hb1⟩
  have HS1 := Lib.hid (HS0.out.step hb1)
  clear hb1 c0 c1 c2 c3 c4
  obtain ⟨c0, c1, c2, c3, c4⟩ := HF.out _ HS1.out
  go_wp2_with fail
  refine (HIS.out _ _ (by omega) (by omega)).mono ?_
  rintro e W2 ⟨rfl, hb2⟩
  have HS2 := Lib.hid (HS1.out.step hb2)
  clear hb2 c0 c1 c2 c3 c4
  obtain ⟨c0, c1, c2, c3, c4⟩ := HF.out _ HS2.out
  have y0 : W2.cell? ⟨g, off, none⟩ = some (.int .i64 0) := by
    have := (HS2.out.below.cell (p := ⟨g, off + 0 * 3, none⟩) hg).trans z0
    simpa [Q.node] using this
  have y1 : W2.cell? ⟨g, off + 1, none⟩ = some (.int .i64 (-1)) := by
    have := (HS2.out.below.cell (p := ⟨g, off + 0 * 3 + 1, none⟩) hg).trans z1
    simpa [Q.node] using this
  have y2 : W2.cell? ⟨g, off + 2, none⟩ = some (.int .i64 (q.node 0).2.2) := by
    have := (HS2.out.below.cell (p := ⟨g, off + 0 * 3 + 2, none⟩) hg).trans z2
    simpa using this
  clear z0 z1 z2
  generalize (q.node 0).2.2 = nx0 at *
  have harr := toArr g off M cap W2
  go_upto_region 4 with fail
  obtain ⟨X, hX⟩ : ∃ X, X = W2.heap.size := ⟨_, rfl⟩
  obtain ⟨W3, hW3⟩ : ∃ W3, W3 = W2.alloc (Obj.cells #[.int .i64 0, .int .i64 (-1), .int .i64 nx0] 134) := ⟨_, rfl⟩
  rw [← hW3, ← hX]
  have hb3 : Below W2.heap.size W2 W3 := by rw [hW3]; exact (Below.refl _ _).alloc (Nat.le_refl _) _
  have hx3 : W3.heap[X]? = some (.cells #[.int .i64 0, .int .i64 (-1), .int .i64 nx0] 134 (0, 0)) := by rw [hW3, hX]; exact (MapKept.heap_alloc _ _).1
  have x0 : W3.cell? ⟨X, 0, none⟩ = some (.int .i64 0) := cell_blk hx3 0
  have x1 : W3.cell? ⟨X, 1, none⟩ = some (.int .i64 (-1)) := cell_blk hx3 1
  have HS3 := Lib.hid (HS2.out.step hb3)
  clear hb3 hx3 hW3 hX y0 y1 y2 c0 c1 c2 c3 c4
  obtain ⟨c0, c1, c2, c3, c4⟩ := HF.out _ HS3.out
  go_wp2_with fail
  clear x0 x1 c0 c1 c2 c3 c4
  go_loopw [49] (fun s49 wr => ∃ k : Nat, k ≤ M + 1 ∧ s49 = .int .i64 k ∧ Bx w q (.slice (some ⟨g, off, none⟩) (M + 1) cap) (.slice B PN cap2) w.heap.size wr) (fun s49 _ => M + 1 - (intOf s49).toNat)
  case atStart => exact ⟨0, by omega, rfl, HS3.out⟩
  case round =>
    obtain ⟨k, hk, rfl, hS⟩ := hrel
    have HS := Lib.hid hS; clear hS
    obtain ⟨c0, c1, c2, c3, c4⟩ := HF.out _ HS.out
    by_cases hlt : k < M + 1
    · have tl : decide ((k : Int) < (M : Int) + 1) = true := decide_eq_true (by omega)
      have hkq : k ≤ q.m := by rw [HM.out]; omega
      obtain ⟨z0, z1, z2⟩ := HC.out k _ (nodes_get hkq)
      have d0 : wr.cell? ⟨g, off + k * 3, none⟩ = some (.int .i64 (q.node k).1) := (HS.out.below.cell (p := ⟨g, off + k * 3, none⟩) hg).trans z0
      have d1 : wr.cell? ⟨g, off + k * 3 + 1, none⟩ = some (.int .i64 (q.node k).2.1) := (HS.out.below.cell (p := ⟨g, off + k * 3 + 1, none⟩) hg).trans z1
      have d2 : wr.cell? ⟨g, off + k * 3 + 2, none⟩ = some (.int .i64 (q.node k).2.2) := (HS.out.below.cell (p := ⟨g, off + k * 3 + 2, none⟩) hg).trans z2
      have hok := node_ok (q := q) (j := k)
      have hpr := fun h0 => node_prod HQ.out hkq h0
      rw [HM.out] at hok
      generalize (q.node k).1 = n1 at *
      generalize (q.node k).2.1 = n2 at *
      generalize (q.node k).2.2 = n3 at *
      clear z0 z1 z2 hkq
      go_upto_region 9 with fail
      obtain ⟨X, hX⟩ : ∃ X, X = wr.heap.size := ⟨_, rfl⟩
      obtain ⟨W5, hW5⟩ : ∃ W5, W5 = wr.alloc (Obj.cells #[.int .i64 n1, .int .i64 n2, .int .i64 n3] 99) := ⟨_, rfl⟩
      rw [← hW5, ← hX]
      have hb5 : Below wr.heap.size wr W5 := by rw [hW5]; exact (Below.refl _ _).alloc (Nat.le_refl _) _
      have hx5 : W5.heap[X]? = some (.cells #[.int .i64 n1, .int .i64 n2, .int .i64 n3] 99 (0, 0)) := by rw [hW5, hX]; exact (MapKept.heap_alloc _ _).1
      have HX5 := Lib.hid hx5
      have HS5 := Lib.hid (HS.out.step hb5)
      have x1 : W5.cell? ⟨X, 1, none⟩ = some (.int .i64 n2) := cell_blk hx5 1
      have x2 : W5.cell? ⟨X, 2, none⟩ = some (.int .i64 n3) := cell_blk hx5 2
      clear hb5 hx5 hW5 hX d0 d1 d2 c0 c1 c2 c3 c4
      obtain ⟨c0, c1, c2, c3, c4⟩ := HF.out _ HS5.out
      by_cases h3 : n3 = -1
      · subst h3
        by_cases h0 : k = 0
        · subst h0
          go_wp2_with fail
          go_roundw
          case rel => exact ⟨1, by omega, by go_num, HS5.out⟩
          case measure => simp [intOf]
        · have tk : decide ((0 : Int) < (k : Int)) = true := decide_eq_true (by omega)
          have tp : decide (n2 < 0) = false := decide_eq_false (by have := hpr (by omega); omega)
          go_wp2_with fail
          go_roundw
          case rel => exact ⟨k + 1, by omega, by go_num, HS5.out⟩
          case measure => simp [intOf]; omega
      · have te : (n3 == (-1 : Int)) = false := by simpa using h3
        have hn3 : 0 ≤ n3 ∧ n3 < ((M + 1 : Nat) : Int) := by omega
        go_wp2_with fail
        refine (HIS.out _ _ hn3.1 hn3.2).mono ?_
        rintro e W6 ⟨rfl, hb6⟩
        have HS6 := Lib.hid (HS5.out.step hb6)
        have x1' : W6.cell? ⟨X, 1, none⟩ = some (.int .i64 n2) := by rw [World.cell?_of_block (w := W5) (hb6.block X (blk_lt HX5.out))]; exact x1
        clear hb6 c0 c1 c2 c3 c4 x1 x2
        by_cases h0 : k = 0
        · subst h0
          go_wp2_with fail
          go_roundw
          case rel => exact ⟨1, by omega, by go_num, HS6.out⟩
          case measure => simp [intOf]
        · have tk : decide ((0 : Int) < (k : Int)) = true := decide_eq_true (by omega)
          have tp : decide (n2 < 0) = false := decide_eq_false (by have := hpr (by omega); omega)
          go_wp2_with fail
          go_roundw
          case rel => exact ⟨k + 1, by omega, by go_num, HS6.out⟩
          case measure => simp [intOf]; omega
    · have tl : decide ((k : Int) < (M : Int) + 1) = false := decide_eq_false (by omega)
      clear hlt hk
      go_wp2_with fail
      clear c0 c1 c2 c3 c4 tl
      go_loopw [77] (fun s77 wr => ∃ k : Nat, k ≤ PN ∧ s77 = .int .i64 k ∧ Bx w q (.slice (some ⟨g, off, none⟩) (M + 1) cap) (.slice B PN cap2) w.heap.size wr) (fun s77 _ => PN - (intOf s77).toNat)
      case atStart => exact ⟨0, by omega, rfl, HS.out⟩
      case round =>
        obtain ⟨k, hk, rfl, hS⟩ := hrel
        clear HS
        have HS := Lib.hid hS; clear hS
        obtain ⟨c0, c1, c2, c3, c4⟩ := HF.out _ HS.out
        by_cases hlt : k < PN
        · have tl : decide ((k : Int) < (PN : Int)) = true := decide_eq_true (by omega)
          obtain ⟨o, ho⟩ : ∃ o, q.opn[k]? = some o := ⟨q.opn[k]'(by rw [HPN.out]; exact hlt), by simp⟩
          obtain ⟨r1, r2, r3, r4⟩ := HQ.out.opn o (List.mem_of_getElem? ho)
          obtain ⟨gp, offp, rfl, hgp, hcp⟩ : ∃ g off, B = some ⟨g, off, none⟩ ∧ g < w.heap.size ∧
              ∀ (k : Nat) (x : Int × Int × Int), q.pushes[k]? = some x → w.cell? ⟨g, off + k * 3, none⟩ = some (.int .i64 x.1) ∧ w.cell? ⟨g, off + k * 3 + 1, none⟩ = some (.int .i64 x.2.1) ∧ w.cell? ⟨g, off + k * 3 + 2, none⟩ = some (.int .i64 x.2.2) := by
            rcases HP.out with h | h
            · have := pushes_len q; rw [h, HPN.out] at this; simp at this; omega
            · exact h
          have hop := isOpen_of (List.mem_of_getElem? ho)
          obtain ⟨z0, z1, z2⟩ := hcp k _ (pushes_get ho)
          obtain ⟨op, oj⟩ := o
          simp only at r1 r2 r3 r4 z0 z1 z2 hop
          obtain ⟨j, rfl⟩ : ∃ j, oj = j + 1 := ⟨oj - 1, by omega⟩
          have hjm : j + 1 ≤ q.m := r2
          rw [HM.out] at r2
          rw [show ((j + 1 : Nat) : Int) - 1 = (j : Int) by omega] at z1
          have d0 : wr.cell? ⟨gp, offp + k * 3, none⟩ = some (.int .i64 op) := (HS.out.below.cell (p := ⟨gp, offp + k * 3, none⟩) hgp).trans z0
          have d1 : wr.cell? ⟨gp, offp + k * 3 + 1, none⟩ = some (.int .i64 (j : Int)) := (HS.out.below.cell (p := ⟨gp, offp + k * 3 + 1, none⟩) hgp).trans z1
          have d2 : wr.cell? ⟨gp, offp + k * 3 + 2, none⟩ = some (.int .i64 ((j : Int) + 1)) := (HS.out.below.cell (p := ⟨gp, offp + k * 3 + 2, none⟩) hgp).trans z2
          have en : (q.node j).2.2 = -1 := by
            have : q.nxt j = -1 := by unfold Q.nxt; rw [hop]; simp
            unfold Q.node; split
            · rename_i h; subst h; exact this
            · exact this
          have ep : (q.node (j + 1)).2.1 = op := by
            unfold Q.node
            rw [if_neg (by omega)]
            exact r3
          obtain ⟨_, _, u2⟩ := HC.out j _ (nodes_get (by omega))
          obtain ⟨_, v1, _⟩ := HC.out (j + 1) _ (nodes_get hjm)
          rw [en] at u2
          rw [ep] at v1
          have HU : Hid (w.cell? ⟨g, off + j * 3 + 2, none⟩ = some (.int .i64 (-1)) ∧ w.cell? ⟨g, off + (j + 1) * 3 + 1, none⟩ = some (.int .i64 op)) := ⟨u2, v1⟩
          have HPV : Hid (∀ k', k = k' + 1 → ∃ pp, w.cell? ⟨gp, offp + k' * 3, none⟩ = some (.int .i64 pp) ∧ pp < op) := by
            intro k' hk'
            subst hk'
            obtain ⟨pv, hpv⟩ : ∃ pv, q.opn[k']? = some pv := ⟨q.opn[k']'(by rw [HPN.out]; omega), by simp⟩
            refine ⟨pv.1, (hcp k' _ (pushes_get hpv)).1, ?_⟩
            obtain ⟨x1, x2⟩ := List.getElem?_eq_some_iff.1 hpv
            obtain ⟨y1, y2⟩ := List.getElem?_eq_some_iff.1 ho
            have := List.pairwise_iff_getElem.1 HQ.out.sorted k' (k' + 1) x1 y1 (by omega)
            rw [x2, y2] at this
            exact this
          clear ho hop z0 z1 z2 r1 r3 hjm en ep u2 v1 hcp
          go_upto_region 15 with fail
          obtain ⟨X, hX⟩ : ∃ X, X = wr.heap.size := ⟨_, rfl⟩
          obtain ⟨W5, hW5⟩ : ∃ W5, W5 = wr.alloc (Obj.cells #[.int .i64 op, .int .i64 j, .int .i64 ((j : Int) + 1)] 102) := ⟨_, rfl⟩
          rw [← hW5, ← hX]
          have hb5 : Below wr.heap.size wr W5 := by rw [hW5]; exact (Below.refl _ _).alloc (Nat.le_refl _) _
          have hx5 : W5.heap[X]? = some (.cells #[.int .i64 op, .int .i64 j, .int .i64 ((j : Int) + 1)] 102 (0, 0)) := by rw [hW5, hX]; exact (MapKept.heap_alloc _ _).1
          obtain ⟨P, hP⟩ : ∃ P : World → Prop, P = fun W => Bx w q (.slice (some ⟨g, off, none⟩) (M + 1) cap) (.slice (some ⟨gp, offp, none⟩) PN cap2) w.heap.size W ∧ W.heap[X]? = some (.cells #[.int .i64 op, .int .i64 j, .int .i64 ((j : Int) + 1)] 102 (0, 0)) := ⟨_, rfl⟩
          have HST : Hid (∀ W W', P W → Below W.heap.size W W' → P W') := by
            intro W W' h hb
            rw [hP] at h ⊢
            exact ⟨h.1.step hb, (hb.block _ (blk_lt h.2)).trans h.2⟩
          have HP5 : Hid (P W5) := by
            show P W5
            rw [hP]
            exact ⟨HS.out.step hb5, hx5⟩
          have HPD : Hid (P W5.drew) := HST.out _ _ HP5.out (Below.refl _ _).drew
          have HBX : Hid (∀ W, P W → Bx w q (.slice (some ⟨g, off, none⟩) (M + 1) cap) (.slice (some ⟨gp, offp, none⟩) PN cap2) w.heap.size W) := by
            intro W h
            rw [hP] at h
            exact h.1
          have HSF : Hid (∀ W, P W → W.cell? ⟨X, 0, none⟩ = some (.int .i64 op) ∧ W.cell? ⟨X, 1, none⟩ = some (.int .i64 j) ∧ W.cell? ⟨X, 2, none⟩ = some (.int .i64 ((j : Int) + 1)) ∧ W.cell? ⟨w.heap.size, 0, none⟩ = some (.slice (some ⟨g, off, none⟩) (M + 1) cap) ∧ W.cell? ⟨w.heap.size, 1, none⟩ = some (.int .i64 M) ∧ W.cell? ⟨w.heap.size, 2, none⟩ = some (.int .i64 q.done) ∧ W.cell? ⟨w.heap.size, 3, none⟩ = some (.slice (some ⟨gp, offp, none⟩) PN cap2) ∧ W.cell? ⟨w.heap.size, 4, none⟩ = some (.bool q.empty)) := by
            intro W h
            rw [hP] at h
            obtain ⟨a0, a1, a2, a3, a4⟩ := HF.out _ h.1
            exact ⟨cell_blk h.2 0, cell_blk h.2 1, cell_blk h.2 2, a0, a1, a2, a3, a4⟩
          have HI2 : Hid (∀ (n : Int) (W : World), 0 ≤ n → n < ((M + 1 : Nat) : Int) → P W → Calls Try.prog 66 #[.agg #[.slice (some ⟨g, off, none⟩) (M + 1) cap, .int .i64 M, .int .i64 q.done, .slice (some ⟨gp, offp, none⟩) PN cap2, .bool q.empty], .int .i64 n] W fun e w' => e = .returned (.bool true) ∧ P w') :=
            fun n W h1 h2 h => (HIS.out n W h1 h2).mono fun _ _ k => ⟨k.1, HST.out _ _ h k.2⟩
          have tp : decide (op < 0) = false := decide_eq_false (by omega)
          have HK0 := Lib.hid (HSF.out _ HPD.out)
          obtain ⟨x0, x1, x2, c0', c1', c2', c3', c4'⟩ := HSF.out _ HP5.out
          clear hP hb5 hx5 hW5 hX d0 d1 d2 c0 c1 c2 c3 c4
          obtain ⟨kk, hkk⟩ : ∃ kk : Int, kk = (k : Int) := ⟨_, rfl⟩
          rw [← hkk]
          have HKK := Lib.hid hkk
          by_cases h0 : k = 0
          · have tk : decide ((0 : Int) < kk) = false := decide_eq_false (by omega)
            clear h0 hkk tl
            refine wp_region_noPanic ?_
            refine wp_region_held_drew (S := fun W => W.cell? ⟨X, 0, none⟩ = some (.int .i64 op) ∧ W.cell? ⟨X, 1, none⟩ = some (.int .i64 j) ∧ W.cell? ⟨X, 2, none⟩ = some (.int .i64 ((j : Int) + 1)) ∧ W.cell? ⟨w.heap.size, 0, none⟩ = some (.slice (some ⟨g, off, none⟩) (M + 1) cap) ∧ W.cell? ⟨w.heap.size, 1, none⟩ = some (.int .i64 M) ∧ W.cell? ⟨w.heap.size, 2, none⟩ = some (.int .i64 q.done) ∧ W.cell? ⟨w.heap.size, 3, none⟩ = some (.slice (some ⟨gp, offp, none⟩) PN cap2) ∧ W.cell? ⟨w.heap.size, 4, none⟩ = some (.bool q.empty) ∧ P W) (by kernel_rfl) ?_ (fun hHeld => ?_)
            · (refine ⟨?_, ?_, ?_, ?_, ?_, ?_, ?_, ?_, ?_⟩ <;> first | assumption | exact HPD.out | exact HK0.out.1 | exact HK0.out.2.1 | exact HK0.out.2.2.1 | exact HK0.out.2.2.2.1 | exact HK0.out.2.2.2.2.1 | exact HK0.out.2.2.2.2.2.1 | exact HK0.out.2.2.2.2.2.2.1 | exact HK0.out.2.2.2.2.2.2.2)
            refine wpAnyH_take (i := 0) (v := ?_) rfl (by kernel_rfl) (by kernel_rfl) (by kernel_rfl) (fun _ _ _ h => h) (Or.inl ⟨by kernel_rfl, ?_⟩) (by assumption) ?_
            rotate_left
            · (intro w hSw; (try dsimp only at hSw); go_simp; first | done | with_reducible rfl)
            try simp only [Act.put, List.setIfInBounds_toArray, List.set_cons_zero, List.set_cons_succ]
            refine wpAnyH_take (i := 1) (v := ?_) rfl (by kernel_rfl) (by kernel_rfl) (by kernel_rfl) (fun _ _ _ h => h) (Or.inl ⟨by kernel_rfl, ?_⟩) (by assumption) ?_
            rotate_left
            · (intro w hSw; (try dsimp only at hSw); go_simp; first | done | with_reducible rfl)
            try simp only [Act.put, List.setIfInBounds_toArray, List.set_cons_zero, List.set_cons_succ]
            refine wpAnyH_take (i := 2) (v := ?_) rfl (by kernel_rfl) (by kernel_rfl) (by kernel_rfl) (fun _ _ _ h => h) (Or.inl ⟨by kernel_rfl, ?_⟩) (by assumption) ?_
            rotate_left
            · (intro w hSw; (try dsimp only at hSw); go_simp; first | done | with_reducible rfl)
            try simp only [Act.put, List.setIfInBounds_toArray, List.set_cons_zero, List.set_cons_succ]
            refine wpAnyH_ready (rs := [3]) (by kernel_rfl) (by simp) ?_
            refine AllReadyH.cons rfl (fun K hK => ?_) AllReadyH.nil
            go_simp
            go_at_call 66; refine (HI2.out _ _ (by omega) (by omega) HPD.out).mono ?_; rintro e WY ⟨rfl, h5⟩; obtain ⟨_, _, _, _, _, _, _, _⟩ := HSF.out _ h5
            go_wp2_with fail
            refine hK.out _ _ ?_ (fun hHeld => ?_)
            · (refine ⟨?_, ?_, ?_, ?_, ?_, ?_, ?_, ?_, ?_⟩ <;> assumption)
            clear hK K
            try simp only [Act.put, List.setIfInBounds_toArray, List.set_cons_zero, List.set_cons_succ]
            refine wpAnyH_take (i := 4) (v := .bool false) rfl (by kernel_rfl) (by kernel_rfl) (by kernel_rfl) (fun _ _ _ h => h) (Or.inl ⟨by kernel_rfl, ?_⟩) (by assumption) ?_
            · (intro w hSw; (try dsimp only at hSw); go_simp; first | done | with_reducible rfl)
            try simp only [Act.put, List.setIfInBounds_toArray, List.set_cons_zero, List.set_cons_succ]
            refine wpAnyH_take (i := 5) (v := .bool false) rfl (by kernel_rfl) (by kernel_rfl) (by kernel_rfl) (fun _ _ _ h => h) (Or.inl ⟨by kernel_rfl, ?_⟩) (by assumption) ?_
            · (intro w hSw; (try dsimp only at hSw); go_simp; first | done | with_reducible rfl)
            try simp only [Act.put, List.setIfInBounds_toArray, List.set_cons_zero, List.set_cons_succ]
            refine wpAnyH_take (i := 6) (v := ?_) rfl (by kernel_rfl) (by kernel_rfl) (by kernel_rfl) (fun _ _ _ h => h) (Or.inl ⟨by kernel_rfl, ?_⟩) (by assumption) ?_
            rotate_left
            · (intro w hSw; (try dsimp only at hSw); go_simp; first | done | with_reducible rfl)
            try simp only [Act.put, List.setIfInBounds_toArray, List.set_cons_zero, List.set_cons_succ]
            refine wpAnyH_take (i := 7) (v := ?_) rfl (by kernel_rfl) (by kernel_rfl) (by kernel_rfl) (fun _ _ _ h => h) (Or.inl ⟨by kernel_rfl, ?_⟩) (by assumption) ?_
            rotate_left
            · (intro w hSw; (try dsimp only at hSw); go_simp; first | done | with_reducible rfl)
            try simp only [Act.put, List.setIfInBounds_toArray, List.set_cons_zero, List.set_cons_succ]
            refine wpAnyH_take (i := 8) (v := ?_) rfl (by kernel_rfl) (by kernel_rfl) (by kernel_rfl) (fun _ _ _ h => h) (Or.inl ⟨by kernel_rfl, ?_⟩) (by assumption) ?_
            rotate_left
            · (intro w hSw; (try dsimp only at hSw); go_simp; first | done | with_reducible rfl)
            try simp only [Act.put, List.setIfInBounds_toArray, List.set_cons_zero, List.set_cons_succ]
            refine wpAnyH_ready (rs := [9]) (by kernel_rfl) (by simp) ?_
            refine AllReadyH.cons rfl (fun K hK => ?_) AllReadyH.nil
            go_simp
            go_at_call 66; refine (HI2.out _ _ (by omega) (by omega) h5).mono ?_; rintro e WZ ⟨rfl, h6⟩; obtain ⟨_, _, _, _, _, _, _, _⟩ := HSF.out _ h6
            go_wp2_with fail
            refine hK.out _ _ ?_ (fun hHeld => ?_)
            · (refine ⟨?_, ?_, ?_, ?_, ?_, ?_, ?_, ?_, ?_⟩ <;> assumption)
            clear hK K
            try simp only [Act.put, List.setIfInBounds_toArray, List.set_cons_zero, List.set_cons_succ]
            refine wpAnyH_take (i := 10) (v := .bool false) rfl (by kernel_rfl) (by kernel_rfl) (by kernel_rfl) (fun _ _ _ h => h) (Or.inl ⟨by kernel_rfl, ?_⟩) (by assumption) ?_
            · (intro w hSw; (try dsimp only at hSw); go_simp; first | done | with_reducible rfl)
            try simp only [Act.put, List.setIfInBounds_toArray, List.set_cons_zero, List.set_cons_succ]
            refine wpAnyH_take (i := 11) (v := .bool false) rfl (by kernel_rfl) (by kernel_rfl) (by kernel_rfl) (fun _ _ _ h => h) (Or.inl ⟨by kernel_rfl, ?_⟩) (by assumption) ?_
            · (intro w hSw; (try dsimp only at hSw); go_simp; first | done | with_reducible rfl)
            try simp only [Act.put, List.setIfInBounds_toArray, List.set_cons_zero, List.set_cons_succ]
            refine wpAnyH_take (i := 12) (v := .bool false) rfl (by kernel_rfl) (by kernel_rfl) (by kernel_rfl) (fun _ _ _ h => h) (Or.inl ⟨by kernel_rfl, ?_⟩) (by assumption) ?_
            · (intro w hSw; (try dsimp only at hSw); go_simp; first | done | with_reducible rfl)
            try simp only [Act.put, List.setIfInBounds_toArray, List.set_cons_zero, List.set_cons_succ]
            refine wpAnyH_take (i := 13) (v := ?_) rfl (by kernel_rfl) (by kernel_rfl) (by kernel_rfl) (fun _ _ _ h => h) (Or.inl ⟨by kernel_rfl, ?_⟩) (by assumption) ?_
            rotate_left
            · (intro w hSw; (try dsimp only at hSw); go_simp; first | done | with_reducible rfl)
            try simp only [Act.put, List.setIfInBounds_toArray, List.set_cons_zero, List.set_cons_succ]
            refine wpAnyH_take (i := 14) (v := ?_) rfl (by kernel_rfl) (by kernel_rfl) (by kernel_rfl) (fun _ _ _ h => h) (Or.inl ⟨by kernel_rfl, ?_⟩) (by assumption) ?_
            rotate_left
            · (intro w hSw; (try dsimp only at hSw); go_simp; first | done | with_reducible rfl)
            try simp only [Act.put, List.setIfInBounds_toArray, List.set_cons_zero, List.set_cons_succ]
            refine wpAnyH_take (i := 15) (v := .bool false) rfl (by kernel_rfl) (by kernel_rfl) (by kernel_rfl) (fun _ _ _ h => h) (Or.inl ⟨by kernel_rfl, ?_⟩) (by assumption) ?_
            · (intro w hSw; (try dsimp only at hSw); go_simp; first | done | with_reducible rfl)
            try simp only [Act.put, List.setIfInBounds_toArray, List.set_cons_zero, List.set_cons_succ]
            refine wpAnyH_take (i := 16) (v := .bool false) rfl (by kernel_rfl) (by kernel_rfl) (by kernel_rfl) (fun _ _ _ h => h) (Or.inl ⟨by kernel_rfl, ?_⟩) (by assumption) ?_
            · (intro w hSw; (try dsimp only at hSw); go_simp; first | done | with_reducible rfl)
            try simp only [Act.put, List.setIfInBounds_toArray, List.set_cons_zero, List.set_cons_succ]
            refine wpAnyH_take (i := 17) (v := .bool false) rfl (by kernel_rfl) (by kernel_rfl) (by kernel_rfl) (fun _ _ _ h => h) (Or.inl ⟨by kernel_rfl, ?_⟩) (by assumption) ?_
            · (intro w hSw; (try dsimp only at hSw); go_simp; first | done | with_reducible rfl)
            try simp only [Act.put, List.setIfInBounds_toArray, List.set_cons_zero, List.set_cons_succ]
            refine wpAnyH_take (i := 18) (v := ?_) rfl (by kernel_rfl) (by kernel_rfl) (by kernel_rfl) (fun _ _ _ h => h) (Or.inl ⟨by kernel_rfl, ?_⟩) (by assumption) ?_
            rotate_left
            · (intro w hSw; (try dsimp only at hSw); go_simp; first | done | with_reducible rfl)
            try simp only [Act.put, List.setIfInBounds_toArray, List.set_cons_zero, List.set_cons_succ]
            refine wpAnyH_take (i := 19) (v := .bool false) rfl (by kernel_rfl) (by kernel_rfl) (by kernel_rfl) (fun _ _ _ h => h) (Or.inl ⟨by kernel_rfl, ?_⟩) (by assumption) ?_
            · (intro w hSw; (try dsimp only at hSw); go_simp; first | done | with_reducible rfl)
            try simp only [Act.put, List.setIfInBounds_toArray, List.set_cons_zero, List.set_cons_succ]
            refine wpAnyH_take (i := 20) (v := .bool false) rfl (by kernel_rfl) (by kernel_rfl) (by kernel_rfl) (fun _ _ _ h => h) (Or.inl ⟨by kernel_rfl, ?_⟩) (by assumption) ?_
            · (intro w hSw; (try dsimp only at hSw); go_simp; first | done | with_reducible rfl)
            try simp only [Act.put, List.setIfInBounds_toArray, List.set_cons_zero, List.set_cons_succ]
            refine wpAnyH_take (i := 21) (v := undef) rfl (by kernel_rfl) (by kernel_rfl) (by kernel_rfl) (fun _ _ _ h => h) (Or.inr ⟨by kernel_rfl, rfl⟩) (by assumption) ?_
            try simp only [Act.put, List.setIfInBounds_toArray, List.set_cons_zero, List.set_cons_succ]
            refine wpAnyH_take (i := 22) (v := undef) rfl (by kernel_rfl) (by kernel_rfl) (by kernel_rfl) (fun _ _ _ h => h) (Or.inr ⟨by kernel_rfl, rfl⟩) (by assumption) ?_
            try simp only [Act.put, List.setIfInBounds_toArray, List.set_cons_zero, List.set_cons_succ]
            refine wpAnyH_take (i := 23) (v := undef) rfl (by kernel_rfl) (by kernel_rfl) (by kernel_rfl) (fun _ _ _ h => h) (Or.inr ⟨by kernel_rfl, rfl⟩) (by assumption) ?_
            try simp only [Act.put, List.setIfInBounds_toArray, List.set_cons_zero, List.set_cons_succ]
            refine wpAnyH_take (i := 24) (v := undef) rfl (by kernel_rfl) (by kernel_rfl) (by kernel_rfl) (fun _ _ _ h => h) (Or.inr ⟨by kernel_rfl, rfl⟩) (by assumption) ?_
            try simp only [Act.put, List.setIfInBounds_toArray, List.set_cons_zero, List.set_cons_succ]
            refine wpAnyH_take (i := 25) (v := undef) rfl (by kernel_rfl) (by kernel_rfl) (by kernel_rfl) (fun _ _ _ h => h) (Or.inr ⟨by kernel_rfl, rfl⟩) (by assumption) ?_
            try simp only [Act.put, List.setIfInBounds_toArray, List.set_cons_zero, List.set_cons_succ]
            refine wpAnyH_take (i := 26) (v := undef) rfl (by kernel_rfl) (by kernel_rfl) (by kernel_rfl) (fun _ _ _ h => h) (Or.inr ⟨by kernel_rfl, rfl⟩) (by assumption) ?_
            try simp only [Act.put, List.setIfInBounds_toArray, List.set_cons_zero, List.set_cons_succ]
            refine wpAnyH_take (i := 27) (v := undef) rfl (by kernel_rfl) (by kernel_rfl) (by kernel_rfl) (fun _ _ _ h => h) (Or.inr ⟨by kernel_rfl, rfl⟩) (by assumption) ?_
            try simp only [Act.put, List.setIfInBounds_toArray, List.set_cons_zero, List.set_cons_succ]
            refine wpAnyH_take (i := 28) (v := undef) rfl (by kernel_rfl) (by kernel_rfl) (by kernel_rfl) (fun _ _ _ h => h) (Or.inr ⟨by kernel_rfl, rfl⟩) (by assumption) ?_
            try simp only [Act.put, List.setIfInBounds_toArray, List.set_cons_zero, List.set_cons_succ]
            refine wpAnyH_take (i := 29) (v := undef) rfl (by kernel_rfl) (by kernel_rfl) (by kernel_rfl) (fun _ _ _ h => h) (Or.inr ⟨by kernel_rfl, rfl⟩) (by assumption) ?_
            try simp only [Act.put, List.setIfInBounds_toArray, List.set_cons_zero, List.set_cons_succ]
            refine wpAnyH_take (i := 30) (v := undef) rfl (by kernel_rfl) (by kernel_rfl) (by kernel_rfl) (fun _ _ _ h => h) (Or.inr ⟨by kernel_rfl, rfl⟩) (by assumption) ?_
            try simp only [Act.put, List.setIfInBounds_toArray, List.set_cons_zero, List.set_cons_succ]
            refine wpAnyH_take (i := 31) (v := .bool false) rfl (by kernel_rfl) (by kernel_rfl) (by kernel_rfl) (fun _ _ _ h => h) (Or.inl ⟨by kernel_rfl, ?_⟩) (by assumption) ?_
            · (intro w hSw; (try dsimp only at hSw); go_simp; first | done | with_reducible rfl)
            try simp only [Act.put, List.setIfInBounds_toArray, List.set_cons_zero, List.set_cons_succ]
            refine wpAnyH_take (i := 32) (v := .bool false) rfl (by kernel_rfl) (by kernel_rfl) (by kernel_rfl) (fun _ _ _ h => h) (Or.inl ⟨by kernel_rfl, ?_⟩) (by assumption) ?_
            · (intro w hSw; (try dsimp only at hSw); go_simp; first | done | with_reducible rfl)
            try simp only [Act.put, List.setIfInBounds_toArray, List.set_cons_zero, List.set_cons_succ]
            refine wpAnyH_done (by kernel_rfl) ?_ _
            refine NoPanic.normal ?_
            simp only [Act.put, List.setIfInBounds_toArray, List.set_cons_zero, List.set_cons_succ, List.getElem_toArray, List.getElem_cons_succ, List.getElem_cons_zero]
            have HP6 := Lib.hid h6
            clear h5 h6 HK0 tk
            have HB6 := Lib.hid (HBX.out _ HP6.out)
            have y2 : WZ.cell? ⟨g, off + j * 3 + 2, none⟩ = some (.int .i64 (-1)) := (HB6.out.below.cell (p := ⟨g, off + j * 3 + 2, none⟩) hg).trans HU.out.1
            have y1 : WZ.cell? ⟨g, off + (j + 1) * 3 + 1, none⟩ = some (.int .i64 op) := (HB6.out.below.cell (p := ⟨g, off + (j + 1) * 3 + 1, none⟩) hg).trans HU.out.2
            have jl : (j : Int) < (M : Int) + 1 := by omega
            have jl2 : (j : Int) + 1 < (M : Int) + 1 := by omega
            go_wp2
            go_quiet (fail)
            go_wp2
            have ew : wrap64 (kk + 1) = ((k + 1 : Nat) : Int) := by have := HKK.out; unfold wrap64; omega
            first | rw [ew] | rw [show kk + 1 = ((k + 1 : Nat) : Int) from by have := HKK.out; omega]
            go_roundw
            case rel => exact ⟨k + 1, by omega, rfl, by first | exact HB6.out | exact HB6.out.step (below_drewN (Below.refl _ _) _)⟩
            case measure => simp [intOf]; omega
          · have tk : decide ((0 : Int) < kk) = true := decide_eq_true (by omega)
            obtain ⟨k', hk'⟩ : ∃ k', k = k' + 1 := ⟨k - 1, by omega⟩
            obtain ⟨pp, hpc, hpp⟩ := HPV.out k' hk'
            have HPC : Hid (∀ W, P W → W.cell? ⟨gp, offp + k' * 3, none⟩ = some (.int .i64 pp)) := fun W h => ((HBX.out _ h).below.cell (p := ⟨gp, offp + k' * 3, none⟩) hgp).trans hpc
            have hk1 : kk - 1 = (k' : Int) := by omega
            have hk2 : wrap64 (kk - 1) = (k' : Int) := by rw [hk1]; unfold wrap64; omega
            have hk3 : IntKind.i64.wrap (kk - 1) = (k' : Int) := by rw [hk1]; simp [IntKind.wrap, IntKind.bits, IntKind.signed]; omega
            have hk5 : IntKind.i64.wrap (k' : Int) = (k' : Int) := by simp [IntKind.wrap, IntKind.bits, IntKind.signed]; omega
            have hk4 : (k' : Int) < (PN : Int) := by omega
            have tq : decide (op ≤ pp) = false := decide_eq_false (by omega)
            clear h0 hkk tl hk' hpc
            refine wp_region_noPanic ?_
            refine wp_region_held_drew (S := fun W => W.cell? ⟨X, 0, none⟩ = some (.int .i64 op) ∧ W.cell? ⟨X, 1, none⟩ = some (.int .i64 j) ∧ W.cell? ⟨X, 2, none⟩ = some (.int .i64 ((j : Int) + 1)) ∧ W.cell? ⟨w.heap.size, 0, none⟩ = some (.slice (some ⟨g, off, none⟩) (M + 1) cap) ∧ W.cell? ⟨w.heap.size, 1, none⟩ = some (.int .i64 M) ∧ W.cell? ⟨w.heap.size, 2, none⟩ = some (.int .i64 q.done) ∧ W.cell? ⟨w.heap.size, 3, none⟩ = some (.slice (some ⟨gp, offp, none⟩) PN cap2) ∧ W.cell? ⟨w.heap.size, 4, none⟩ = some (.bool q.empty) ∧ W.cell? ⟨gp, offp + k' * 3, none⟩ = some (.int .i64 pp) ∧ P W) (by kernel_rfl) ?_ (fun hHeld => ?_)
            · (refine ⟨?_, ?_, ?_, ?_, ?_, ?_, ?_, ?_, ?_, ?_⟩ <;> first | assumption | exact HPD.out | exact HK0.out.1 | exact HK0.out.2.1 | exact HK0.out.2.2.1 | exact HK0.out.2.2.2.1 | exact HK0.out.2.2.2.2.1 | exact HK0.out.2.2.2.2.2.1 | exact HK0.out.2.2.2.2.2.2.1 | exact HK0.out.2.2.2.2.2.2.2 | exact HPC.out _ HPD.out)
            refine wpAnyH_take (i := 0) (v := ?_) rfl (by kernel_rfl) (by kernel_rfl) (by kernel_rfl) (fun _ _ _ h => h) (Or.inl ⟨by kernel_rfl, ?_⟩) (by assumption) ?_
            rotate_left
            · (intro w hSw; (try dsimp only at hSw); go_simp; first | done | with_reducible rfl)
            try simp only [Act.put, List.setIfInBounds_toArray, List.set_cons_zero, List.set_cons_succ]
            refine wpAnyH_take (i := 1) (v := ?_) rfl (by kernel_rfl) (by kernel_rfl) (by kernel_rfl) (fun _ _ _ h => h) (Or.inl ⟨by kernel_rfl, ?_⟩) (by assumption) ?_
            rotate_left
            · (intro w hSw; (try dsimp only at hSw); go_simp; first | done | with_reducible rfl)
            try simp only [Act.put, List.setIfInBounds_toArray, List.set_cons_zero, List.set_cons_succ]
            refine wpAnyH_take (i := 2) (v := ?_) rfl (by kernel_rfl) (by kernel_rfl) (by kernel_rfl) (fun _ _ _ h => h) (Or.inl ⟨by kernel_rfl, ?_⟩) (by assumption) ?_
            rotate_left
            · (intro w hSw; (try dsimp only at hSw); go_simp; first | done | with_reducible rfl)
            try simp only [Act.put, List.setIfInBounds_toArray, List.set_cons_zero, List.set_cons_succ]
            refine wpAnyH_ready (rs := [3]) (by kernel_rfl) (by simp) ?_
            refine AllReadyH.cons rfl (fun K hK => ?_) AllReadyH.nil
            go_simp
            go_at_call 66; refine (HI2.out _ _ (by omega) (by omega) HPD.out).mono ?_; rintro e WY ⟨rfl, h5⟩; obtain ⟨_, _, _, _, _, _, _, _⟩ := HSF.out _ h5; have := HPC.out _ h5
            go_wp2_with fail
            refine hK.out _ _ ?_ (fun hHeld => ?_)
            · (refine ⟨?_, ?_, ?_, ?_, ?_, ?_, ?_, ?_, ?_, ?_⟩ <;> assumption)
            clear hK K
            try simp only [Act.put, List.setIfInBounds_toArray, List.set_cons_zero, List.set_cons_succ]
            refine wpAnyH_take (i := 4) (v := .bool false) rfl (by kernel_rfl) (by kernel_rfl) (by kernel_rfl) (fun _ _ _ h => h) (Or.inl ⟨by kernel_rfl, ?_⟩) (by assumption) ?_
            · (intro w hSw; (try dsimp only at hSw); go_simp; first | done | with_reducible rfl)
            try simp only [Act.put, List.setIfInBounds_toArray, List.set_cons_zero, List.set_cons_succ]
            refine wpAnyH_take (i := 5) (v := .bool false) rfl (by kernel_rfl) (by kernel_rfl) (by kernel_rfl) (fun _ _ _ h => h) (Or.inl ⟨by kernel_rfl, ?_⟩) (by assumption) ?_
            · (intro w hSw; (try dsimp only at hSw); go_simp; first | done | with_reducible rfl)
            try simp only [Act.put, List.setIfInBounds_toArray, List.set_cons_zero, List.set_cons_succ]
            refine wpAnyH_take (i := 6) (v := ?_) rfl (by kernel_rfl) (by kernel_rfl) (by kernel_rfl) (fun _ _ _ h => h) (Or.inl ⟨by kernel_rfl, ?_⟩) (by assumption) ?_
            rotate_left
            · (intro w hSw; (try dsimp only at hSw); go_simp; first | done | with_reducible rfl)
            try simp only [Act.put, List.setIfInBounds_toArray, List.set_cons_zero, List.set_cons_succ]
            refine wpAnyH_take (i := 7) (v := ?_) rfl (by kernel_rfl) (by kernel_rfl) (by kernel_rfl) (fun _ _ _ h => h) (Or.inl ⟨by kernel_rfl, ?_⟩) (by assumption) ?_
            rotate_left
            · (intro w hSw; (try dsimp only at hSw); go_simp; first | done | with_reducible rfl)
            try simp only [Act.put, List.setIfInBounds_toArray, List.set_cons_zero, List.set_cons_succ]
            refine wpAnyH_take (i := 8) (v := ?_) rfl (by kernel_rfl) (by kernel_rfl) (by kernel_rfl) (fun _ _ _ h => h) (Or.inl ⟨by kernel_rfl, ?_⟩) (by assumption) ?_
            rotate_left
            · (intro w hSw; (try dsimp only at hSw); go_simp; first | done | with_reducible rfl)
            try simp only [Act.put, List.setIfInBounds_toArray, List.set_cons_zero, List.set_cons_succ]
            refine wpAnyH_ready (rs := [9]) (by kernel_rfl) (by simp) ?_
            refine AllReadyH.cons rfl (fun K hK => ?_) AllReadyH.nil
            go_simp
            go_at_call 66; refine (HI2.out _ _ (by omega) (by omega) h5).mono ?_; rintro e WZ ⟨rfl, h6⟩; obtain ⟨_, _, _, _, _, _, _, _⟩ := HSF.out _ h6; have := HPC.out _ h6
            go_wp2_with fail
            refine hK.out _ _ ?_ (fun hHeld => ?_)
            · (refine ⟨?_, ?_, ?_, ?_, ?_, ?_, ?_, ?_, ?_, ?_⟩ <;> assumption)
            clear hK K
            try simp only [Act.put, List.setIfInBounds_toArray, List.set_cons_zero, List.set_cons_succ]
            refine wpAnyH_take (i := 10) (v := .bool false) rfl (by kernel_rfl) (by kernel_rfl) (by kernel_rfl) (fun _ _ _ h => h) (Or.inl ⟨by kernel_rfl, ?_⟩) (by assumption) ?_
            · (intro w hSw; (try dsimp only at hSw); go_simp; first | done | with_reducible rfl)
            try simp only [Act.put, List.setIfInBounds_toArray, List.set_cons_zero, List.set_cons_succ]
            refine wpAnyH_take (i := 11) (v := .bool false) rfl (by kernel_rfl) (by kernel_rfl) (by kernel_rfl) (fun _ _ _ h => h) (Or.inl ⟨by kernel_rfl, ?_⟩) (by assumption) ?_
            · (intro w hSw; (try dsimp only at hSw); go_simp; first | done | with_reducible rfl)
            try simp only [Act.put, List.setIfInBounds_toArray, List.set_cons_zero, List.set_cons_succ]
            refine wpAnyH_take (i := 12) (v := .bool false) rfl (by kernel_rfl) (by kernel_rfl) (by kernel_rfl) (fun _ _ _ h => h) (Or.inl ⟨by kernel_rfl, ?_⟩) (by assumption) ?_
            · (intro w hSw; (try dsimp only at hSw); go_simp; first | done | with_reducible rfl)
            try simp only [Act.put, List.setIfInBounds_toArray, List.set_cons_zero, List.set_cons_succ]
            refine wpAnyH_take (i := 13) (v := ?_) rfl (by kernel_rfl) (by kernel_rfl) (by kernel_rfl) (fun _ _ _ h => h) (Or.inl ⟨by kernel_rfl, ?_⟩) (by assumption) ?_
            rotate_left
            · (intro w hSw; (try dsimp only at hSw); go_simp; first | done | with_reducible rfl)
            try simp only [Act.put, List.setIfInBounds_toArray, List.set_cons_zero, List.set_cons_succ]
            refine wpAnyH_take (i := 14) (v := ?_) rfl (by kernel_rfl) (by kernel_rfl) (by kernel_rfl) (fun _ _ _ h => h) (Or.inl ⟨by kernel_rfl, ?_⟩) (by assumption) ?_
            rotate_left
            · (intro w hSw; (try dsimp only at hSw); go_simp; first | done | with_reducible rfl)
            try simp only [Act.put, List.setIfInBounds_toArray, List.set_cons_zero, List.set_cons_succ]
            refine wpAnyH_take (i := 15) (v := .bool false) rfl (by kernel_rfl) (by kernel_rfl) (by kernel_rfl) (fun _ _ _ h => h) (Or.inl ⟨by kernel_rfl, ?_⟩) (by assumption) ?_
            · (intro w hSw; (try dsimp only at hSw); go_simp; first | done | with_reducible rfl)
            try simp only [Act.put, List.setIfInBounds_toArray, List.set_cons_zero, List.set_cons_succ]
            refine wpAnyH_take (i := 16) (v := .bool false) rfl (by kernel_rfl) (by kernel_rfl) (by kernel_rfl) (fun _ _ _ h => h) (Or.inl ⟨by kernel_rfl, ?_⟩) (by assumption) ?_
            · (intro w hSw; (try dsimp only at hSw); go_simp; first | done | with_reducible rfl)
            try simp only [Act.put, List.setIfInBounds_toArray, List.set_cons_zero, List.set_cons_succ]
            refine wpAnyH_take (i := 17) (v := .bool false) rfl (by kernel_rfl) (by kernel_rfl) (by kernel_rfl) (fun _ _ _ h => h) (Or.inl ⟨by kernel_rfl, ?_⟩) (by assumption) ?_
            · (intro w hSw; (try dsimp only at hSw); go_simp; first | done | with_reducible rfl)
            try simp only [Act.put, List.setIfInBounds_toArray, List.set_cons_zero, List.set_cons_succ]
            refine wpAnyH_take (i := 18) (v := ?_) rfl (by kernel_rfl) (by kernel_rfl) (by kernel_rfl) (fun _ _ _ h => h) (Or.inl ⟨by kernel_rfl, ?_⟩) (by assumption) ?_
            rotate_left
            · (intro w hSw; (try dsimp only at hSw); go_simp; first | done | with_reducible rfl)
            try simp only [Act.put, List.setIfInBounds_toArray, List.set_cons_zero, List.set_cons_succ]
            refine wpAnyH_take (i := 19) (v := .bool true) rfl (by kernel_rfl) (by kernel_rfl) (by kernel_rfl) (fun _ _ _ h => h) (Or.inl ⟨by kernel_rfl, ?_⟩) (by assumption) ?_
            · (intro w hSw; (try dsimp only at hSw); go_simp; first | done | with_reducible rfl)
            try simp only [Act.put, List.setIfInBounds_toArray, List.set_cons_zero, List.set_cons_succ]
            refine wpAnyH_take (i := 20) (v := .bool true) rfl (by kernel_rfl) (by kernel_rfl) (by kernel_rfl) (fun _ _ _ h => h) (Or.inl ⟨by kernel_rfl, ?_⟩) (by assumption) ?_
            · (intro w hSw; (try dsimp only at hSw); go_simp; first | done | with_reducible rfl)
            try simp only [Act.put, List.setIfInBounds_toArray, List.set_cons_zero, List.set_cons_succ]
            refine wpAnyH_take (i := 21) (v := ?_) rfl (by kernel_rfl) (by kernel_rfl) (by kernel_rfl) (fun _ _ _ h => h) (Or.inl ⟨by kernel_rfl, ?_⟩) (by assumption) ?_
            rotate_left
            · (intro w hSw; (try dsimp only at hSw); go_simp; first | done | with_reducible rfl)
            try simp only [Act.put, List.setIfInBounds_toArray, List.set_cons_zero, List.set_cons_succ]
            refine wpAnyH_take (i := 22) (v := ?_) rfl (by kernel_rfl) (by kernel_rfl) (by kernel_rfl) (fun _ _ _ h => h) (Or.inl ⟨by kernel_rfl, ?_⟩) (by assumption) ?_
            rotate_left
            · (intro w hSw; (try dsimp only at hSw); go_simp; first | done | with_reducible rfl)
            try simp only [Act.put, List.setIfInBounds_toArray, List.set_cons_zero, List.set_cons_succ]
            refine wpAnyH_take (i := 23) (v := ?_) rfl (by kernel_rfl) (by kernel_rfl) (by kernel_rfl) (fun _ _ _ h => h) (Or.inl ⟨by kernel_rfl, ?_⟩) (by assumption) ?_
            rotate_left
            · (intro w hSw; (try dsimp only at hSw); go_simp; first | done | with_reducible rfl)
            try simp only [Act.put, List.setIfInBounds_toArray, List.set_cons_zero, List.set_cons_succ]
            refine wpAnyH_take (i := 24) (v := ?_) rfl (by kernel_rfl) (by kernel_rfl) (by kernel_rfl) (fun _ _ _ h => h) (Or.inl ⟨by kernel_rfl, ?_⟩) (by assumption) ?_
            rotate_left
            · (intro w hSw; (try dsimp only at hSw); go_simp; first | done | with_reducible rfl)
            try simp only [Act.put, List.setIfInBounds_toArray, List.set_cons_zero, List.set_cons_succ]
            refine wpAnyH_take (i := 25) (v := ?_) rfl (by kernel_rfl) (by kernel_rfl) (by kernel_rfl) (fun _ _ _ h => h) (Or.inl ⟨by kernel_rfl, ?_⟩) (by assumption) ?_
            rotate_left
            · (intro w hSw; (try dsimp only at hSw); go_simp; first | done | with_reducible rfl)
            try simp only [Act.put, List.setIfInBounds_toArray, List.set_cons_zero, List.set_cons_succ]
            refine wpAnyH_take (i := 26) (v := .int .i64 (k' : Int)) rfl (by kernel_rfl) (by kernel_rfl) (by kernel_rfl) (fun _ _ _ h => h) (Or.inl ⟨by kernel_rfl, ?_⟩) (by assumption) ?_
            · (intro w hSw; (try dsimp only at hSw); go_simp; first | done | with_reducible rfl)
            try simp only [Act.put, List.setIfInBounds_toArray, List.set_cons_zero, List.set_cons_succ]
            refine wpAnyH_take (i := 27) (v := ?_) rfl (by kernel_rfl) (by kernel_rfl) (by kernel_rfl) (fun _ _ _ h => h) (Or.inl ⟨by kernel_rfl, ?_⟩) (by assumption) ?_
            rotate_left
            · (intro w hSw; (try dsimp only at hSw); go_simp; first | done | with_reducible rfl)
            try simp only [Act.put, List.setIfInBounds_toArray, List.set_cons_zero, List.set_cons_succ]
            refine wpAnyH_take (i := 28) (v := ?_) rfl (by kernel_rfl) (by kernel_rfl) (by kernel_rfl) (fun _ _ _ h => h) (Or.inl ⟨by kernel_rfl, ?_⟩) (by assumption) ?_
            rotate_left
            · (intro w hSw; (try dsimp only at hSw); go_simp; first | done | with_reducible rfl)
            try simp only [Act.put, List.setIfInBounds_toArray, List.set_cons_zero, List.set_cons_succ]
            refine wpAnyH_take (i := 29) (v := ?_) rfl (by kernel_rfl) (by kernel_rfl) (by kernel_rfl) (fun _ _ _ h => h) (Or.inl ⟨by kernel_rfl, ?_⟩) (by assumption) ?_
            rotate_left
            · (intro w hSw; (try dsimp only at hSw); go_simp; first | done | with_reducible rfl)
            try simp only [Act.put, List.setIfInBounds_toArray, List.set_cons_zero, List.set_cons_succ]
            refine wpAnyH_take (i := 30) (v := .bool false) rfl (by kernel_rfl) (by kernel_rfl) (by kernel_rfl) (fun _ _ _ h => h) (Or.inl ⟨by kernel_rfl, ?_⟩) (by assumption) ?_
            · (intro w hSw; (try dsimp only at hSw); go_simp; first | done | with_reducible rfl)
            try simp only [Act.put, List.setIfInBounds_toArray, List.set_cons_zero, List.set_cons_succ]
            refine wpAnyH_take (i := 31) (v := .bool false) rfl (by kernel_rfl) (by kernel_rfl) (by kernel_rfl) (fun _ _ _ h => h) (Or.inl ⟨by kernel_rfl, ?_⟩) (by assumption) ?_
            · (intro w hSw; (try dsimp only at hSw); go_simp; first | done | with_reducible rfl)
            try simp only [Act.put, List.setIfInBounds_toArray, List.set_cons_zero, List.set_cons_succ]
            refine wpAnyH_take (i := 32) (v := .bool false) rfl (by kernel_rfl) (by kernel_rfl) (by kernel_rfl) (fun _ _ _ h => h) (Or.inl ⟨by kernel_rfl, ?_⟩) (by assumption) ?_
            · (intro w hSw; (try dsimp only at hSw); go_simp; first | done | with_reducible rfl)
            try simp only [Act.put, List.setIfInBounds_toArray, List.set_cons_zero, List.set_cons_succ]
            refine wpAnyH_done (by kernel_rfl) ?_ _
            refine NoPanic.normal ?_
            simp only [Act.put, List.setIfInBounds_toArray, List.set_cons_zero, List.set_cons_succ, List.getElem_toArray, List.getElem_cons_succ, List.getElem_cons_zero]
            have HP6 := Lib.hid h6
            clear h5 h6 HK0 tk
            have HB6 := Lib.hid (HBX.out _ HP6.out)
            have y2 : WZ.cell? ⟨g, off + j * 3 + 2, none⟩ = some (.int .i64 (-1)) := (HB6.out.below.cell (p := ⟨g, off + j * 3 + 2, none⟩) hg).trans HU.out.1
            have y1 : WZ.cell? ⟨g, off + (j + 1) * 3 + 1, none⟩ = some (.int .i64 op) := (HB6.out.below.cell (p := ⟨g, off + (j + 1) * 3 + 1, none⟩) hg).trans HU.out.2
            have jl : (j : Int) < (M : Int) + 1 := by omega
            have jl2 : (j : Int) + 1 < (M : Int) + 1 := by omega
            go_wp2
            go_quiet (fail)
            go_wp2
            have ew : wrap64 (kk + 1) = ((k + 1 : Nat) : Int) := by have := HKK.out; unfold wrap64; omega
            first | rw [ew] | rw [show kk + 1 = ((k + 1 : Nat) : Int) from by have := HKK.out; omega]
            go_roundw
            case rel => exact ⟨k + 1, by omega, rfl, by first | exact HB6.out | exact HB6.out.step (below_drewN (Below.refl _ _) _)⟩
            case measure => simp [intOf]; omega
        · obtain rfl : k = PN := by omega
          go_wp2_with fail
          go_ret
          exact ⟨rfl, HS.out.below⟩
end Go.Proofs.Ytgbafpjeapkklaa.Mb
