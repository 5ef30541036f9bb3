/- Parts Uq, Ur, Us, Ut, Ux, Uv of the proof. -/
import Derived.ProofKit
import Derived.OpenShut
import Derived.Carry
import Derived.Deep.Slices
import Derived.Test.YtgbafpjeapkklaaG0
import Derived.Test.YtgbafpjeapkklaaG1
import Derived.Test.YtgbafpjeapkklaaG7
namespace Go.Proofs.Ytgbafpjeapkklaa.Mb
open Go.RowKit
set_option linter.unusedVariables false
set_option linter.unusedSimpArgs false
theorem setChan_ne (w : World) (c c' cap : Nat) (buf : Array Value) (closed : Bool) (s r : Nat) (tm : Bool) (h : c ≠ c') : (w.setChan c cap buf closed s r tm).heap[c']? = w.heap[c']? := by
  simp [World.setChan, Array.getElem?_setIfInBounds_ne h]
theorem chan_cells {w : World} {c cap s r : Nat} {buf : Array Value} {cl tm : Bool} (hc : w.heap[c]? = some (.chan cap buf cl s r tm)) {g : Nat} {C : Array Value} {e : TypeId} {f : Nat × Nat} (hg : w.heap[g]? = some (.cells C e f)) (cap' : Nat) (buf' : Array Value) (cl' : Bool) (s' r' : Nat) (tm' : Bool) :
    (w.setChan c cap' buf' cl' s' r' tm').heap[g]? = some (.cells C e f) := by
  rw [setChan_ne _ _ _ _ _ _ _ _ _ (fun e => by rw [e, hg] at hc; cases hc)]
  exact hg
theorem gnext_gnil (w : World) : Calls Try.prog 26 #[.pointer none] w fun e w' => e = .returned (.tuple #[.int .i64 0, .int .i64 (-1), .bool false]) ∧ w' = w := by
  go_enter Try.func26, Try.ntmps26
  go_wp2_with fail
  refine bodyPost_ret (v := .tuple #[.int .i64 0, .int .i64 (-1), .bool false]) (by simp [results, Try.results26, go_sem]) rfl ⟨rfl, by first | rfl | trivial⟩
set_option maxRecDepth 100000 in
set_option maxHeartbeats 4000000 in
theorem gnext_none {G B : Nat} {gv : Value} {l : List Nat} (w : World) (hG : w.heap[G]? = some (.cells #[gv] 72 (0, 0))) (ho : w.ownsRow B 84 1 gv l.length (chs l)) (hl : l.length ≤ 64) (he : ∀ (j c : Nat), l[j]? = some c → ∃ cap s r, w.heap[c]? = some (.chan cap #[] false s r false)) :
    Calls Try.prog 26 #[.pointer (some ⟨G, 0, none⟩)] w fun e w' => e = .returned (.tuple #[.int .i64 0, .int .i64 (-1), .bool false]) ∧ w' = w := by
  obtain ⟨q, cp, rfl⟩ := own1_slice ho
  have HG := Lib.hid hG
  have HO := Lib.hid ho
  have HN := Lib.hid hl
  have HE := Lib.hid he
  have c0 := cell_blk hG 0
  clear ho hl hG he
  go_enter Try.func26, Try.ntmps26
  go_wp2_with fail
  clear c0
  go_loopw [16] (fun s wr => wr = w ∧ ∃ k : Nat, k ≤ l.length ∧ s = .int .i64 k) (fun s _ => l.length - (intOf s).toNat)
  case atStart => exact ⟨rfl, 0, by omega, rfl⟩
  case round =>
    obtain ⟨rfl, k, hk, rfl⟩ := hrel
    by_cases hlt : k < l.length
    · skip
      have tl : decide ((k : Int) < (l.length : Int)) = true := decide_eq_true (by omega)
      have tl' : (k : Int) < (l.length : Int) := by omega
      obtain ⟨x0, hx⟩ : ∃ x0, l[k]? = some x0 := ⟨l[k]'hlt, by simp⟩
      obtain ⟨g2, cp2, e, _, _, ⟨_, hg2⟩, hxs⟩ := own_at HO.out (by omega)
      injection e with e _ e3
      subst e e3
      have c3 : wr.cell? ⟨g2, k, none⟩ = some (.chan (some x0)) := hxs k _ (by simp [chs, hx])
      have HX := Lib.hid hx
      clear hx hxs hg2
      obtain ⟨cap, s, r, hch⟩ := HE.out k x0 HX.out
      go_wp2_with fail
      refine (take_none wr hch).mono ?_
      rintro e w' ⟨rfl, hw⟩
      rw [hw]
      clear hw w'
      go_wp2_with fail
      have ew : wrap64 ((k : Int) + 1) = ((k + 1 : Nat) : Int) := by have := HN.out; unfold wrap64; omega
      rw [ew]
      go_roundw
      case rel => exact ⟨by first | rfl | trivial, k + 1, hlt, rfl⟩
      case measure => exact meas_lt k l.length hlt
    · have tl : decide ((k : Int) < (l.length : Int)) = false := decide_eq_false (by omega)
      go_wp2_with fail
      refine bodyPost_ret (v := .tuple #[.int .i64 0, .int .i64 (-1), .bool false]) (by simp [results, Try.results26, go_sem]) rfl ⟨rfl, by first | rfl | trivial⟩
set_option maxRecDepth 100000 in
set_option maxHeartbeats 4000000 in
theorem gnext_some {G B : Nat} {gv : Value} {l : List Nat} (w : World) (hG : w.heap[G]? = some (.cells #[gv] 72 (0, 0))) (ho : w.ownsRow B 84 1 gv l.length (chs l)) (hl : l.length ≤ 64) (hBG : B ≤ G) {K c cap s r : Nat} {n : Int} {row : List Int} (hK : l[K]? = some c) (hc : w.heap[c]? = some (.chan cap ((n :: row).map (Value.int .i64)).toArray false s r false)) (he : ∀ (j c : Nat), j < K → l[j]? = some c → ∃ cap s r, w.heap[c]? = some (.chan cap #[] false s r false)) :
    Calls Try.prog 26 #[.pointer (some ⟨G, 0, none⟩)] w fun e w' => e = .returned (.tuple #[.int .i64 n, .int .i64 K, .bool true]) ∧ Keep B (w.setChan c cap (row.map (Value.int .i64)).toArray false s (r + 1) false) w' ∧ ∃ gv', w'.heap[G]? = some (.cells #[gv'] 72 (0, 0)) ∧ w'.ownsRow B 84 1 gv' l.length (chs (l.eraseIdx K ++ [c])) := by
  have HK := Lib.hid hK
  have HC := Lib.hid hc
  have HKL : Hid (K < l.length) := (List.getElem?_eq_some_iff.1 hK).1
  have HBG := Lib.hid hBG
  clear hK hc hBG
  obtain ⟨q, cp, rfl⟩ := own1_slice ho
  have HG := Lib.hid hG
  have HO := Lib.hid ho
  have HN := Lib.hid hl
  have HE := Lib.hid he
  have c0 := cell_blk hG 0
  clear ho hl hG he
  go_enter Try.func26, Try.ntmps26
  go_wp2_with fail
  clear c0
  go_loopw [16] (fun s wr => wr = w ∧ ∃ k : Nat, k ≤ K ∧ s = .int .i64 k) (fun s _ => l.length - (intOf s).toNat)
  case atStart => exact ⟨rfl, 0, by omega, rfl⟩
  case round =>
    obtain ⟨rfl, k, hk, rfl⟩ := hrel
    have hlt : k < l.length := Nat.lt_of_le_of_lt hk HKL.out
    by_cases hkK : k < K
    · skip
      have tl : decide ((k : Int) < (l.length : Int)) = true := decide_eq_true (by omega)
      have tl' : (k : Int) < (l.length : Int) := by omega
      obtain ⟨x0, hx⟩ : ∃ x0, l[k]? = some x0 := ⟨l[k]'hlt, by simp⟩
      obtain ⟨g2, cp2, e, _, _, ⟨_, hg2⟩, hxs⟩ := own_at HO.out (by omega)
      injection e with e _ e3
      subst e e3
      have c3 : wr.cell? ⟨g2, k, none⟩ = some (.chan (some x0)) := hxs k _ (by simp [chs, hx])
      have HX := Lib.hid hx
      clear hx hxs hg2
      obtain ⟨cap', s', r', hch⟩ := HE.out k x0 hkK HX.out
      go_wp2_with fail
      refine (take_none wr hch).mono ?_
      rintro e w' ⟨rfl, hw⟩
      rw [hw]
      clear hw w'
      go_wp2_with fail
      have ew : wrap64 ((k : Int) + 1) = ((k + 1 : Nat) : Int) := by have := HN.out; unfold wrap64; omega
      rw [ew]
      go_roundw
      case rel => exact ⟨by first | rfl | trivial, k + 1, hkK, rfl⟩
      case measure => exact meas_lt k l.length hlt
    · obtain rfl : k = K := by omega
      have tl : decide ((k : Int) < (l.length : Int)) = true := decide_eq_true (by omega)
      have tl' : (k : Int) < (l.length : Int) := by omega
      obtain ⟨x0, hx⟩ : ∃ x0, l[k]? = some x0 := ⟨l[k]'hlt, by simp⟩
      obtain ⟨g2, cp2, e, _, _, ⟨_, hg2⟩, hxs⟩ := own_at HO.out (by omega)
      injection e with e _ e3
      subst e e3
      have c3 : wr.cell? ⟨g2, k, none⟩ = some (.chan (some x0)) := hxs k _ (by simp [chs, hx])
      have HX := Lib.hid hx
      clear hx hxs hg2
      obtain rfl : x0 = c := by have := HX.out; rw [HK.out] at this; injection this with this; exact this.symm
      go_wp2_with fail
      refine (take_some wr HC.out).mono ?_
      rintro e W1 ⟨rfl, hW1⟩
      have HG1 : Hid (W1.heap[G]? = some (.cells #[.slice (some ⟨g2, 0, none⟩) l.length cp] 72 (0, 0))) := by show _ = _; rw [hW1]; exact chan_cells HC.out HG.out ..
      have HO1 : Hid (W1.ownsRow B 84 1 (.slice (some ⟨g2, 0, none⟩) l.length cp) l.length (chs l)) := by
        show World.ownsRow _ _ _ _ _ _ _
        rw [hW1]
        exact own_keep HO.out fun g C f hg => (chan_cells HC.out hg ..).trans hg.symm
      have HW1 := Lib.hid hW1
      clear hW1 c3 tl tl'
      have ew : IntKind.i64.wrap ((k : Int) + 1) = (k : Int) + 1 := by have := HN.out; rw [IntKind.wrap_i64]; omega
      have c0 := cell_blk HG1.out 0
      have HDL : Hid (Calls Try.prog 60 #[.slice (some ⟨g2, 0, none⟩) l.length cp, .int .i64 k, .int .i64 ((k : Int) + 1)] W1 fun e w' => ∃ v', e = .returned v' ∧ w'.ownsRow B 84 1 v' (l.length - 1) (chs (l.eraseIdx k)) ∧ W1.grownBy w' (Value.slice (some ⟨g2, 0, none⟩) l.length cp).ownBlock) := delete_ch HO1.out (by have := HN.out; omega) k hlt
      go_wp2_with fail
      refine HDL.out.mono ?_
      rintro e W2 ⟨v', rfl, ho2, hg2⟩
      clear c0 ew HDL
      have HG2 : Hid (W2.heap[G]? = some (.cells #[.slice (some ⟨g2, 0, none⟩) l.length cp] 72 (0, 0))) := grp_apart HG1.out HO1.out hg2
      have HK2 : Hid (Keep B W1 W2) := Keep.grown HO1.out hg2 (Nat.le_trans HBG.out (Nat.le_of_lt (blk_lt HG1.out)))
      have HBW : Hid (B ≤ W2.heap.size) := by
        rcases HO1.out.2 with ⟨h1, _⟩ | ⟨g', cap', cur, _, h2, h3, _⟩
        · cases h1
        · exact Nat.le_trans h2 (Nat.le_trans (Nat.le_of_lt (blk_lt h3)) hg2.size)
      obtain ⟨q', cp', rfl⟩ := own1_slice ho2
      obtain ⟨u3, W3, hr3, ho3, hg3, p3, e3, hs3⟩ := more_row rk70 W2 70 (.chan (some x0)) ho2 rfl (by have := HN.out; omega) HBW.out
      subst hs3
      have HG3 : Hid (W3.heap[G]? = some (.cells #[.slice (some ⟨g2, 0, none⟩) l.length cp] 72 (0, 0))) := grp_apart HG2.out ho2 hg3
      have HK3 : Hid (Keep B W1 W3) := HK2.out.trans (Keep.grown ho2 hg3 HBW.out)
      rw [show l.length - 1 + 1 = l.length by omega, show chs (l.eraseIdx k) ++ [.chan (some x0)] = chs (l.eraseIdx k ++ [x0]) by simp [chs]] at ho3
      have hlen : l.length - 1 + 1 = l.length := by omega
      rw [hlen] at hr3
      have HO3 := Lib.hid ho3
      have HR3 := Lib.hid hr3
      clear ho2 hg2 ho3 hg3 hr3 hlen HO HG HE HO1 HG1
      have c1 := cell_blk HG3.out 0
      have c2 : W3.frozen? ⟨G, 0, none⟩ = false := frozen_blk HG3.out 0
      go_wp2_with (at_builtin; refine Lib.wpList_append_run _ rfl _ _ _ _ rfl (.slice q' (l.length - 1) cp') (.slice (some ⟨W2.heap.size, 0, none⟩) 1 1) rfl rfl _ _ HR3.out ?_)
      refine bodyPost_ret (v := .tuple #[.int .i64 n, .int .i64 k, .bool true]) (by simp [results, Try.results26, go_sem]) rfl ⟨rfl, ?_, _, blk_set HG3.out 0 _, own_other HO3.out HG3.out (by decide) 0 _⟩
      rw [← HW1.out]
      exact HK3.out.trans (Keep.set HG3.out HBG.out 0 _)
end Go.Proofs.Ytgbafpjeapkklaa.Mb
namespace Go.Proofs.Ytgbafpjeapkklaa.Mb
open Go.RowKit
set_option linter.unusedVariables false
set_option linter.unusedSimpArgs false
def nats (l : List Nat) : List Int := l.map fun i : Nat => (i : Int)
structure LR (W : World) (B X : Nat) (most : List Nat) (mail : List (List Int)) (grp : List Nat) (v0 v1 v2 : Value) : Prop where
  var : W.heap[X]? = some (.cells #[v0, v1, v2] 68 (0, 0))
  br : BR W B (.agg #[v0, v1, v2]) (nats most) mail (nats grp)
  le : B ≤ X
structure LP (W : World) (B G : Nat) (most : List Nat) (mail : List (List Int)) (grp ps cs : List Nat) : Prop where
  box : ∀ (i p : Nat), ps[i]? = some p → ∃ c : Nat, cs[i]? = some c ∧ W.heap[p]? = some (.cells #[.chan (some c)] 86 (0, 0))
  chan : ∀ (i c : Nat), cs[i]? = some c → ∃ (m : Nat) (l : List Int) (s r : Nat), most[i]? = some m ∧ mail[i]? = some l ∧ W.heap[c]? = some (.chan m (l.map (Value.int .i64)).toArray false s r false) ∧ B ≤ c ∧ l.length ≤ m ∧ m ≤ 1000
  nd : cs.Nodup
  len : cs.length = ps.length ∧ most.length = ps.length ∧ mail.length = ps.length
  grpv : ∃ gv, W.heap[G]? = some (.cells #[gv] 72 (0, 0)) ∧ W.ownsRow B 84 1 gv grp.length (chs (grp.map fun i => cs.getD i 0))
  lt : ∀ i ∈ grp, i < ps.length
  g64 : grp.length ≤ 64
  le : B ≤ G
theorem BR.kinds {W W' : World} {B : Nat} {b : Value} {most : List Int} {mail : List (List Int)} {grp : List Int} (h : BR W B b most mail grp) (hk : ∀ (g : Nat) (C : Array Value) (e : TypeId) (f : Nat × Nat), e = 3 ∨ e = 30 → W.heap[g]? = some (.cells C e f) → W'.heap[g]? = some (.cells C e f)) : BR W' B b most mail grp := by
  obtain ⟨v0, v1, v2, vs, rfl, h0, h1, h2, h3⟩ := h
  exact ⟨v0, v1, v2, vs, rfl, own_keep h0 fun g C f hg => (hk g C 3 f (.inl rfl) hg).trans hg.symm, own_keep h1 fun g C f hg => (hk g C 30 f (.inr rfl) hg).trans hg.symm, own_keep h2 fun g C f hg => (hk g C 3 f (.inl rfl) hg).trans hg.symm,
    fun i x l hx hl => own_keep (h3 i x l hx hl) fun g C f hg => (hk g C 3 f (.inl rfl) hg).trans hg.symm⟩
section
variable {W W' : World} {B X G : Nat} {most : List Nat} {mail : List (List Int)} {grp ps cs : List Nat} {v0 v1 v2 : Value}
theorem LR.kinds (h : LR W B X most mail grp v0 v1 v2) (hk : ∀ (g : Nat) (C : Array Value) (e : TypeId) (f : Nat × Nat), e = 68 ∨ e = 3 ∨ e = 30 → W.heap[g]? = some (.cells C e f) → W'.heap[g]? = some (.cells C e f)) : LR W' B X most mail grp v0 v1 v2 :=
  ⟨hk X _ 68 _ (.inl rfl) h.var, h.br.kinds fun g C e f he => hk g C e f (.inr he), h.le⟩
theorem LR.below (h : LR W B X most mail grp v0 v1 v2) (hb : Below W.heap.size W W') : LR W' B X most mail grp v0 v1 v2 :=
  h.kinds fun g C e f _ hg => (hb.block g (blk_lt hg)).trans hg
theorem LR.store {most' : List Nat} {mail' : List (List Int)} {grp' : List Nat} (h : LR W B X most mail grp v0 v1 v2) {u0 u1 u2 : Value} (hb : BR W B (.agg #[u0, u1, u2]) (nats most') mail' (nats grp')) (hW : W' = (((W.setCell ⟨X, 0, none⟩ u0).setCell ⟨X, 1, none⟩ u1).setCell ⟨X, 2, none⟩ u2)) :
    LR W' B X most' mail' grp' u0 u1 u2 ∧ Below B W W' ∧ ∀ (g : Nat) (x : Obj), W.heap[g]? = some x → (∀ C f, x ≠ .cells C 68 f) → W'.heap[g]? = some x := by
  have ne : ∀ (g : Nat) (x : Obj), W.heap[g]? = some x → (∀ C f, x ≠ .cells C 68 f) → g ≠ X := fun g x hg hx e => by
    subst e
    rw [h.var] at hg
    injection hg with hg
    exact hx _ _ hg.symm
  have kp : ∀ (g : Nat) (x : Obj), W.heap[g]? = some x → (∀ C f, x ≠ .cells C 68 f) → W'.heap[g]? = some x := fun g x hg hx => by
    subst hW
    exact blk_set_ne (blk_set_ne (blk_set_ne hg ⟨X, 0, none⟩ (ne g x hg hx) _) ⟨X, 1, none⟩ (ne g x hg hx) _) ⟨X, 2, none⟩ (ne g x hg hx) _
  have hv : W'.heap[X]? = some (.cells #[u0, u1, u2] 68 (0, 0)) := by
    have := blk_set (blk_set (blk_set h.var 0 u0) 1 u1) 2 u2
    subst hW
    exact this
  refine ⟨⟨hv, hb.kinds fun g C e f he hg => kp g _ hg fun _ _ e' => (by injection e' with _ e'; subst e'; rcases he with h | h <;> cases h), h.le⟩, ?_, kp⟩
  subst hW
  exact (((Below.refl _ _).setCell (p := ⟨X, 0, none⟩) h.le _).setCell (p := ⟨X, 1, none⟩) h.le _).setCell (p := ⟨X, 2, none⟩) h.le _
theorem LP.kinds (h : LP W B G most mail grp ps cs) (hk : ∀ (g : Nat) (x : Obj), W.heap[g]? = some x → (∀ C e f, x = .cells C e f → e = 86 ∨ e = 72 ∨ e = 84) → W'.heap[g]? = some x) : LP W' B G most mail grp ps cs := by
  refine ⟨fun i p hp => ?_, fun i c hc => ?_, h.nd, h.len, ?_, h.lt, h.g64, h.le⟩
  · obtain ⟨c, h1, h2⟩ := h.box i p hp
    exact ⟨c, h1, hk p _ h2 fun _ _ _ e => by injection e with _ e; exact .inl e.symm⟩
  · obtain ⟨m, l, s, r, h1, h2, h3, h4⟩ := h.chan i c hc
    exact ⟨m, l, s, r, h1, h2, hk c _ h3 fun _ _ _ e => (by cases e), h4⟩
  · obtain ⟨gv, h1, h2⟩ := h.grpv
    exact ⟨gv, hk G _ h1 fun _ _ _ e => by injection e with _ e; exact .inr (.inl e.symm), own_keep h2 fun g C f hg => (hk g _ hg fun _ _ _ e => by injection e with _ e; exact .inr (.inr e.symm)).trans hg.symm⟩
theorem LP.below (h : LP W B G most mail grp ps cs) (hb : Below W.heap.size W W') : LP W' B G most mail grp ps cs :=
  h.kinds fun g x hg _ => (hb.block g (blk_lt hg)).trans hg
theorem LP.off68 (h : LP W B G most mail grp ps cs) (hk : ∀ (g : Nat) (x : Obj), W.heap[g]? = some x → (∀ C f, x ≠ .cells C 68 f) → W'.heap[g]? = some x) : LP W' B G most mail grp ps cs :=
  h.kinds fun g x hg hx => hk g x hg fun C f e => by rcases hx C 68 f e with h | h | h <;> cases h
theorem LP.at (h : LP W B G most mail grp ps cs) {i : Nat} (hi : i < ps.length) : ∃ (p c m : Nat) (l : List Int) (s r : Nat), ps[i]? = some p ∧ cs[i]? = some c ∧ most[i]? = some m ∧ mail[i]? = some l ∧ W.heap[p]? = some (.cells #[.chan (some c)] 86 (0, 0)) ∧ W.heap[c]? = some (.chan m (l.map (Value.int .i64)).toArray false s r false) ∧ B ≤ c ∧ l.length ≤ m ∧ m ≤ 1000 := by
  obtain ⟨c, h1, h2⟩ := h.box i (ps[i]'hi) (by simp)
  obtain ⟨m, l, s, r, h3, h4, h5, h6, h7, h8⟩ := h.chan i c h1
  exact ⟨_, c, m, l, s, r, by simp, h1, h3, h4, h2, h5, h6, h7, h8⟩
theorem LP.put (h : LP W B G most mail grp ps cs) {i c m s r : Nat} {l : List Int} (hc : cs[i]? = some c) (hm : most[i]? = some m) (hl : mail[i]? = some l) (hw : W.heap[c]? = some (.chan m (l.map (Value.int .i64)).toArray false s r false)) (l' : List Int) (hle : l'.length ≤ m) (s' r' : Nat) :
    LP (W.setChan c m (l'.map (Value.int .i64)).toArray false s' r' false) B G most (mail.set i l') grp ps cs := by
  have hil := (List.getElem?_eq_some_iff.1 hl).1
  refine ⟨fun j p hp => ?_, fun j d hd => ?_, h.nd, ⟨h.len.1, h.len.2.1, by rw [List.length_set]; exact h.len.2.2⟩, ?_, h.lt, h.g64, h.le⟩
  · obtain ⟨d, h1, h2⟩ := h.box j p hp
    exact ⟨d, h1, chan_cells hw h2 ..⟩
  · obtain ⟨m', k, s1, r1, h1, h2, h3, h4, h5, h6⟩ := h.chan j d hd
    by_cases hij : i = j
    · subst hij
      rw [hc] at hd
      injection hd with hd
      subst hd
      rw [hm] at h1
      injection h1 with h1
      subst h1
      refine ⟨m, l', s', r', hm, by rw [List.getElem?_set_self hil], ?_, h4, hle, h6⟩
      simp [World.setChan, blk_lt hw]
    · have hcd : c ≠ d := fun e => hij ((List.getElem?_inj (List.getElem?_eq_some_iff.1 hc).1 h.nd).1 (by rw [hc, hd, e]))
      exact ⟨m', k, s1, r1, h1, by rw [List.getElem?_set_ne hij]; exact h2, by rw [setChan_ne _ _ _ _ _ _ _ _ _ hcd]; exact h3, h4, h5, h6⟩
  · obtain ⟨gv, h1, h2⟩ := h.grpv
    exact ⟨gv, chan_cells hw h1 .., own_keep h2 fun g C f hg => (chan_cells hw hg ..).trans hg.symm⟩
theorem LP.group (h : LP W B G most mail grp ps cs) (hk : Keep B W W') {grp' : List Nat} {gv : Value} (h1 : W'.heap[G]? = some (.cells #[gv] 72 (0, 0))) {n : Nat} (hn : n = grp'.length) (h2 : W'.ownsRow B 84 1 gv n (chs (grp'.map fun i => cs.getD i 0))) (hlt : ∀ i ∈ grp', i < ps.length) (h64 : grp'.length ≤ 64) : LP W' B G most mail grp' ps cs := by
  refine ⟨fun j p hp => ?_, fun j d hd => ?_, h.nd, h.len, ⟨gv, h1, hn ▸ h2⟩, hlt, h64, h.le⟩
  · obtain ⟨d, a, b⟩ := h.box j p hp
    exact ⟨d, a, hk.blk p _ b (fun _ _ e => by injection e with _ e; cases e) (fun _ _ e => by injection e with _ e; cases e)⟩
  · obtain ⟨m', k, s1, r1, a, b, c, e⟩ := h.chan j d hd
    exact ⟨m', k, s1, r1, a, b, hk.blk d _ c (fun _ _ e => by cases e) (fun _ _ e => by cases e), e⟩
theorem LP.more (h : LP W B G most mail grp ps cs) (hB : B ≤ W.heap.size) (hcs : ∀ c ∈ cs, c < W.heap.size) {n : Nat} (hn : n ≤ 1000) (hW : W' = (W.alloc (.chan n #[] false 0 0 false)).alloc (Obj.cells #[.chan (some W.heap.size)] 86)) :
    LP W' B G (most ++ [n]) (mail ++ [[]]) grp (ps ++ [W.heap.size + 1]) (cs ++ [W.heap.size]) := by
  have ha : Below W.heap.size W (W.alloc (.chan n #[] false 0 0 false)) := (Below.refl _ _).alloc (Nat.le_refl _) _
  have hb : Below W.heap.size W W' := by rw [hW]; exact ha.alloc ha.size _
  have hc : W'.heap[W.heap.size]? = some (.chan n #[] false 0 0 false) := by
    have h1 := (MapKept.heap_alloc W (.chan n #[] false 0 0 false)).1
    have h2 : Below (W.alloc (.chan n #[] false 0 0 false)).heap.size (W.alloc (.chan n #[] false 0 0 false)) W' := by rw [hW]; exact (Below.refl _ _).alloc (Nat.le_refl _) _
    exact (h2.block _ (blk_lt h1)).trans h1
  have hp : W'.heap[W.heap.size + 1]? = some (.cells #[.chan (some W.heap.size)] 86 (0, 0)) := by
    have h1 := (MapKept.heap_alloc (W.alloc (.chan n #[] false 0 0 false)) (Obj.cells #[.chan (some W.heap.size)] 86)).1
    rw [← hW] at h1
    simpa using h1
  have h' := h.below hb
  obtain ⟨l1, l2, l3⟩ := h.len
  refine ⟨fun j p hj => ?_, fun j d hd => ?_, ?_, by simp; omega, ?_, fun i hi => by have := h.lt i hi; simp; omega, h.g64, h.le⟩
  · rcases Nat.lt_or_ge j ps.length with hlt | hge
    · rw [List.getElem?_append_left hlt] at hj
      obtain ⟨d, a, b⟩ := h'.box j p hj
      exact ⟨d, by rw [List.getElem?_append_left (by omega)]; exact a, b⟩
    · rw [List.getElem?_append_right hge] at hj
      have hj0 : j = ps.length := by have := (List.getElem?_eq_some_iff.1 hj).1; simp at this; omega
      subst hj0
      simp at hj
      subst hj
      exact ⟨W.heap.size, by rw [List.getElem?_append_right (by omega)]; simp [l1], hp⟩
  · rcases Nat.lt_or_ge j cs.length with hlt | hge
    · rw [List.getElem?_append_left hlt] at hd
      obtain ⟨m', k, s1, r1, a, b, c⟩ := h'.chan j d hd
      exact ⟨m', k, s1, r1, by rw [List.getElem?_append_left (by omega)]; exact a, by rw [List.getElem?_append_left (by omega)]; exact b, c⟩
    · rw [List.getElem?_append_right hge] at hd
      have hj0 : j = cs.length := by have := (List.getElem?_eq_some_iff.1 hd).1; simp at this; omega
      subst hj0
      simp at hd
      subst hd
      exact ⟨n, [], 0, 0, by rw [List.getElem?_append_right (by omega)]; simp [l1, l2], by rw [List.getElem?_append_right (by omega)]; simp [l1, l3], hc, hB, by simp, hn⟩
  · rw [List.nodup_append]
    refine ⟨h.nd, by simp, fun a ha b hb e => ?_⟩
    simp at hb
    have := hcs a ha
    omega
  · obtain ⟨gv, a, b⟩ := h'.grpv
    refine ⟨gv, a, ?_⟩
    rw [show (grp.map fun i => (cs ++ [W.heap.size]).getD i 0) = grp.map fun i => cs.getD i 0 from List.map_congr_left fun i hi => by
      have := h.lt i hi
      simp [List.getD, List.getElem?_append_left (by omega : i < cs.length)]]
    exact b
theorem LP.cs_lt (h : LP W B G most mail grp ps cs) : ∀ c ∈ cs, c < W.heap.size := by
  intro c hc
  obtain ⟨i, hi, e⟩ := List.getElem_of_mem hc
  obtain ⟨_, _, _, _, _, _, h3, _⟩ := h.chan i c (by rw [← e]; simp)
  exact blk_lt h3
end
theorem idx_chs {cs grp : List Nat} {n i c : Nat} (hnd : cs.Nodup) (hlen : cs.length = n) (hlt : ∀ j ∈ grp, j < n) (hc : cs[i]? = some c) : idx (fun x => x == c) (grp.map fun j => cs.getD j 0) = gix (nats grp) (i : Int) := by
  have hil := (List.getElem?_eq_some_iff.1 hc).1
  have key : ∀ j ∈ grp, ((cs.getD j 0) == c) = ((j : Int) == (i : Int)) := by
    intro j hj
    have hjn := hlt j hj
    have hcj : cs[j]? = some (cs.getD j 0) := by simp [List.getD, List.getElem?_eq_getElem (by omega : j < cs.length)]
    by_cases e : j = i
    · subst e
      rw [hc] at hcj
      injection hcj with hcj
      rw [← hcj]
      simp
    · have h1 : cs.getD j 0 ≠ c := fun h => e ((List.getElem?_inj (by omega : j < cs.length) hnd).1 (by rw [hcj, hc, h]))
      have h2 : (j : Int) ≠ (i : Int) := by omega
      rw [beq_eq_false_iff_ne.2 h1, beq_eq_false_iff_ne.2 h2]
  unfold gix idx nats
  rw [List.findIdx?_map, List.findIdx?_map]
  have : ∀ (l : List Nat), (∀ j ∈ l, ((cs.getD j 0) == c) = ((j : Int) == (i : Int))) → l.findIdx? ((fun x => x == c) ∘ fun j => cs.getD j 0) = l.findIdx? ((fun x : Int => x == (i : Int)) ∘ fun j : Nat => (j : Int)) := by
    intro l
    induction l with
    | nil => intro _; rfl
    | cons a l ih =>
      intro h
      rw [List.findIdx?_cons, List.findIdx?_cons]
      have ha := h a (List.mem_cons_self ..)
      have hl := ih fun j hj => h j (List.mem_cons_of_mem _ hj)
      rw [hl]
      have e : ((fun x => x == c) ∘ fun j => cs.getD j 0) a = ((fun x : Int => x == (i : Int)) ∘ fun j : Nat => (j : Int)) a := ha
      simp only [e]
  rw [this grp key]
end Go.Proofs.Ytgbafpjeapkklaa.Mb
namespace Go.Proofs.Ytgbafpjeapkklaa.Mb
open Go.RowKit
set_option linter.unusedVariables false
set_option linter.unusedSimpArgs false
def sendS (most : List Nat) (mail : List (List Int)) (i : Nat) (v : Int) : List (List Int) × Int := if (mail.getD i []).length = most.getD i 0 then (mail, 8) else (mail.set i (mail.getD i [] ++ [v]), 0)
def takeS (mail : List (List Int)) (i : Nat) : List (List Int) × Int × Bool := match mail.getD i [] with | [] => (mail, 0, false) | x :: l => (mail.set i l, x, true)
def joinS (grp : List Nat) (i : Nat) : List Nat × Int := match grp.findIdx? (fun x => x == i) with | some _ => (grp, 6) | none => if grp.length = 64 then (grp, 8) else (grp ++ [i], 0)
def dropS (grp : List Nat) (i : Nat) : List Nat × Int := match grp.findIdx? (fun x => x == i) with | some k => (grp.eraseIdx k, 0) | none => (grp, 5)
def nextS (mail : List (List Int)) (grp : List Nat) : List (List Int) × List Nat × Int × Int × Bool := match grp.findIdx? (fun i => !(mail.getD i []).isEmpty) with
  | none => (mail, grp, 0, -1, false)
  | some k => (mail.set (grp.getD k 0) (mail.getD (grp.getD k 0) []).tail, grp.eraseIdx k ++ [grp.getD k 0], (mail.getD (grp.getD k 0) []).headD 0, k, true)
structure PK (B : Nat) (W W' : World) : Prop where
  below : Below B W W'
  cells : ∀ (g : Nat) (C : Array Value) (e : TypeId) (f : Nat × Nat), e ≠ 84 → e ≠ 72 → W.heap[g]? = some (.cells C e f) → W'.heap[g]? = some (.cells C e f)
theorem PK.refl (B : Nat) (W : World) : PK B W W := ⟨Below.refl _ _, fun _ _ _ _ _ _ h => h⟩
theorem PK.trans {B : Nat} {a b c : World} (h : PK B a b) (k : PK B b c) : PK B a c := ⟨h.below.trans k.below, fun g C e f h1 h2 hg => k.cells g C e f h1 h2 (h.cells g C e f h1 h2 hg)⟩
theorem PK.keep {B : Nat} {W W' : World} (h : Keep B W W') : PK B W W' := ⟨h.below, fun g C e f h1 h2 hg => h.blk g _ hg (fun _ _ e' => by injection e' with _ e'; exact h1 e') (fun _ _ e' => by injection e' with _ e'; exact h2 e')⟩
theorem PK.chan {B : Nat} {W : World} {c cap s r : Nat} {buf : Array Value} {cl tm : Bool} (hc : W.heap[c]? = some (.chan cap buf cl s r tm)) (hB : B ≤ c) (cap' : Nat) (buf' : Array Value) (cl' : Bool) (s' r' : Nat) (tm' : Bool) : PK B W (W.setChan c cap' buf' cl' s' r' tm') := by
  refine ⟨⟨rfl, rfl, rfl, by simp [World.setChan], fun k hk => setChan_ne _ _ _ _ _ _ _ _ _ (by omega)⟩, fun g C e f _ _ hg => chan_cells hc hg ..⟩
theorem LR.pk {W W' : World} {B X : Nat} {most : List Nat} {mail : List (List Int)} {grp : List Nat} {v0 v1 v2 : Value} (h : LR W B X most mail grp v0 v1 v2) (hk : PK B W W') : LR W' B X most mail grp v0 v1 v2 :=
  h.kinds fun g C e f he hg => hk.cells g C e f (by rcases he with rfl | rfl | rfl <;> decide) (by rcases he with rfl | rfl | rfl <;> decide) hg
section
variable {W : World} {B G : Nat} {most : List Nat} {mail : List (List Int)} {grp ps cs : List Nat}
theorem getD_of {α : Type} {l : List α} {i : Nat} {x d : α} (h : l[i]? = some x) : l.getD i d = x := by simp [List.getD, h]
theorem gsend (h : LP W B G most mail grp ps cs) {i p c : Nat} (hc : cs[i]? = some c) (hp : W.cell? ⟨p, 0, none⟩ = some (.chan (some c))) (v : Int) :
    Calls Try.prog 29 #[.pointer (some ⟨p, 0, none⟩), .int .i64 v] W fun e w' => e = .returned (.int .i64 (sendS most mail i v).2) ∧ PK B W w' ∧ LP w' B G most (sendS most mail i v).1 grp ps cs := by
  obtain ⟨m, l, s, r, hm, hl, hw, hB, hle, hm1⟩ := h.chan i c hc
  unfold sendS
  rw [getD_of hm, getD_of hl]
  by_cases e : l.length = m
  · rw [if_pos e]
    refine (send_full W hp hw (by omega)).mono ?_
    rintro x w' ⟨rfl, rfl⟩
    exact ⟨rfl, PK.refl _ _, h⟩
  · rw [if_neg e]
    refine (send_room W hp hw (by omega)).mono ?_
    rintro x w' ⟨rfl, rfl⟩
    exact ⟨rfl, PK.chan hw hB .., h.put hc hm hl hw (l ++ [v]) (by simp; omega) _ _⟩
theorem gtake (h : LP W B G most mail grp ps cs) {i p c : Nat} (hc : cs[i]? = some c) (hp : W.cell? ⟨p, 0, none⟩ = some (.chan (some c))) :
    Calls Try.prog 30 #[.pointer (some ⟨p, 0, none⟩)] W fun e w' => e = .returned (.tuple #[.int .i64 (takeS mail i).2.1, .bool (takeS mail i).2.2]) ∧ PK B W w' ∧ LP w' B G most (takeS mail i).1 grp ps cs := by
  obtain ⟨m, l, s, r, hm, hl, hw, hB, hle, hm1⟩ := h.chan i c hc
  unfold takeS
  rw [getD_of hl]
  cases l with
  | nil =>
    refine (takeB_none W hp hw).mono ?_
    rintro x w' ⟨rfl, rfl⟩
    exact ⟨rfl, PK.refl _ _, h⟩
  | cons a l =>
    refine (takeB_some W hp hw).mono ?_
    rintro x w' ⟨rfl, rfl⟩
    exact ⟨rfl, PK.chan hw hB .., h.put hc hm hl hw l (by simp at hle; omega) _ _⟩
theorem glen (h : LP W B G most mail grp ps cs) {i p c : Nat} (hc : cs[i]? = some c) (hp : W.cell? ⟨p, 0, none⟩ = some (.chan (some c))) :
    Calls Try.prog 38 #[.pointer (some ⟨p, 0, none⟩)] W fun e w' => e = .returned (.int .i64 ((mail.getD i []).length : Int)) ∧ w' = W := by
  obtain ⟨m, l, s, r, hm, hl, hw, hB, hle, hm1⟩ := h.chan i c hc
  rw [getD_of hl]
  exact len_some W hp hw
theorem gidx (h : LP W B G most mail grp ps cs) {i p c : Nat} (hc : cs[i]? = some c) (hp : W.cell? ⟨p, 0, none⟩ = some (.chan (some c))) :
    Calls Try.prog 36 #[.pointer (some ⟨G, 0, none⟩), .pointer (some ⟨p, 0, none⟩)] W fun e w' => e = .returned (.int .i64 (gix (nats grp) (i : Int))) ∧ w' = W := by
  obtain ⟨gv, hG, ho⟩ := h.grpv
  have := gindex (l := grp.map fun j => cs.getD j 0) W (by rw [List.length_map]; exact h.g64) (cell_blk hG 0) (by rw [List.length_map]; exact ho) hp
  rwa [idx_chs h.nd h.len.1 h.lt hc] at this
theorem gix_nats (grp : List Nat) (i : Nat) : gix (nats grp) (i : Int) = match grp.findIdx? (fun x => x == i) with | some k => (k : Int) | none => -1 := by
  unfold gix idx nats
  rw [List.findIdx?_map]
  have e : ((fun x : Int => x == (i : Int)) ∘ fun j : Nat => (j : Int)) = fun x => x == i := by
    funext j
    simp only [Function.comp]
    rw [Bool.eq_iff_iff, beq_iff_eq, beq_iff_eq]
    omega
  rw [e]
  cases grp.findIdx? (fun x => x == i) <;> rfl
theorem map_eraseIdx' {α β : Type} (f : α → β) (l : List α) (k : Nat) : (l.eraseIdx k).map f = (l.map f).eraseIdx k := by
  rw [List.eraseIdx_eq_take_drop_succ, List.eraseIdx_eq_take_drop_succ, List.map_append, List.map_take, List.map_drop]
theorem gjoin (h : LP W B G most mail grp ps cs) {i p c : Nat} (hi : i < ps.length) (hc : cs[i]? = some c) (hp : W.cell? ⟨p, 0, none⟩ = some (.chan (some c))) :
    Calls Try.prog 33 #[.pointer (some ⟨G, 0, none⟩), .pointer (some ⟨p, 0, none⟩)] W fun e w' => e = .returned (.int .i64 (joinS grp i).2) ∧ PK B W w' ∧ LP w' B G most mail (joinS grp i).1 ps cs := by
  obtain ⟨gv, hG, ho⟩ := h.grpv
  have hlen : (grp.map fun j => cs.getD j 0).length = grp.length := List.length_map _
  have ho' : W.ownsRow B 84 1 gv (grp.map fun j => cs.getD j 0).length (chs (grp.map fun j => cs.getD j 0)) := by rw [hlen]; exact ho
  have hix := idx_chs h.nd h.len.1 h.lt hc
  rw [gix_nats] at hix
  unfold joinS
  cases hf : grp.findIdx? (fun x => x == i) with
  | some k =>
    rw [hf] at hix
    refine (gjoin_twice W hG ho' hp (by rw [hlen]; exact h.g64) hix).mono ?_
    rintro x w' ⟨rfl, rfl⟩
    exact ⟨rfl, PK.refl _ _, h⟩
  | none =>
    rw [hf] at hix
    by_cases e : grp.length = 64
    · simp only [if_pos e]
      refine (gjoin_full W hG ho' hp (by rw [hlen]; exact h.g64) (by rw [hlen]; exact e) hix).mono ?_
      rintro x w' ⟨rfl, rfl⟩
      exact ⟨rfl, PK.refl _ _, h⟩
    · simp only [if_neg e]
      have h64 := h.g64
      refine (gjoin_yes W hG ho' hp h.le (by rw [hlen]; exact h.g64) (by rw [hlen]; omega) hix).mono ?_
      rintro x w' ⟨rfl, hk, gv', hG', ho2⟩
      refine ⟨rfl, PK.keep hk, h.group hk hG' (n := (grp.map fun j => cs.getD j 0).length + 1) (by rw [hlen]; simp) (by rw [List.map_append, List.map_singleton, getD_of hc]; exact ho2) (fun j hj => ?_) (by simp; omega)⟩
      rcases List.mem_append.1 hj with hj | hj
      · exact h.lt j hj
      · simp at hj; subst hj; exact hi
theorem gdrop (h : LP W B G most mail grp ps cs) {i p c : Nat} (hc : cs[i]? = some c) (hp : W.cell? ⟨p, 0, none⟩ = some (.chan (some c))) :
    Calls Try.prog 35 #[.pointer (some ⟨G, 0, none⟩), .pointer (some ⟨p, 0, none⟩)] W fun e w' => e = .returned (.int .i64 (dropS grp i).2) ∧ PK B W w' ∧ LP w' B G most mail (dropS grp i).1 ps cs := by
  obtain ⟨gv, hG, ho⟩ := h.grpv
  have hlen : (grp.map fun j => cs.getD j 0).length = grp.length := List.length_map _
  have ho' : W.ownsRow B 84 1 gv (grp.map fun j => cs.getD j 0).length (chs (grp.map fun j => cs.getD j 0)) := by rw [hlen]; exact ho
  have hix := idx_chs h.nd h.len.1 h.lt hc
  rw [gix_nats] at hix
  unfold dropS
  cases hf : grp.findIdx? (fun x => x == i) with
  | some k =>
    rw [hf] at hix
    have hk := (List.findIdx?_eq_some_iff_getElem.1 hf).1
    have h64 := h.g64
    refine (gdrop_yes W hG ho' hp h.le (by rw [hlen]; exact h.g64) (k := k) (by rw [hlen]; exact hk) hix).mono ?_
    rintro x w' ⟨rfl, hkp, gv', hG', ho2⟩
    refine ⟨rfl, PK.keep hkp, h.group hkp hG' (n := (grp.map fun j => cs.getD j 0).length - 1) (by show _ = (grp.eraseIdx k).length; rw [hlen, List.length_eraseIdx, if_pos hk]) (by show World.ownsRow _ _ _ _ _ _ (chs ((grp.eraseIdx k).map _)); rw [map_eraseIdx']; exact ho2) (fun j hj => h.lt j (List.mem_of_mem_eraseIdx hj)) (by show (grp.eraseIdx k).length ≤ 64; rw [List.length_eraseIdx, if_pos hk]; omega)⟩
  | none =>
    rw [hf] at hix
    refine (gdrop_no W hG ho' hp (by rw [hlen]; exact h.g64) hix).mono ?_
    rintro x w' ⟨rfl, rfl⟩
    exact ⟨rfl, PK.refl _ _, h⟩
end
end Go.Proofs.Ytgbafpjeapkklaa.Mb
namespace Go.Proofs.Ytgbafpjeapkklaa.Mb
open Go.RowKit
set_option linter.unusedVariables false
set_option linter.unusedSimpArgs false
section
variable {W : World} {B G : Nat} {most : List Nat} {mail : List (List Int)} {grp ps cs : List Nat}
theorem gnext (h : LP W B G most mail grp ps cs) :
    Calls Try.prog 26 #[.pointer (some ⟨G, 0, none⟩)] W fun e w' => e = .returned (.tuple #[.int .i64 (nextS mail grp).2.2.1, .int .i64 (nextS mail grp).2.2.2.1, .bool (nextS mail grp).2.2.2.2]) ∧ PK B W w' ∧ LP w' B G most (nextS mail grp).1 (nextS mail grp).2.1 ps cs := by
  obtain ⟨gv, hG, ho⟩ := h.grpv
  have hlen : (grp.map fun j => cs.getD j 0).length = grp.length := List.length_map _
  have ho' : W.ownsRow B 84 1 gv (grp.map fun j => cs.getD j 0).length (chs (grp.map fun j => cs.getD j 0)) := by rw [hlen]; exact ho
  have key : ∀ (j : Nat), j < grp.length → ∃ (i c m : Nat) (l : List Int) (s r : Nat), grp[j]? = some i ∧ (grp.map fun j => cs.getD j 0)[j]? = some c ∧ cs[i]? = some c ∧ most[i]? = some m ∧ mail[i]? = some l ∧ W.heap[c]? = some (.chan m (l.map (Value.int .i64)).toArray false s r false) ∧ B ≤ c ∧ l.length ≤ m := by
    intro j hj
    have hi := h.lt _ (List.getElem_mem hj)
    obtain ⟨p, c, m, l, s, r, _, hc, hm, hl, _, hw, hB, hle, _⟩ := h.at hi
    exact ⟨grp[j], c, m, l, s, r, by simp, by rw [List.getElem?_map, List.getElem?_eq_getElem hj]; simp [List.getD, hc], hc, hm, hl, hw, hB, hle⟩
  unfold nextS
  cases hf : grp.findIdx? (fun i => !(mail.getD i []).isEmpty) with
  | none =>
    refine (gnext_none W hG ho' (by rw [hlen]; exact h.g64) fun j c hc => ?_).mono ?_
    · have hj : j < grp.length := by have := (List.getElem?_eq_some_iff.1 hc).1; rwa [hlen] at this
      obtain ⟨i, c', m, l, s, r, hi, hc', _, hm, hl, hw, _⟩ := key j hj
      rw [hc] at hc'
      injection hc' with hc'
      subst hc'
      have := List.findIdx?_eq_none_iff.1 hf i (List.mem_of_getElem? hi)
      rw [getD_of hl] at this
      have hl0 : l = [] := by simpa using this
      subst hl0
      exact ⟨m, s, r, hw⟩
    · rintro x w' ⟨rfl, rfl⟩
      exact ⟨rfl, PK.refl _ _, h⟩
  | some k =>
    obtain ⟨hk, h1, h2⟩ := List.findIdx?_eq_some_iff_getElem.1 hf
    obtain ⟨i, c, m, l, s, r, hi, hc, hci, hm, hl, hw, hB, hle⟩ := key k hk
    have hig : grp[k] = i := by rw [List.getElem?_eq_getElem hk] at hi; injection hi
    rw [hig, getD_of hl] at h1
    obtain ⟨n, row, rfl⟩ : ∃ n row, l = n :: row := by
      cases l with
      | nil => simp at h1
      | cons n row => exact ⟨n, row, rfl⟩
    have h64 := h.g64
    refine (gnext_some W hG ho' (by rw [hlen]; exact h.g64) h.le hc hw fun j c' hj hc' => ?_).mono ?_
    · obtain ⟨i', c2, m', l', s', r', hi', hc2, _, hm', hl', hw', _⟩ := key j (by omega)
      rw [hc'] at hc2
      injection hc2 with hc2
      subst hc2
      have := h2 j hj
      have hig' : grp[j] = i' := by rw [List.getElem?_eq_getElem (by omega)] at hi'; injection hi'
      rw [hig', getD_of hl'] at this
      have hl0 : l' = [] := by simpa using this
      subst hl0
      exact ⟨m', s', r', hw'⟩
    · rintro x w' ⟨rfl, hkp, gv', hG', ho2⟩
      have hgk : grp.getD k 0 = i := getD_of hi
      simp only [hgk, getD_of hl, List.tail_cons, List.headD_cons]
      have hput := h.put hci hm hl hw row (by simp at hle; omega) s (r + 1)
      have hlt' : i < ps.length := by rw [← hig]; exact h.lt _ (List.getElem_mem hk)
      refine ⟨by first | trivial | rfl, (PK.chan hw hB ..).trans (PK.keep hkp), hput.group hkp hG' (n := (grp.map fun j => cs.getD j 0).length) (by simp [List.length_eraseIdx, if_pos hk]; omega) (by rw [List.map_append, List.map_singleton, getD_of hci, map_eraseIdx']; exact ho2) (fun j hj => ?_) (by simp [List.length_eraseIdx, if_pos hk]; omega)⟩
      rcases List.mem_append.1 hj with hj | hj
      · exact h.lt j (List.mem_of_mem_eraseIdx hj)
      · simp at hj; subst hj; exact hlt'
end
structure LL (most : List Nat) (mail : List (List Int)) (grp : List Nat) : Prop where
  len : most.length = mail.length
  few : mail.length ≤ 1000
  row : ∀ (i m : Nat) (l : List Int), most[i]? = some m → mail[i]? = some l → l.length ≤ m ∧ m ≤ 1000
  lt : ∀ i ∈ grp, i < mail.length
  g64 : grp.length ≤ 64
theorem nats_at {l : List Nat} {i m : Nat} (h : l[i]? = some m) : (nats l)[i]? = some (m : Int) := by simp [nats, h]
theorem nats_len (l : List Nat) : (nats l).length = l.length := by simp [nats]
section
variable {W : World} {B : Nat} {b : Value} {most : List Nat} {mail : List (List Int)} {grp : List Nat}
theorem LL.at (h : LL most mail grp) {i : Nat} (hi : i < mail.length) : ∃ m l, most[i]? = some m ∧ mail[i]? = some l ∧ l.length ≤ m ∧ m ≤ 1000 := by
  have h1 : most[i]? = some (most[i]'(by rw [h.len]; exact hi)) := by simp
  have h2 : mail[i]? = some (mail[i]'hi) := by simp
  exact ⟨_, _, h1, h2, h.row i _ _ h1 h2⟩
theorem rsend (h : LL most mail grp) (hb : BR W B b (nats most) mail (nats grp)) (hB : B ≤ W.heap.size) {i : Nat} (hi : i < mail.length) (v : Int) :
    Calls Try.prog 28 #[b, .int .i64 i, .int .i64 v] W fun e w' => ∃ b', e = .returned (.tuple #[b', .int .i64 (sendS most mail i v).2]) ∧ BR w' B b' (nats most) (sendS most mail i v).1 (nats grp) ∧ Below W.heap.size W w' := by
  obtain ⟨m, l, hm, hl, hle, hm1⟩ := h.at hi
  unfold sendS
  rw [getD_of hm, getD_of hl]
  by_cases e : l.length = m
  · rw [if_pos e]
    refine (rsend_no W hb (nats_at hm) hl (by omega)).mono ?_
    rintro x w' ⟨rfl, hw⟩
    exact ⟨b, rfl, BR.below hb hw, hw⟩
  · rw [if_neg e]
    exact rsend_yes W hb hB (by omega) h.few (nats_at hm) hl (by omega)
theorem rtake (h : LL most mail grp) (hb : BR W B b (nats most) mail (nats grp)) (hB : B ≤ W.heap.size) {i : Nat} (hi : i < mail.length) :
    Calls Try.prog 31 #[b, .int .i64 i] W fun e w' => ∃ b', e = .returned (.tuple #[b', .int .i64 (takeS mail i).2.1, .bool (takeS mail i).2.2]) ∧ BR w' B b' (nats most) (takeS mail i).1 (nats grp) ∧ Below W.heap.size W w' := by
  obtain ⟨m, l, hm, hl, hle, hm1⟩ := h.at hi
  unfold takeS
  rw [getD_of hl]
  cases l with
  | nil =>
    refine (rtake_no W hb (by rw [nats_len]; exact h.len) hl rfl).mono ?_
    rintro x w' ⟨rfl, hw⟩
    exact ⟨b, rfl, BR.below hb hw, hw⟩
  | cons a l => exact rtake_yes W hb hB (by rw [nats_len]; exact h.len) (by simp at hle; omega) h.few hl
theorem rjoin (h : LL most mail grp) (hb : BR W B b (nats most) mail (nats grp)) (hB : B ≤ W.heap.size) (i : Nat) :
    Calls Try.prog 32 #[b, .int .i64 i] W fun e w' => ∃ b', e = .returned (.tuple #[b', .int .i64 (joinS grp i).2]) ∧ BR w' B b' (nats most) mail (nats (joinS grp i).1) ∧ Below W.heap.size W w' := by
  have hg : (nats grp).length ≤ 64 := by rw [nats_len]; exact h.g64
  have hix := gix_nats grp i
  unfold joinS
  cases hf : grp.findIdx? (fun x => x == i) with
  | some k =>
    rw [hf] at hix
    refine (rjoin_twice W hb hg hix).mono ?_
    rintro x w' ⟨rfl, hw⟩
    exact ⟨b, rfl, BR.below hb hw, hw⟩
  | none =>
    rw [hf] at hix
    by_cases e : grp.length = 64
    · simp only [if_pos e]
      refine (rjoin_full W hb (by rw [nats_len]; exact e) hix).mono ?_
      rintro x w' ⟨rfl, hw⟩
      exact ⟨b, rfl, BR.below hb hw, hw⟩
    · simp only [if_neg e]
      have := h.g64
      rw [show nats (grp ++ [i]) = nats grp ++ [(i : Int)] by simp [nats]]
      exact rjoin_yes W hb hB (by rw [nats_len]; omega) hix
theorem rdrop (h : LL most mail grp) (hb : BR W B b (nats most) mail (nats grp)) (hB : B ≤ W.heap.size) (i : Nat) :
    Calls Try.prog 34 #[b, .int .i64 i] W fun e w' => ∃ b', e = .returned (.tuple #[b', .int .i64 (dropS grp i).2]) ∧ BR w' B b' (nats most) mail (nats (dropS grp i).1) ∧ Below W.heap.size W w' := by
  have hg : (nats grp).length ≤ 64 := by rw [nats_len]; exact h.g64
  have hix := gix_nats grp i
  unfold dropS
  cases hf : grp.findIdx? (fun x => x == i) with
  | some k =>
    rw [hf] at hix
    obtain ⟨hk, h1, _⟩ := List.findIdx?_eq_some_iff_getElem.1 hf
    have hki : grp[k]? = some i := by rw [List.getElem?_eq_getElem hk, beq_iff_eq.1 h1]
    have e : nats (grp.eraseIdx k) = (nats grp).take k ++ (nats grp).drop (k + 1) := by
      show (grp.eraseIdx k).map _ = _
      rw [map_eraseIdx', List.eraseIdx_eq_take_drop_succ]
      rfl
    show Calls Try.prog 34 _ _ fun e w' => ∃ b', _ ∧ BR w' B b' (nats most) mail (nats (grp.eraseIdx k)) ∧ _
    rw [e]
    exact rdrop_yes W hb hB hg (nats_at hki) hix
  | none =>
    rw [hf] at hix
    refine (rdrop_no W hb hg hix).mono ?_
    rintro x w' ⟨rfl, hw⟩
    exact ⟨b, rfl, BR.below hb hw, hw⟩
theorem rnext (h : LL most mail grp) (hb : BR W B b (nats most) mail (nats grp)) (hB : B ≤ W.heap.size) :
    Calls Try.prog 27 #[b] W fun e w' => ∃ b', e = .returned (.tuple #[b', .int .i64 (nextS mail grp).2.2.1, .int .i64 (nextS mail grp).2.2.2.1, .bool (nextS mail grp).2.2.2.2]) ∧ BR w' B b' (nats most) (nextS mail grp).1 (nats (nextS mail grp).2.1) ∧ Below W.heap.size W w' := by
  have hg : (nats grp).length ≤ 64 := by rw [nats_len]; exact h.g64
  have hv : ∀ k, k < (nats grp).length → ∃ (m : Nat) (l0 : List Int), (nats grp)[k]? = some (m : Int) ∧ mail[m]? = some l0 := by
    intro k hk
    rw [nats_len] at hk
    have hi := h.lt _ (List.getElem_mem hk)
    exact ⟨grp[k], mail[grp[k]]'hi, nats_at (by simp), by simp⟩
  have un : ∀ {k m : Nat}, (nats grp)[k]? = some (m : Int) → grp[k]? = some m := by
    intro k m hk
    simp only [nats, List.getElem?_map, Option.map_eq_some_iff] at hk
    obtain ⟨a, ha, e⟩ := hk
    rw [ha]
    congr 1
    omega
  unfold nextS
  cases hf : grp.findIdx? (fun i => !(mail.getD i []).isEmpty) with
  | none =>
    refine (rnext_none W hb hB hg hv fun k m l0 hk hl => ?_).mono ?_
    · have := List.findIdx?_eq_none_iff.1 hf m (List.mem_of_getElem? (un hk))
      rw [getD_of hl] at this
      simpa using this
    · rintro x w' ⟨rfl, hw⟩
      exact ⟨b, rfl, BR.below hb hw, hw⟩
  | some k =>
    obtain ⟨hk, h1, h2⟩ := List.findIdx?_eq_some_iff_getElem.1 hf
    obtain ⟨i, hi⟩ : ∃ i, grp[k] = i := ⟨_, rfl⟩
    have hki : grp[k]? = some i := by rw [List.getElem?_eq_getElem hk, hi]
    have hil : i < mail.length := by rw [← hi]; exact h.lt _ (List.getElem_mem hk)
    obtain ⟨m, l, hm, hl, hle, hm1⟩ := h.at hil
    rw [hi, getD_of hl] at h1
    obtain ⟨n, row, rfl⟩ : ∃ n row, l = n :: row := by
      cases l with
      | nil => simp at h1
      | cons n row => exact ⟨n, row, rfl⟩
    simp only [getD_of hki, getD_of hl, List.tail_cons, List.headD_cons]
    have e : nats (grp.eraseIdx k ++ [i]) = (nats grp).take k ++ (nats grp).drop (k + 1) ++ [(i : Int)] := by
      show (grp.eraseIdx k ++ [i]).map _ = _
      rw [List.map_append, map_eraseIdx', List.eraseIdx_eq_take_drop_succ]
      rfl
    rw [e]
    refine rnext_some W hb hB hg hv (by rw [nats_len]; exact h.len) (by simp at hle; omega) h.few (nats_at hki) hl fun j m' l0 hj hm' hl' => ?_
    have := h2 j hj
    have hjm := un hm'
    rw [List.getElem?_eq_getElem (by omega)] at hjm
    injection hjm with hjm
    rw [hjm, getD_of hl'] at this
    simpa using this
end
end Go.Proofs.Ytgbafpjeapkklaa.Mb
namespace Go.Proofs.Ytgbafpjeapkklaa.Mb
open Go.RowKit Go.Shelf
set_option linter.unusedVariables false
set_option linter.unusedSimpArgs false
section
variable {F : Fence} {n : Nat} {P : Program} {ops : Array Oper} {Q : Exit → Act → World → Prop}
theorem wpAnyIn_inv2 (hback : ∀ (i : Nat) (o : Oper), ops[i]? = some o → ∀ e ∈ o.after, Region.binds .any e = true → e.on < i)
    (I : (Nat → Bool) → Act → World → Prop)
    (step : ∀ (i : Nat) (o : Oper), ops[i]? = some o → ∀ (S : Nat → Bool) a w, I S a w → S i = false → (∀ e ∈ o.after, Region.binds .any e = true → S e.on = true) →
      wpOpIn F n P ops Q i (I fun j => j == i || S j) a w)
    (done : ∀ S a w, I S a w → (∀ i, i < ops.size → S i = true) → Q .normal a w) :
    ∀ (fuel : Nat) (listed : Array Bool) a w, listed.size = ops.size → left ops listed ≤ fuel → I (fun j => listed.getD j true) a w → wpAnyIn F n P .any ops Q fuel listed a w := by
  have hall : ∀ listed : Array Bool, listed.size = ops.size → Region.ready .any ops listed = [] → ∀ i, i < ops.size → listed.getD i true = true := by
    intro listed hsz hr i
    induction i using Nat.strongRecOn with
    | ind i ih =>
      intro hi
      cases hl : listed.getD i true with
      | true => rfl
      | false =>
        exfalso
        have : i ∈ Region.ready .any ops listed := by
          rw [mem_ready]
          refine ⟨hl, ops[i], by simp [hi], fun e he hb => ?_⟩
          have hlt := hback i ops[i] (by simp [hi]) e he hb
          have := ih e.on hlt (by omega)
          simp [show e.on < listed.size by omega] at this ⊢
          exact this
        rw [hr] at this
        cases this
  intro fuel
  induction fuel with
  | zero =>
    intro listed a w hsz hleft hI
    have hr : Region.ready .any ops listed = [] := by
      rw [List.eq_nil_iff_forall_not_mem]
      intro j hj
      obtain ⟨h0, o, ho, _⟩ := mem_ready.1 hj
      have hlt := (Array.getElem?_eq_some_iff.1 ho).1
      have := left_set hlt h0
      omega
    exact ⟨hr, done _ a w hI (hall listed hsz hr)⟩
  | succ fuel ih =>
    intro listed a w hsz hleft hI
    refine ⟨fun hr => done _ a w hI (hall listed hsz hr), fun i hi => ?_⟩
    obtain ⟨h0, o, ho, hdep⟩ := mem_ready.1 hi
    have hlt := (Array.getElem?_eq_some_iff.1 ho).1
    have hs := step i o ho _ a w hI h0 (fun e he hb => by
      have h := hdep e he hb
      have hel := hback i o ho e he hb
      simp [show e.on < listed.size by omega] at h ⊢
      exact h)
    refine wpOpIn_mono (fun a' w' h' => ih _ a' w' (by simp [hsz]) (by have := left_set hlt h0; omega) ?_) hs
    have e : (fun j => (listed.setIfInBounds i true).getD j true) = fun j => j == i || listed.getD j true := by
      funext j
      by_cases hj : i = j
      · subst hj; simp [show i < listed.size by omega]
      · rw [getD_set_ne true hj]
        have : (j == i) = false := by simp; omega
        simp [this]
    rw [e]
    exact h'
theorem wpIn_region_inv2 {id : Nat} {a : Act} {w : World} (hm : P.follows .mixedOrders = true) (hback : ∀ (i : Nat) (o : Oper), ops[i]? = some o → ∀ e ∈ o.after, Region.binds .any e = true → e.on < i)
    (I : (Nat → Bool) → Act → World → Prop) (h0 : ∀ S, (∀ i, i < ops.size → S i = false) → I S a w.drew)
    (step : ∀ (i : Nat) (o : Oper), ops[i]? = some o → ∀ (S : Nat → Bool) a w, I S a w → S i = false → (∀ e ∈ o.after, Region.binds .any e = true → S e.on = true) →
      wpOpIn F n P ops Q i (I fun j => j == i || S j) a w)
    (done : ∀ S a w, I S a w → (∀ i, i < ops.size → S i = true) → Q .normal a w) : (Code.region id ops true).wpIn F n P Q a w := by
  refine wpIn_region_any hm ?_
  refine wpAnyIn_inv2 hback I step done _ _ _ _ (by simp) ?_ (h0 _ fun i hi => by simp [hi])
  exact Nat.le_trans List.countP_le_length (by simp)
theorem wpIn_region_cl2 {id : Nat} {a : Act} {w : World} (hm : P.follows .mixedOrders = true) (hback : ∀ (i : Nat) (o : Oper), ops[i]? = some o → ∀ e ∈ o.after, Region.binds .any e = true → e.on < i)
    (I : (Nat → Bool) → Act → World → Prop) (h0 : ∀ S, (∀ i, i < ops.size → S i = false) → I S a w.drew)
    (step : ∀ (i : Nat) (o : Oper), ops[i]? = some o → ∀ (S : Nat → Bool) a w, I S a w → S i = false → (∀ e ∈ o.after, Region.binds .any e = true → S e.on = true) → Closed ops S →
      wpOpIn F n P ops Q i (I fun j => j == i || S j) a w)
    (done : ∀ S a w, I S a w → (∀ i, i < ops.size → S i = true) → Q .normal a w) : (Code.region id ops true).wpIn F n P Q a w := by
  refine wpIn_region_inv2 hm hback (fun S a w => I S a w ∧ Closed ops S) (fun S hS => ⟨h0 S hS, fun j p hp t => ?_⟩) (fun i o ho S a w hI hS hd => ?_) (fun S a w hI hall => done S a w hI.1 hall)
  · have := (Array.getElem?_eq_some_iff.1 hp).1
    rw [hS j this] at t; cases t
  · have hc : Closed ops (fun j => j == i || S j) := by
      intro j p hp t e he hb
      show (e.on == i || S e.on) = true
      by_cases hji : j = i
      · subst hji
        rw [ho] at hp
        injection hp with hp
        subst hp
        rw [hd e he hb, Bool.or_true]
      · have t' : S j = true := by
          have this : (j == i || S j) = true := t
          rwa [d_other hji] at this
        rw [hI.2 j p hp t' e he hb, Bool.or_true]
    have h := step i o ho S a w hI.1 hS hd hI.2
    refine wpOpIn_step ho fun K hK => ?_
    unfold wpOpIn at h
    rw [ho] at h
    dsimp only at h
    split
    · rename_i hw
      rw [if_pos hw] at h
      exact Oper.wpIn_mono (fun a w k => hK a w ⟨k, hc⟩) h
    · rename_i hw
      rw [if_neg hw] at h
      exact ⟨h.1, hK _ _ ⟨h.2, hc⟩⟩
end
theorem back_of2 {ops : Array Oper} (h : ((List.range ops.size).all fun i => ((ops[i]?).map fun o => o.after.all fun e => !Region.binds .any e || decide (e.on < i)).getD true) = true) : ∀ (i : Nat) (o : Oper), ops[i]? = some o → ∀ e ∈ o.after, Region.binds .any e = true → e.on < i := by
  intro i o ho e he hb
  have hlt := (Array.getElem?_eq_some_iff.1 ho).1
  have := List.all_eq_true.1 h i (by simpa using hlt)
  rw [ho] at this
  simp only [Option.map_some, Option.getD_some, Array.all_eq_true_iff_forall_mem] at this
  simpa [hb] using this e he
end Go.Proofs.Ytgbafpjeapkklaa.Mb
namespace Go.Proofs.Ytgbafpjeapkklaa.Mb
open Go.RowKit Go.ChangeShapes
set_option linter.unusedVariables false
set_option linter.unusedSimpArgs false
abbrev OpG := Int × Int × Int × Bool
structure OpT (W : World) (A : Option Addr) (l : List OpG) : Prop where
  at' : ∀ (k : Nat) (o : OpG), l[k]? = some o → ∃ g off, A = some ⟨g, off, none⟩ ∧ g < W.heap.size ∧ W.cell? ⟨g, off + k * 4, none⟩ = some (.int .u8 o.1) ∧ W.cell? ⟨g, off + k * 4 + 1, none⟩ = some (.int .u8 o.2.1) ∧ W.cell? ⟨g, off + k * 4 + 2, none⟩ = some (.int .i16 o.2.2.1) ∧ W.cell? ⟨g, off + k * 4 + 3, none⟩ = some (.bool o.2.2.2)
  rng : ∀ (k : Nat) (o : OpG), l[k]? = some o → (0 ≤ o.1 ∧ o.1 ≤ 255) ∧ (0 ≤ o.2.1 ∧ o.2.1 ≤ 255) ∧ -32768 ≤ o.2.2.1 ∧ o.2.2.1 ≤ 32767
theorem cw74 : Try.prog.cellsOf 74 = 4 := by kernel_rfl
theorem cw4 : Try.prog.cellsOf 4 = 1 := by kernel_rfl
theorem cw5 : Try.prog.cellsOf 5 = 1 := by kernel_rfl
theorem cw31 : Try.prog.cellsOf 31 = 1 := by kernel_rfl
set_option maxRecDepth 100000 in
theorem bops_of {H : Type} {enc : TypeId × Value → H} {W : World} {v : Value} {d : DataW H} {ps : List MemPlace} {r : Reach} {b0 : Nat} (hval : Value.okWide Try.prog W r b0 64 v) (h : DataW.Trod enc Try.prog W 0 (fun _ => true) true 64 v d ps) :
    ∃ l : List OpG, ∃ A cap, v = .slice A l.length cap ∧ OpT W A l := by
  obtain ⟨a0, l0, c0, rfl⟩ := Go.WideShapes.okWide_slice Try.underlying64 hval
  obtain ⟨fuel, h⟩ := h
  rcases Go.Deep.open_slice Try.underlying64 h with ⟨hv, _⟩ | ⟨a, len, cap, m, n, D, Pl, hv, hb, hl, hm, hmm, _, hx⟩
  · obtain ⟨rfl, rfl, rfl⟩ : a0 = none ∧ l0 = 0 ∧ c0 = 0 := by simpa [Value.cells] using hv
    exact ⟨[], none, 0, rfl, ⟨fun k o ho => by simp at ho, fun k o ho => by simp at ho⟩⟩
  · obtain ⟨rfl, rfl, rfl⟩ : a0 = some a ∧ l0 = len ∧ c0 = cap := by simpa [Value.cells] using hv
    have hlm : l0 ≤ m := by rw [hmm]; split <;> omega
    have each : ∀ i, i < l0 → ∃ x : OpG, (W.cell? (a.add (i * 4)) = some (.int .u8 x.1) ∧ W.cell? (a.add (i * 4 + 1)) = some (.int .u8 x.2.1) ∧ W.cell? (a.add (i * 4 + 2)) = some (.int .i16 x.2.2.1) ∧ W.cell? (a.add (i * 4 + 3)) = some (.bool x.2.2.2)) ∧
        (0 ≤ x.1 ∧ x.1 ≤ 255) ∧ (0 ≤ x.2.1 ∧ x.2.1 ≤ 255) ∧ -32768 ≤ x.2.2.1 ∧ x.2.2.1 ≤ 32767 := by
      intro i hi
      obtain ⟨cs', h1, h2⟩ := hx i (by omega)
      rw [cw74] at h1
      obtain ⟨_, hlen, hcell⟩ := World.cells?_some h1
      obtain ⟨xs, k, hk, hxy, _, hxl, hf⟩ := DataW.trod_struct Try.underlying74 h2
      match xs, hxl, cs', hlen with
      | [y0, y1, y2, y3], _, [v0, v1, v2, v3], _ =>
        have g0 := hf 0 _ rfl
        have g1 := hf 1 _ rfl
        have g2 := hf 2 _ rfl
        have g3 := hf 3 _ rfl
        simp [cw4, cw5, cw31] at g0 g1 g2 g3
        have e0 := hcell 0 (by omega)
        have e1 := hcell 1 (by omega)
        have e2 := hcell 2 (by omega)
        have e3 := hcell 3 (by omega)
        rw [Go.Deep.add_add] at e0 e1 e2 e3
        obtain ⟨z0, q0, _, w0⟩ := DataW.trod_int Try.underlying5 g0
        obtain ⟨z1, q1, _, w1⟩ := DataW.trod_int Try.underlying5 g1
        obtain ⟨z2, q2, _, w2⟩ := DataW.trod_int Try.underlying31 g2
        obtain ⟨z3, q3, _⟩ := DataW.trod_bool Try.underlying4 g3
        simp at q0 q1 q2 q3
        subst q0 q1 q2 q3
        exact ⟨(z0, z1, z2, z3), ⟨by simpa using e0, by simpa using e1, by simpa using e2, by simpa using e3⟩, bounds_u8 w0, bounds_u8 w1, bounds_i16 w2⟩
    obtain ⟨q, hq⟩ := Go.Deep.choose_lt each
    refine ⟨(List.range l0).map q, some a, c0, by simp, ⟨fun k o ho => ?_, fun k o ho => ?_⟩⟩
    · have hk := (List.getElem?_eq_some_iff.1 ho).1
      simp at hk
      simp [hk] at ho
      subst ho
      obtain ⟨⟨g0, g1, g2, g3⟩, _⟩ := hq k hk
      obtain ⟨b, off, mm⟩ := a
      cases mm with
      | some x => exfalso; have hp := (hq 0 (by omega)).1.1; simp [World.cell?, Addr.add] at hp; split at hp <;> cases hp
      | none =>
        rw [show (⟨b, off, none⟩ : Addr).add (k * 4) = ⟨b, off + k * 4, none⟩ from by simp [Addr.add]] at g0
        rw [show (⟨b, off, none⟩ : Addr).add (k * 4 + 1) = ⟨b, off + k * 4 + 1, none⟩ from by simp [Addr.add, Nat.add_assoc]] at g1
        rw [show (⟨b, off, none⟩ : Addr).add (k * 4 + 2) = ⟨b, off + k * 4 + 2, none⟩ from by simp [Addr.add, Nat.add_assoc]] at g2
        rw [show (⟨b, off, none⟩ : Addr).add (k * 4 + 3) = ⟨b, off + k * 4 + 3, none⟩ from by simp [Addr.add, Nat.add_assoc]] at g3
        exact ⟨b, off, rfl, World.block_lt_of_cell? _ _ g0, g0, g1, g2, g3⟩
    · have hk := (List.getElem?_eq_some_iff.1 ho).1
      simp at hk
      simp [hk] at ho
      subst ho
      exact (hq k hk).2
end Go.Proofs.Ytgbafpjeapkklaa.Mb
