/- Parts Tu, To, Tn, Tq, Sk, Sl, Tx, Sm, Tv, Mu, Ni of the proof. -/
import Derived.ProofKit
import Derived.OpenShut
import Derived.Carry
import Derived.Deep.Grids
import Derived.Deep.SlicePairs
import Derived.Test.YtgbafpjeapkklaaG2
import Derived.Test.YtgbafpjeapkklaaG3
import Derived.Test.YtgbafpjeapkklaaG7
import Derived.Test.YtgbafpjeapkklaaG11
import Derived.Test.YtgbafpjeapkklaaG13
namespace Go.Proofs.Ytgbafpjeapkklaa.Mb
open Go.RowKit Go.Proofs.YtgbafpjeapkklaaW.PrintWords PMailboxRuns
set_option linter.unusedVariables false
set_option linter.unusedSimpArgs false
def TriI (w : World) (v : Value) (l : List T3) : Prop := Tri w v l ∧ (l = [] ∨ ∀ g, v.ownBlock = some g → ∃ cur e f, w.heap[g]? = some (.cells cur e f) ∧ e ≠ 28 ∧ e ≠ 46)
theorem TriT.toI {w : World} {v : Value} {l : List T3} {e : TypeId} (h : TriT w e v l) (h1 : e ≠ 28) (h2 : e ≠ 46) : TriI w v l :=
 ⟨h.1, .inr fun g hg => by obtain ⟨cur, f, hc⟩ := h.2 g hg; exact ⟨cur, e, f, hc, h1, h2⟩⟩
theorem TriI.below {w w' : World} {v : Value} {l : List T3} (h : TriI w v l) (hb : Below w.heap.size w w') : TriI w' v l := by
 refine ⟨h.1.below hb, ?_⟩
 rcases h.2 with h0 | h0
 ·exact .inl h0
 ·exact .inr fun g hg => by obtain ⟨cur, e, f, hc, h1⟩ := h0 g hg; exact ⟨cur, e, f, (hb.block g (blk_lt hc)).trans hc, h1⟩
theorem TriI.slice {w : World} {v : Value} {l : List T3} (h : TriI w v l) : ∃ p cap, v = .slice p l.length cap := h.1.slice
theorem Keeps.triI {W W' : World} (h : Keeps W W') {v : Value} {l : List T3} (ht : TriI W v l) : TriI W' v l := by
 rcases ht.2 with h0 | h0
 ·subst h0
  obtain ⟨p, cap, rfl, hc, _⟩ := ht.1
  exact ⟨⟨p, cap, rfl, hc, .inl rfl⟩, .inl rfl⟩
 ·obtain ⟨p, cap, rfl, hc, h1⟩ := ht.1
  rcases h1 with rfl | ⟨g, off, rfl, hg, h3⟩
  ·exact ⟨⟨p, cap, rfl, hc, .inl rfl⟩, .inl rfl⟩
  ·obtain ⟨cur, e, f, hcur, e1, e2⟩ := h0 g rfl
   have hT : TriT W e (.slice (some ⟨g, off, none⟩) l.length cap) l := ⟨ht.1, fun g' hg' => by
    have : g = g' := by simpa [Value.ownBlock] using hg'
    subst this
    exact ⟨cur, f, hcur⟩⟩
   exact (h.tri e1 e2 hT).toI e1 e2
theorem tri105i {w : World} {ns : Value} {l : List (Int × Int × Int)} (h : TriI w ns l) (hl : l.length ≤ 2000) : ∃ A c, ns = .slice A (L105 l).length c ∧ (L105 l).length ≤ c ∧ Kd.C k105 w A (L105 l).length (L105 l) := by
 have e : (L105 l).length = l.length := by simp [L105]
 have ht := h.1
 obtain ⟨p, cap, rfl, hc, h1⟩ := h.1
 refine ⟨p, cap, by rw [e], by rw [e]; exact hc, rfl, by omega, fun h0 => ?_⟩
 rcases h1 with h1 | ⟨g, off, rfl, _⟩
 ·subst h1; simp [L105] at h0
 ·refine ⟨_, rfl, fun j x hx => ?_⟩
  obtain ⟨y, hy, rfl⟩ := L105_get hx
  exact ⟨trip y, rfl, k105_mk w (n105 y), trip_at ht hy⟩
theorem tri122i {w : World} {ns : Value} {l : List (Int × Int × Int)} (h : TriI w ns l) (hl : l.length ≤ 2000) : ∃ A c, ns = .slice A (L122 l).length c ∧ (L122 l).length ≤ c ∧ Kd.C k122 w A (L122 l).length (L122 l) := by
 have e : (L122 l).length = l.length := by simp [L122]
 have ht := h.1
 obtain ⟨p, cap, rfl, hc, h1⟩ := h.1
 refine ⟨p, cap, by rw [e], by rw [e]; exact hc, rfl, by omega, fun h0 => ?_⟩
 rcases h1 with h1 | ⟨g, off, rfl, _⟩
 ·subst h1; simp [L122] at h0
 ·refine ⟨_, rfl, fun j x hx => ?_⟩
  obtain ⟨y, hy, rfl⟩ := L122_get hx
  exact ⟨trip y, rfl, k122_mk w (n122 y), trip_at ht hy⟩
theorem alike_ati {w : World} {ns ps ns' ps' : Value} {l m : List (Int × Int × Int)} (h1 : TriT w 99 ns l) (h2 : TriT w 102 ps m) (h3 : TriI w ns' l) (h4 : TriI w ps' m) (hl : l.length ≤ 2000) (hm : m.length ≤ 2000) (x1 x2 : Int) (b : Bool) :
  Calls Try.prog 16 #[.agg #[ns, .int .i64 x1, .int .i64 x2, ps, .bool b], .agg #[ns', .int .i64 x1, .int .i64 x2, ps', .bool b]] w fun e w' => e = .returned (.bool true) ∧ Below w.heap.size w w' := by
 obtain ⟨A, c, rfl, hc, hC⟩ := tri99 h1 hl
 obtain ⟨A2, c2, rfl, hc2, hC2⟩ := tri102 h2 hm
 obtain ⟨A3, c3, rfl, hc3, hC3⟩ := tri105i h3 hl
 obtain ⟨A4, c4, rfl, hc4, hC4⟩ := tri122i h4 hm
 obtain ⟨k, hk⟩ := (alike_ev (l := l) (m := m) (x1 := x1) (x2 := x2) (b := b) hl hm).rounds
 exact hackamorelaw28_alike.calls k A c _ _ _ A2 c2 _ _ A3 c3 _ _ _ A4 c4 _ _ _ w hC hc hC2 hc2 hC3 hc3 hC4 hc4 hk rfl
def StRG (w : World) (v : Value) (ns : List T3) (last done : Int) (ps : List T3) (em : Bool) : Prop := ∃ vn vp, v = .agg #[vn, .int .i64 last, .int .i64 done, vp, .bool em] ∧ TriI w vn ns ∧ TriI w vp ps
theorem StRG.below {w w' : World} {v : Value} {ns ps : List T3} {last done : Int} {em : Bool} (h : StRG w v ns last done ps em) (hb : Below w.heap.size w w') : StRG w' v ns last done ps em := by
 obtain ⟨vn, vp, e, h1, h2⟩ := h
 exact ⟨vn, vp, e, h1.below hb, h2.below hb⟩
theorem Pth.next_mem {ns : List T3} : ∀ {t : List Int} {i : Int}, Pth ns i t → ∀ x ∈ t, nxtG ns x ≠ -1 → nxtG ns x ∈ t
 | [], i, _, x, h, _ => by cases h
 | y :: [], i, h, x, hx, hn => by
  rw [List.mem_singleton.1 hx] at hn
  exact absurd h.2.2 hn
 | y :: z :: t, i, h, x, hx, hn => by
  rcases List.mem_cons.1 hx with rfl | hx
  ·rw [h.2.2.1]; simp
  ·exact List.mem_cons_of_mem _ (h.2.2.next_mem x hx hn)
theorem Lnk.last {ns ps : List T3} : ∀ {ks : List Nat} {e : Int} {u : List Int} {e' : Int}, Lnk ns ps ks e u e' → nxtG ns e = -1 → nxtG ns e' = -1
 | [], e, u, e', h, hn => by
  obtain ⟨_, rfl⟩ := h
  exact hn
 | k :: ks, e, u, e', h, _ => by
  obtain ⟨_, _, t, u', ht, hp, _, h'⟩ := h
  exact h'.last (hp.last ht)
theorem right_last {ns ps : List T3} {last done : Int} {em : Bool} (hr : RightS ns last done ps em) : nxtG ns last = -1 := by
 obtain ⟨t, u, ks, ht, hp, hL, _⟩ := order_of_right hr
 exact hL.last (hp.last ht)
theorem right_pop {ns ps : List T3} {last done : Int} {em : Bool} (hr : RightS ns last done ps em) (hn : InR ns.length (nxtG ns done)) : RightS ns last (nxtG ns done) ps em := by
 have hnn : nxtG ns done ≠ -1 := by have := hn.1; omega
 have hlast := right_last hr
 obtain ⟨hF, hd, S0, e0, hc, hdn, S, e, hl, he, hlen, hem⟩ := hr
 have hok : ∀ n, InR ns.length n → nxtG ns n = -1 ∨ InR ns.length (nxtG ns n) := fun n h => nxt_ok hF h
 refine ⟨⟨hF.n1, hF.n2, hF.last, hn, hF.first, hF.node, hF.push⟩, hd, S0, e0, hc, ?_, S, e, hl, he, hlen, fun h => ?_⟩
 ·rcases chainF_iff hok (ns.length + 1) [] 0 ⟨by omega, by have := hF.n1; omega⟩ List.nodup_nil (fun x hx => by cases hx) (by simp) with ⟨t, ht, ec, hp, hnd⟩ | ⟨ec, _⟩
  ·rw [hc] at ec
   simp only [List.nil_append, Prod.mk.injEq, Option.some.injEq] at ec
   obtain ⟨rfl, _⟩ := ec
   exact hp.next_mem _ hdn hnn
  ·rw [hc] at ec; cases ec
 ·rw [hem h] at hnn
  exact absurd hlast hnn
theorem rcheck_g {ns ps : List T3} {last done : Int} {em : Bool} (hr : RightS ns last done ps em) {v : Value} (w : World) (hv : StRG w v ns last done ps em) :
  Calls Try.prog 20 #[v] w fun en w' => en = .returned (.int .i64 0) ∧ Below w.heap.size w w' := by
 obtain ⟨vn, vp, rfl, hn, hp⟩ := hv
 obtain ⟨A, c, rfl, hc, hC⟩ := tri105i hn hr.few.1
 obtain ⟨A', c', rfl, hc', hC'⟩ := tri122i hp hr.few.2
 obtain ⟨k, hk⟩ := (check_right hr).rounds
 exact hackamoreref28_Check.calls k A c _ _ _ A' c' _ _ _ w hC hc hC' hc' hk
theorem rcheck_w {ns ps : List T3} {last done : Int} {em : Bool} (hr : ¬ RightS ns last done ps em) (hl1 : ns.length ≤ 2000) (hl2 : ps.length ≤ 2000) {v : Value} (w : World) (hv : StRG w v ns last done ps em) :
  Calls Try.prog 20 #[v] w fun en w' => en = .returned (.int .i64 14) ∧ Below w.heap.size w w' := by
 obtain ⟨vn, vp, rfl, hn, hp⟩ := hv
 obtain ⟨A, c, rfl, hc, hC⟩ := tri105i hn hl1
 obtain ⟨A', c', rfl, hc', hC'⟩ := tri122i hp hl2
 obtain ⟨k, hk⟩ := (check_wrong hl2 hr).rounds
 exact hackamoreref28_Check.calls k A c _ _ _ A' c' _ _ _ w hC hc hC' hc' hk
theorem rbegin_g {ns ps : List T3} {last done : Int} {em : Bool} (hr : RightS ns last done ps em) {v : Value} {p x : Int} (hp0 : 0 ≤ p) (hno : ∀ o ∈ ps, o.1 ≠ p) (hm : ns.length < 2000) (w : World) (hv : StRG w v ns last done ps em) :
  Calls Try.prog 46 #[v, .int .i64 p, .int .i64 x] w fun en w' => ∃ v', en = .returned (.tuple #[v', .bool em, .int .i64 0]) ∧ StRG w' v' (ns ++ [(x, p, -1)]) ns.length done (ps.take (posG ps p) ++ (p, last, (ns.length : Int)) :: ps.drop (posG ps p)) false ∧ Below w.heap.size w w' := by
 obtain ⟨vn, vp, rfl, hn, hp⟩ := hv
 obtain ⟨A, c, rfl, hc, hC⟩ := tri105i hn hr.few.1
 obtain ⟨A', c', rfl, hc', hC'⟩ := tri122i hp hr.few.2
 obtain ⟨k, hk⟩ := (begin_evG hr (x := x) hp0 hno hm).rounds
 refine (hackamoreref28_Begin.calls k A c _ _ _ A' c' _ _ p x _ _ _ _ _ _ _ w hC hc hC' hc' hk).mono ?_
 rintro en w' ⟨v0, v3, rfl, h1, h2, hb⟩
 exact ⟨_, rfl, ⟨v0, v3, rfl, (R105_tri h1).toI (by decide) (by decide), (R122_tri h2).toI (by decide) (by decide)⟩, hb⟩
theorem rbegin_neg_g {ns ps : List T3} {last done : Int} {em : Bool} (hr : RightS ns last done ps em) {v : Value} {p x : Int} (hp0 : p < 0) (w : World) (hv : StRG w v ns last done ps em) :
  Calls Try.prog 46 #[v, .int .i64 p, .int .i64 x] w fun en w' => ∃ v', en = .returned (.tuple #[v', .bool false, .int .i64 1]) ∧ StZ w' v' ∧ Below w.heap.size w w' := by
 obtain ⟨vn, vp, rfl, hn, hp⟩ := hv
 obtain ⟨A, c, rfl, hc, hC⟩ := tri105i hn hr.few.1
 obtain ⟨A', c', rfl, hc', hC'⟩ := tri122i hp hr.few.2
 obtain ⟨k, hk⟩ := (begin_neg_evG hr (x := x) hp0).rounds
 refine (hackamoreref28_Begin.calls k A c _ _ _ A' c' _ _ p x _ _ _ _ _ _ _ w hC hc hC' hc' hk).mono ?_
 rintro en w' ⟨v0, v3, rfl, h1, h2, hb⟩
 exact ⟨_, rfl, ⟨v0, v3, rfl, R_empty h1, R_empty h2⟩, hb⟩
theorem rbegin_busy_g {ns ps : List T3} {last done : Int} {em : Bool} (hr : RightS ns last done ps em) {v : Value} {p x : Int} (hp0 : 0 ≤ p) {j : Nat} {o : T3} (ho : ps[j]? = some o) (hop : o.1 = p) (w : World) (hv : StRG w v ns last done ps em) :
  Calls Try.prog 46 #[v, .int .i64 p, .int .i64 x] w fun en w' => ∃ v', en = .returned (.tuple #[v', .bool false, .int .i64 300]) ∧ StZ w' v' ∧ Below w.heap.size w w' := by
 obtain ⟨vn, vp, rfl, hn, hp⟩ := hv
 obtain ⟨A, c, rfl, hc, hC⟩ := tri105i hn hr.few.1
 obtain ⟨A', c', rfl, hc', hC'⟩ := tri122i hp hr.few.2
 obtain ⟨k, hk⟩ := (begin_busy_evG hr (x := x) hp0 ho hop).rounds
 refine (hackamoreref28_Begin.calls k A c _ _ _ A' c' _ _ p x _ _ _ _ _ _ _ w hC hc hC' hc' hk).mono ?_
 rintro en w' ⟨v0, v3, rfl, h1, h2, hb⟩
 exact ⟨_, rfl, ⟨v0, v3, rfl, R_empty h1, R_empty h2⟩, hb⟩
theorem rbegin_r {ns ps : List T3} {last done : Int} {em : Bool} (hr : ¬ RightS ns last done ps em) (hl1 : ns.length ≤ 2000) (hl2 : ps.length ≤ 2000) {v : Value} {p x : Int} (w : World) (hv : StRG w v ns last done ps em) :
  Calls Try.prog 46 #[v, .int .i64 p, .int .i64 x] w fun en w' => ∃ v', en = .returned (.tuple #[v', .bool false, .int .i64 14]) ∧ StZ w' v' ∧ Below w.heap.size w w' := by
 obtain ⟨vn, vp, rfl, hn, hp⟩ := hv
 obtain ⟨A, c, rfl, hc, hC⟩ := tri105i hn hl1
 obtain ⟨A', c', rfl, hc', hC'⟩ := tri122i hp hl2
 obtain ⟨k, hk⟩ := (begin_wrong hl2 hr (p := p) (x := x)).rounds
 refine (hackamoreref28_Begin.calls k A c _ _ _ A' c' _ _ p x _ _ _ _ _ _ _ w hC hc hC' hc' hk).mono ?_
 rintro en w' ⟨v0, v3, rfl, h1, h2, hb⟩
 exact ⟨_, rfl, ⟨v0, v3, rfl, R_empty h1, R_empty h2⟩, hb⟩
theorem rfinish_g {ns ps : List T3} {last done : Int} {em : Bool} (hr : RightS ns last done ps em) {v : Value} {p : Int} {i bj : Nat} {nd : Int} {bx : T3} (ho : ps[i]? = some (p, (bj : Int), nd)) (hbx : ns[bj]? = some bx) (w : World) (hv : StRG w v ns last done ps em) :
  Calls Try.prog 48 #[v, .int .i64 p] w fun en w' => ∃ v', en = .returned (.tuple #[v', .int .i64 0]) ∧ StRG w' v' (ns.set bj (bx.1, bx.2.1, nd)) last done (ps.eraseIdx i) em ∧ Below w.heap.size w w' := by
 obtain ⟨vn, vp, rfl, hn, hp⟩ := hv
 obtain ⟨A, c, rfl, hc, hC⟩ := tri105i hn hr.few.1
 obtain ⟨A', c', rfl, hc', hC'⟩ := tri122i hp hr.few.2
 obtain ⟨k, hk⟩ := (finish_evG hr ho hbx).rounds
 refine (hackamoreref28_Finish.calls k _ A c _ _ _ _ A' c' _ _ p _ _ _ _ _ _ w (V105 hC hc) (V122 hC' hc') hk).mono ?_
 rintro en w' ⟨v0, v3, rfl, h1, h2, hb⟩
 exact ⟨_, rfl, ⟨v0, v3, rfl, (R105_tri h1).toI (by decide) (by decide), (R122_tri h2).toI (by decide) (by decide)⟩, hb⟩
theorem rfinish_none_g {ns ps : List T3} {last done : Int} {em : Bool} (hr : RightS ns last done ps em) {v : Value} {p : Int} (hno : ∀ o ∈ ps, o.1 ≠ p) (w : World) (hv : StRG w v ns last done ps em) :
  Calls Try.prog 48 #[v, .int .i64 p] w fun en w' => ∃ v', en = .returned (.tuple #[v', .int .i64 301]) ∧ StZ w' v' ∧ Below w.heap.size w w' := by
 obtain ⟨vn, vp, rfl, hn, hp⟩ := hv
 obtain ⟨A, c, rfl, hc, hC⟩ := tri105i hn hr.few.1
 obtain ⟨A', c', rfl, hc', hC'⟩ := tri122i hp hr.few.2
 obtain ⟨k, hk⟩ := (finish_none_evG hr hno).rounds
 refine (hackamoreref28_Finish.calls k _ A c _ _ _ _ A' c' _ _ p _ _ _ _ _ _ w (V105 hC hc) (V122 hC' hc') hk).mono ?_
 rintro en w' ⟨v0, v3, rfl, h1, h2, hb⟩
 exact ⟨_, rfl, ⟨v0, v3, rfl, R_empty h1, R_empty h2⟩, hb⟩
theorem rfinish_r {ns ps : List T3} {last done : Int} {em : Bool} (hr : ¬ RightS ns last done ps em) (hl1 : ns.length ≤ 2000) (hl2 : ps.length ≤ 2000) {v : Value} {p : Int} (w : World) (hv : StRG w v ns last done ps em) :
  Calls Try.prog 48 #[v, .int .i64 p] w fun en w' => ∃ v', en = .returned (.tuple #[v', .int .i64 14]) ∧ StZ w' v' ∧ Below w.heap.size w w' := by
 obtain ⟨vn, vp, rfl, hn, hp⟩ := hv
 obtain ⟨A, c, rfl, hc, hC⟩ := tri105i hn hl1
 obtain ⟨A', c', rfl, hc', hC'⟩ := tri122i hp hl2
 obtain ⟨k, hk⟩ := (finish_wrong hl2 hr (p := p)).rounds
 refine (hackamoreref28_Finish.calls k _ A c _ _ _ _ A' c' _ _ p _ _ _ _ _ _ w (V105 hC hc) (V122 hC' hc') hk).mono ?_
 rintro en w' ⟨v0, v3, rfl, h1, h2, hb⟩
 exact ⟨_, rfl, ⟨v0, v3, rfl, R_empty h1, R_empty h2⟩, hb⟩
theorem rwaiting_g {ns ps : List T3} {last done : Int} {em : Bool} (hr : RightS ns last done ps em) {O : List Int} (h1 : O.Nodup) (h2 : O.length = ns.length) (h3 : ∀ x ∈ O, InR ns.length x) (h5 : done ∈ O) (ho : ordR ns ps last (ns.length + 2) [] 0 0 = O) {v : Value} (w : World) (hv : StRG w v ns last done ps em) :
  Calls Try.prog 52 #[v] w fun en w' => ∃ u, en = .returned (.tuple #[u, .int .i64 0]) ∧ w'.ownsRow w.heap.size 3 1 u (waitL ns O done).length (ints (waitL ns O done)) ∧ Below w.heap.size w w' := by
 obtain ⟨vn, vp, rfl, hn, hp⟩ := hv
 obtain ⟨A, c, rfl, hc, hC⟩ := tri105i hn hr.few.1
 obtain ⟨A', c', rfl, hc', hC'⟩ := tri122i hp hr.few.2
 obtain ⟨k, hk⟩ := (waiting_evG hr h1 h2 h3 h5 ho).rounds
 refine (hackamoreref28_Waiting.calls k A c _ _ _ A' c' _ _ _ _ w hC hc hC' hc' hk).mono ?_
 rintro en w' ⟨v0, rfl, h1, hb⟩
 exact ⟨v0, rfl, Rint_own h1, hb⟩
theorem rwaiting_r {ns ps : List T3} {last done : Int} {em : Bool} (hr : ¬ RightS ns last done ps em) (hl1 : ns.length ≤ 2000) (hl2 : ps.length ≤ 2000) {v : Value} (w : World) (hv : StRG w v ns last done ps em) :
  Calls Try.prog 52 #[v] w fun en w' => ∃ u, en = .returned (.tuple #[u, .int .i64 14]) ∧ w'.ownsRow w.heap.size 3 1 u (([] : List Int)).length (ints (([] : List Int))) ∧ Below w.heap.size w w' := by
 obtain ⟨vn, vp, rfl, hn, hp⟩ := hv
 obtain ⟨A, c, rfl, hc, hC⟩ := tri105i hn hl1
 obtain ⟨A', c', rfl, hc', hC'⟩ := tri122i hp hl2
 obtain ⟨k, hk⟩ := (waiting_wrong hl2 hr).rounds
 refine (hackamoreref28_Waiting.calls k A c _ _ _ A' c' _ _ _ _ w hC hc hC' hc' hk).mono ?_
 rintro en w' ⟨v0, rfl, h1, hb⟩
 exact ⟨v0, rfl, Rint_own h1, hb⟩
set_option maxRecDepth 100000 in
set_option maxHeartbeats 8000000 in
theorem rmark_g {ns ps : List T3} {last done : Int} {em : Bool} (hr : RightS ns last done ps em) {v : Value} (w : World) (hv : StRG w v ns last done ps em) :
  Calls Try.prog 51 #[v] w fun e w' => ∃ v', e = .returned (.tuple #[v', .bool (decide (done = last)), .int .i64 0]) ∧ StRG w' v' ns last done ps (decide (done = last)) ∧ Below w.heap.size w w' := by
 have HCK : Hid (∀ W, Below w.heap.size w W → Calls Try.prog 20 #[v] W fun e w' => e = .returned (.int .i64 0) ∧ Below W.heap.size W w') := fun W h => rcheck_g hr W (hv.below h)
 obtain ⟨vn, vp, rfl, hn, hp⟩ := hv
 have HST : Hid (∀ W c, Below w.heap.size w W → StRG W (.agg #[vn, .int .i64 last, .int .i64 done, vp, .bool c]) ns last done ps c) := fun W c h => ⟨vn, vp, rfl, hn.below h, hp.below h⟩
 obtain ⟨pn, cn, hA⟩ := hn.slice
 obtain ⟨pp, cp, hB⟩ := hp.slice
 subst hA
 subst hB
 have HB0 : Hid (R2 w (.slice pn ns.length cn) (.slice pp ps.length cp) last done em ((w.alloc (Obj.cells #[.slice pn ns.length cn, .int .i64 last, .int .i64 done, .slice pp ps.length cp, .bool em] 46)).alloc (Obj.cells #[.slice none 0 0, .int .i64 0, .int .i64 0, .slice none 0 0, .bool false] 46))) := R2.mk' w _ _ _ _ _
 obtain ⟨t, ht⟩ : ∃ t : Bool, t = decide (done = last) := ⟨_, rfl⟩
 have et : (done == last) = t := by
  rw [ht]
  by_cases h : done = last
  ·simp [h]
  ·simp [h]
 rw [← ht]
 clear hn hp ht hr
 go_enter Try.func51, Try.ntmps51
 go_upto_region 1 with fail
 generalize ((w.alloc (Obj.cells #[.slice pn ns.length cn, .int .i64 last, .int .i64 done, .slice pp ps.length cp, .bool em] 46)).alloc (Obj.cells #[.slice none 0 0, .int .i64 0, .int .i64 0, .slice none 0 0, .bool false] 46)) = W0 at *
 obtain ⟨c0, c1, c2, c3, c4⟩ := HB0.out.facts
 go_wp2_with fail
 refine (HCK.out _ HB0.out.below).mono ?_
 rintro e W1 ⟨rfl, hb1⟩
 have HB1 := Lib.hid (HB0.out.step hb1)
 clear hb1 c0 c1 c2 c3 c4
 obtain ⟨c0, c1, c2, c3, c4⟩ := HB1.out.facts
 have f4 := (HB1.out.frz 4).1
 go_upto_region 5 with fail
 clear c0 c1 c2 c3 c4 f4
 have HB2 := Lib.hid (HB1.out.set4 t)
 generalize W1.setCell ⟨w.heap.size, 4, none⟩ (.bool t) = W2 at *
 obtain ⟨c0, c1, c2, c3, c4⟩ := HB2.out.facts
 obtain ⟨z0, z1, z2, z3, z4⟩ := HB2.out.zero
 have f0 := (HB2.out.frz 0).2
 have f1 := (HB2.out.frz 1).2
 have f2 := (HB2.out.frz 2).2
 have f3 := (HB2.out.frz 3).2
 have f4 := (HB2.out.frz 4).2
 go_region
 obtain ⟨W5, hW5⟩ : ∃ W5, W5 = (((((W2.setCell ⟨w.heap.size + 1, 0, none⟩ (.slice pn ns.length cn)).setCell ⟨w.heap.size + 1, 1, none⟩ (.int .i64 last)).setCell ⟨w.heap.size + 1, 2, none⟩ (.int .i64 done)).setCell ⟨w.heap.size + 1, 3, none⟩ (.slice pp ps.length cp)).setCell ⟨w.heap.size + 1, 4, none⟩ (.bool t)) := ⟨_, rfl⟩
 rw [← hW5]
 obtain ⟨k1, k2⟩ := HB2.out.fin hW5
 have K1 := Lib.hid k1
 clear c0 c1 c2 c3 c4 z0 z1 z2 z3 z4 f0 f1 f2 f3 f4 k1 hW5
 obtain ⟨c0, c1, c2, c3, c4⟩ := k2
 go_wp2_with fail
 refine bodyPost_ret (v := .tuple #[.agg #[.slice pn ns.length cn, .int .i64 last, .int .i64 done, .slice pp ps.length cp, .bool t], .bool t, .int .i64 0]) (by simp [results, Try.results51, go_sem, c0, c1, c2, c3, c4]) rfl ⟨_, rfl, ?_, ?_⟩
 ·exact HST.out _ _ K1.out.drew
 ·exact K1.out.drew
set_option maxRecDepth 100000 in
set_option maxHeartbeats 8000000 in
theorem rpop_no_g {ns ps : List T3} {last done : Int} {em : Bool} (hr : RightS ns last done ps em) {vn vp : Value} (hc : nxtG ns done = -1) (w : World) (hn : TriI w vn ns) (hp : TriI w vp ps) :
  Calls Try.prog 49 #[.agg #[vn, .int .i64 last, .int .i64 done, vp, .bool em]] w fun e w' => e = .returned (.tuple #[.agg #[vn, .int .i64 last, .int .i64 done, vp, .bool em], .int .i64 0, .bool false, .int .i64 0]) ∧ Below w.heap.size w w' := by
 have HCK : Hid (∀ W, Below w.heap.size w W → Calls Try.prog 20 #[.agg #[vn, .int .i64 last, .int .i64 done, vp, .bool em]] W fun e w' => e = .returned (.int .i64 0) ∧ Below W.heap.size W w') := fun W h => rcheck_g hr W ⟨vn, vp, rfl, hn.below h, hp.below h⟩
 have hN1 := hr.1.n1
 have hdi := hr.1.done
 have HNS : Hid (∃ g off c, vn = .slice (some ⟨g, off, none⟩) ns.length c ∧ g < w.heap.size ∧ ∀ k x, ns[k]? = some x → w.cell? ⟨g, off + k * 3, none⟩ = some (.int .i64 x.1) ∧ w.cell? ⟨g, off + k * 3 + 1, none⟩ = some (.int .i64 x.2.1) ∧ w.cell? ⟨g, off + k * 3 + 2, none⟩ = some (.int .i64 x.2.2)) := by
  obtain ⟨⟨p, c, e, _, h1⟩, _⟩ := hn
  rcases h1 with h1 | ⟨g, off, rfl, h2, h3⟩
  ·rw [h1] at hN1; simp at hN1
  ·exact ⟨g, off, c, e, h2, h3⟩
 obtain ⟨gn, offn, cn, rfl, hgn, hcn⟩ := HNS.out
 obtain ⟨pp, cp, hB⟩ := hp.slice
 subst hB
 have HB0 : Hid (R2 w (.slice (some ⟨gn, offn, none⟩) ns.length cn) (.slice pp ps.length cp) last done em ((w.alloc (Obj.cells #[.slice (some ⟨gn, offn, none⟩) ns.length cn, .int .i64 last, .int .i64 done, .slice pp ps.length cp, .bool em] 46)).alloc (Obj.cells #[.slice none 0 0, .int .i64 0, .int .i64 0, .slice none 0 0, .bool false] 46))) := R2.mk' w _ _ _ _ _
 obtain ⟨d, hdd, hdl⟩ := nat_of hdi
 have hx := nxtG_of (ns := ns) (i := (d : Int)) (x := ns[d]) (by rw [Int.toNat_natCast]; exact List.getElem?_eq_getElem hdl)
 have hd2 := (hcn d _ (List.getElem?_eq_getElem hdl)).2.2
 rw [← hx, ← hdd] at hd2
 rw [hc] at hd2
 clear hn hp hr HNS hcn hc hx hN1 hdi
 subst hdd
 have e0 : ∀ W, Below w.heap.size w W → W.cell? ⟨gn, offn + d * 3 + 2, none⟩ = some (.int .i64 (-1)) := fun W h => (h.cell (p := ⟨gn, offn + d * 3 + 2, none⟩) hgn).trans hd2
 have E0 := Lib.hid e0
 have t1 : decide ((d : Int) < (ns.length : Int)) = true := decide_eq_true (by omega)
 have t2 : (d : Int) < (ns.length : Int) := by omega
 clear hd2 e0
 go_enter Try.func49, Try.ntmps49
 go_upto_region 1 with fail
 generalize ((w.alloc (Obj.cells #[.slice (some ⟨gn, offn, none⟩) ns.length cn, .int .i64 last, .int .i64 (d : Int), .slice pp ps.length cp, .bool em] 46)).alloc (Obj.cells #[.slice none 0 0, .int .i64 0, .int .i64 0, .slice none 0 0, .bool false] 46)) = W0 at *
 obtain ⟨c0, c1, c2, c3, c4⟩ := HB0.out.facts
 go_wp2_with fail
 refine (HCK.out _ HB0.out.below).mono ?_
 rintro e W1 ⟨rfl, hb1⟩
 have HB1 := Lib.hid (HB0.out.step hb1)
 clear hb1 c0 c1 c2 c3 c4
 obtain ⟨c0, c1, c2, c3, c4⟩ := HB1.out.facts
 have g0 := E0.out _ HB1.out.below
 obtain ⟨z0, z1, z2, z3, z4⟩ := HB1.out.zero
 have f0 := (HB1.out.frz 0).2
 have f1 := (HB1.out.frz 1).2
 have f2 := (HB1.out.frz 2).2
 have f3 := (HB1.out.frz 3).2
 have f4 := (HB1.out.frz 4).2
 go_wp2_with fail
 obtain ⟨W5, hW5⟩ : ∃ W5, W5 = (((((W1.setCell ⟨w.heap.size + 1, 0, none⟩ (.slice (some ⟨gn, offn, none⟩) ns.length cn)).setCell ⟨w.heap.size + 1, 1, none⟩ (.int .i64 last)).setCell ⟨w.heap.size + 1, 2, none⟩ (.int .i64 (d : Int))).setCell ⟨w.heap.size + 1, 3, none⟩ (.slice pp ps.length cp)).setCell ⟨w.heap.size + 1, 4, none⟩ (.bool em)) := ⟨_, rfl⟩
 rw [← hW5]
 obtain ⟨k1, k2⟩ := HB1.out.fin hW5
 have K1 := Lib.hid k1
 clear c0 c1 c2 c3 c4 z0 z1 z2 z3 z4 f0 f1 f2 f3 f4 k1 hW5
 obtain ⟨c0, c1, c2, c3, c4⟩ := k2
 refine bodyPost_ret (v := .tuple #[.agg #[.slice (some ⟨gn, offn, none⟩) ns.length cn, .int .i64 last, .int .i64 (d : Int), .slice pp ps.length cp, .bool em], .int .i64 0, .bool false, .int .i64 0]) (by simp [results, Try.results49, go_sem, c0, c1, c2, c3, c4]) rfl ⟨rfl, K1.out⟩
set_option maxRecDepth 100000 in
set_option maxHeartbeats 8000000 in
theorem rpop_yes_g {ns ps : List T3} {last done : Int} {em : Bool} (hr : RightS ns last done ps em) {vn vp : Value} (hc : InR ns.length (nxtG ns done)) (w : World) (hn : TriI w vn ns) (hp : TriI w vp ps) :
  Calls Try.prog 49 #[.agg #[vn, .int .i64 last, .int .i64 done, vp, .bool em]] w fun e w' => e = .returned (.tuple #[.agg #[vn, .int .i64 last, .int .i64 (nxtG ns done), vp, .bool em], .int .i64 (ngt ns (nxtG ns done).toNat).1, .bool true, .int .i64 0]) ∧ Below w.heap.size w w' := by
 have HCK : Hid (∀ W, Below w.heap.size w W → Calls Try.prog 20 #[.agg #[vn, .int .i64 last, .int .i64 done, vp, .bool em]] W fun e w' => e = .returned (.int .i64 0) ∧ Below W.heap.size W w') := fun W h => rcheck_g hr W ⟨vn, vp, rfl, hn.below h, hp.below h⟩
 have hN1 := hr.1.n1
 have hdi := hr.1.done
 have HNS : Hid (∃ g off c, vn = .slice (some ⟨g, off, none⟩) ns.length c ∧ g < w.heap.size ∧ ∀ k x, ns[k]? = some x → w.cell? ⟨g, off + k * 3, none⟩ = some (.int .i64 x.1) ∧ w.cell? ⟨g, off + k * 3 + 1, none⟩ = some (.int .i64 x.2.1) ∧ w.cell? ⟨g, off + k * 3 + 2, none⟩ = some (.int .i64 x.2.2)) := by
  obtain ⟨⟨p, c, e, _, h1⟩, _⟩ := hn
  rcases h1 with h1 | ⟨g, off, rfl, h2, h3⟩
  ·rw [h1] at hN1; simp at hN1
  ·exact ⟨g, off, c, e, h2, h3⟩
 obtain ⟨gn, offn, cn, rfl, hgn, hcn⟩ := HNS.out
 obtain ⟨pp, cp, hB⟩ := hp.slice
 subst hB
 have HB0 : Hid (R2 w (.slice (some ⟨gn, offn, none⟩) ns.length cn) (.slice pp ps.length cp) last done em ((w.alloc (Obj.cells #[.slice (some ⟨gn, offn, none⟩) ns.length cn, .int .i64 last, .int .i64 done, .slice pp ps.length cp, .bool em] 46)).alloc (Obj.cells #[.slice none 0 0, .int .i64 0, .int .i64 0, .slice none 0 0, .bool false] 46))) := R2.mk' w _ _ _ _ _
 obtain ⟨d, hdd, hdl⟩ := nat_of hdi
 have hx := nxtG_of (ns := ns) (i := (d : Int)) (x := ns[d]) (by rw [Int.toNat_natCast]; exact List.getElem?_eq_getElem hdl)
 have hd2 := (hcn d _ (List.getElem?_eq_getElem hdl)).2.2
 rw [← hx, ← hdd] at hd2
 obtain ⟨K, hK, hKl⟩ := nat_of hc
 have hd0 := (hcn K _ (List.getElem?_eq_getElem hKl)).1
 obtain ⟨vv, hvv⟩ : ∃ vv, vv = (ngt ns (nxtG ns done).toNat).1 := ⟨_, rfl⟩
 have hvv2 : (ns[K]).1 = vv := by rw [hvv, hK]; simp [ngt, List.getD_eq_getElem?_getD, List.getElem?_eq_getElem hKl]
 rw [hvv2] at hd0
 rw [← hvv]
 generalize hNX : nxtG ns done = NXT at *
 subst hK
 clear hvv hvv2 hNX hn hp hr HNS hcn hc hx hN1 hdi
 subst hdd
 have e0 : ∀ W, Below w.heap.size w W → W.cell? ⟨gn, offn + d * 3 + 2, none⟩ = some (.int .i64 (K : Int)) := fun W h => (h.cell (p := ⟨gn, offn + d * 3 + 2, none⟩) hgn).trans hd2
 have e1 : ∀ W, Below w.heap.size w W → W.cell? ⟨gn, offn + K * 3, none⟩ = some (.int .i64 vv) := fun W h => (h.cell (p := ⟨gn, offn + K * 3, none⟩) hgn).trans hd0
 have E1 := Lib.hid e1
 have t3 : decide ((K : Int) < 0) = false := decide_eq_false (by omega)
 have t4 : decide ((0 : Int) ≤ (K : Int)) = true := decide_eq_true (by omega)
 have t5 : decide ((K : Int) < (ns.length : Int)) = true := decide_eq_true (by omega)
 have t6 : (K : Int) < (ns.length : Int) := by omega
 clear e1 hd0
 have E0 := Lib.hid e0
 have t1 : decide ((d : Int) < (ns.length : Int)) = true := decide_eq_true (by omega)
 have t2 : (d : Int) < (ns.length : Int) := by omega
 clear hd2 e0
 go_enter Try.func49, Try.ntmps49
 go_upto_region 1 with fail
 generalize ((w.alloc (Obj.cells #[.slice (some ⟨gn, offn, none⟩) ns.length cn, .int .i64 last, .int .i64 (d : Int), .slice pp ps.length cp, .bool em] 46)).alloc (Obj.cells #[.slice none 0 0, .int .i64 0, .int .i64 0, .slice none 0 0, .bool false] 46)) = W0 at *
 obtain ⟨c0, c1, c2, c3, c4⟩ := HB0.out.facts
 go_wp2_with fail
 refine (HCK.out _ HB0.out.below).mono ?_
 rintro e W1 ⟨rfl, hb1⟩
 have HB1 := Lib.hid (HB0.out.step hb1)
 clear hb1 c0 c1 c2 c3 c4
 obtain ⟨c0, c1, c2, c3, c4⟩ := HB1.out.facts
 have g0 := E0.out _ HB1.out.below
 have f2' := (HB1.out.frz 2).1
 go_upto_region 8 with fail
 clear c0 c1 c2 c3 c4 f2' g0
 have HB2 := Lib.hid (HB1.out.set2 (K : Int))
 generalize W1.setCell ⟨w.heap.size, 2, none⟩ (.int .i64 (K : Int)) = W2 at *
 obtain ⟨c0, c1, c2, c3, c4⟩ := HB2.out.facts
 have g1 := E1.out _ HB2.out.below
 obtain ⟨z0, z1, z2, z3, z4⟩ := HB2.out.zero
 have f0 := (HB2.out.frz 0).2
 have f1 := (HB2.out.frz 1).2
 have f2 := (HB2.out.frz 2).2
 have f3 := (HB2.out.frz 3).2
 have f4 := (HB2.out.frz 4).2
 go_region
 obtain ⟨W5, hW5⟩ : ∃ W5, W5 = (((((W2.setCell ⟨w.heap.size + 1, 0, none⟩ (.slice (some ⟨gn, offn, none⟩) ns.length cn)).setCell ⟨w.heap.size + 1, 1, none⟩ (.int .i64 last)).setCell ⟨w.heap.size + 1, 2, none⟩ (.int .i64 (K : Int))).setCell ⟨w.heap.size + 1, 3, none⟩ (.slice pp ps.length cp)).setCell ⟨w.heap.size + 1, 4, none⟩ (.bool em)) := ⟨_, rfl⟩
 rw [← hW5]
 obtain ⟨k1, k2⟩ := HB2.out.fin hW5
 have K1 := Lib.hid k1
 clear c0 c1 c2 c3 c4 z0 z1 z2 z3 z4 f0 f1 f2 f3 f4 k1 hW5
 obtain ⟨c0, c1, c2, c3, c4⟩ := k2
 go_wp2_with fail
 refine bodyPost_ret (v := .tuple #[.agg #[.slice (some ⟨gn, offn, none⟩) ns.length cn, .int .i64 last, .int .i64 (K : Int), .slice pp ps.length cp, .bool em], .int .i64 vv, .bool true, .int .i64 0]) (by simp [results, Try.results49, go_sem, c0, c1, c2, c3, c4]) rfl ⟨rfl, K1.out.drew⟩
set_option maxRecDepth 100000 in
set_option maxHeartbeats 8000000 in
theorem rbatch_g {ns ps : List T3} {last done : Int} {em : Bool} (hr : RightS ns last done ps em) {v : Value} {most : Nat} (hms : most ≤ 2000) {GU : List Int} {GE : Int} (hG : goD ns most done = (GU, GE)) (w : World) (hv : StRG w v ns last done ps em) :
  Calls Try.prog 50 #[v, .int .i64 most] w fun e w' => ∃ v' u, e = .returned (.tuple #[v', u, .int .i64 0]) ∧ StRG w' v' ns last GE ps em ∧
   w'.ownsRow w.heap.size 3 1 u GU.length (ints GU) ∧ Below w.heap.size w w' := by
 have HCK : Hid (∀ W, Below w.heap.size w W → Calls Try.prog 20 #[v] W fun e w' => e = .returned (.int .i64 0) ∧ Below W.heap.size W w') := fun W h => rcheck_g hr W (hv.below h)
 obtain ⟨vn, vp, rfl, hn, hp⟩ := hv
 have HST : Hid (∀ W (d : Int), Below w.heap.size w W → StRG W (.agg #[vn, .int .i64 last, .int .i64 d, vp, .bool em]) ns last d ps em) := fun W d h => ⟨vn, vp, rfl, hn.below h, hp.below h⟩
 have HNO : Hid (∀ W (d : Int), RightS ns last d ps em → nxtG ns d = -1 → Below w.heap.size w W → Calls Try.prog 49 #[.agg #[vn, .int .i64 last, .int .i64 d, vp, .bool em]] W fun e w' => e = .returned (.tuple #[.agg #[vn, .int .i64 last, .int .i64 d, vp, .bool em], .int .i64 0, .bool false, .int .i64 0]) ∧ Below W.heap.size W w') := fun W d h1 h2 h3 => rpop_no_g h1 h2 W (hn.below h3) (hp.below h3)
 have HYES : Hid (∀ W (d : Int), RightS ns last d ps em → InR ns.length (nxtG ns d) → Below w.heap.size w W → Calls Try.prog 49 #[.agg #[vn, .int .i64 last, .int .i64 d, vp, .bool em]] W fun e w' => e = .returned (.tuple #[.agg #[vn, .int .i64 last, .int .i64 (nxtG ns d), vp, .bool em], .int .i64 (ngt ns (nxtG ns d).toNat).1, .bool true, .int .i64 0]) ∧ Below W.heap.size W w') := fun W d h1 h2 h3 => rpop_yes_g h1 h2 W (hn.below h3) (hp.below h3)
 have HW0 := Lib.hid hr
 have HOKN : Hid (∀ E, RightS ns last E ps em → nxtG ns E = -1 ∨ InR ns.length (nxtG ns E)) := fun E h => nxt_ok h.1 h.1.done
 obtain ⟨pn, cn, hA⟩ := hn.slice
 obtain ⟨pp, cp, hB⟩ := hp.slice
 subst hA
 subst hB
 have HB0 : Hid (R2 w (.slice pn ns.length cn) (.slice pp ps.length cp) last done em ((w.alloc (Obj.cells #[.slice pn ns.length cn, .int .i64 last, .int .i64 done, .slice pp ps.length cp, .bool em] 46)).alloc (Obj.cells #[.slice none 0 0, .int .i64 0, .int .i64 0, .slice none 0 0, .bool false] 46))) := R2.mk' w _ _ _ _ _
 have HMS := Lib.hid hms
 have HGG := Lib.hid hG
 obtain ⟨i0, hi, hz0, hz1, hz2⟩ := info_parts info3
 have HI := Lib.hid hi; clear hi
 have HZ0 := Lib.hid hz0; clear hz0
 have HZ1 := Lib.hid hz1; clear hz1
 have HZ2 := Lib.hid hz2; clear hz2
 have tm : decide ((most : Int) < 0) = false := decide_eq_false (by omega)
 have HDI := Lib.hid hr.1.done
 have HPOP : Hid (∀ E, RightS ns last E ps em → InR ns.length (nxtG ns E) → RightS ns last (nxtG ns E) ps em) := fun E h1 h2 => right_pop h1 h2
 clear hn hp hr hG hms
 generalize hNL : ns.length = NL at *
 generalize hPL : ps.length = PL at *
 clear hNL hPL
 go_enter Try.func50, Try.ntmps50
 go_upto_region 1 with fail
 generalize ((w.alloc (Obj.cells #[.slice pn NL cn, .int .i64 last, .int .i64 done, .slice pp PL cp, .bool em] 46)).alloc (Obj.cells #[.slice none 0 0, .int .i64 0, .int .i64 0, .slice none 0 0, .bool false] 46)) = W0 at *
 obtain ⟨c0, c1, c2, c3, c4⟩ := HB0.out.facts
 go_wp2_with fail
 refine (HCK.out _ HB0.out.below).mono ?_
 rintro e W1 ⟨rfl, hb1⟩
 have HB1 := Lib.hid (HB0.out.step hb1)
 clear hb1 c0 c1 c2 c3 c4
 have hmade := World.ownsRow_made W1 (e := 3) (size := 1) (base := w.heap.size) #[] 0 (by have := HB1.out.below.size; omega) (by decide) rfl
 have hal : Below W1.heap.size W1 (W1.alloc (Obj.cells #[] 3)) := (Below.refl _ _).alloc (Nat.le_refl _) _
 have HB2 := Lib.hid (HB1.out.step hal)
 have HU0 : Hid ((W1.alloc (Obj.cells #[] 3)).ownsRow w.heap.size 3 1 (.slice (some ⟨W1.heap.size, 0, none⟩) 0 0) 0 (ints [])) := hmade
 clear hmade hal
 go_upto_region 7 with fail
 generalize hW2 : W1.alloc (Obj.cells #[] 3) = W2 at *
 clear hW2
 go_loopw [8] (fun s8 wr => ∃ (k : Nat) (u : List Int) (E : Int), k = u.length ∧ k ≤ most ∧ RightS ns last E ps em ∧ (GU, GE) = (u ++ (goD ns (most - k) E).1, (goD ns (most - k) E).2) ∧ R2 w (.slice pn NL cn) (.slice pp PL cp) last E em wr ∧
  (∃ pu cu, s8 = .slice pu k cu ∧ wr.ownsRow w.heap.size 3 1 (.slice pu k cu) k (ints u))) (fun s8 _ => most - (lenOf s8))
 case atStart => exact ⟨0, [], done, rfl, by omega, HW0.out, by rw [List.nil_append]; exact HGG.out.symm, HB2.out, _, _, rfl, HU0.out⟩
 case round =>
  obtain ⟨k, u, E, hku, hk, hwf, hpk, hco, pu, cu, rfl, hu⟩ := hrel
  have HKU := Lib.hid hku; clear hku
  have HCO := Lib.hid hco; clear hco
  have HU := Lib.hid hu; clear hu
  have HWE := Lib.hid hwf; clear hwf
  have HPKS := Lib.hid hpk; clear hpk
  by_cases hlt : k < most
  ·have tl : decide ((k : Int) < (most : Int)) = true := decide_eq_true (by omega)
   obtain ⟨c0, c1, c2, c3, c4⟩ := HCO.out.facts
   rcases HOKN.out E HWE.out with hcan | hcan
   ·have HPK : Hid (GU = u ∧ GE = E) := by
     have h1 := HPKS.out
     obtain ⟨j, hj⟩ : ∃ j, most - k = j + 1 := ⟨most - k - 1, by omega⟩
     rw [hj, goD_no hcan] at h1
     exact Lib.hid (by simpa using h1)
    go_wp2_with fail
    refine (HNO.out _ E HWE.out hcan HCO.out.below).mono ?_
    rintro e WP ⟨rfl, hbx⟩
    have hbx2 := hbx.alloc hbx.size (Obj.cells #[.slice pn NL cn, .int .i64 last, .int .i64 E, .slice pp PL cp, .bool em] 46)
    obtain ⟨WX, hWX⟩ : ∃ WX, WX = WP.alloc (Obj.cells #[.slice pn NL cn, .int .i64 last, .int .i64 E, .slice pp PL cp, .bool em] 46) := ⟨_, rfl⟩
    rw [← hWX] at hbx2
    have HX := Lib.hid (HCO.out.step hbx2)
    have HUX : Hid (WX.ownsRow w.heap.size 3 1 (.slice pu k cu) k (ints u)) := own1_below HU.out hbx2
    clear hbx hbx2 c0 c1 c2 c3 c4
    go_upto_region 12 with fail
    rw [← hWX]
    clear hWX
    obtain ⟨c0, c1, c2, c3, c4⟩ := HX.out.facts
    obtain ⟨z0, z1, z2, z3, z4⟩ := HX.out.zero
    have f0 := (HX.out.frz 0).2
    have f1 := (HX.out.frz 1).2
    have f2 := (HX.out.frz 2).2
    have f3 := (HX.out.frz 3).2
    have f4 := (HX.out.frz 4).2
    go_wp2_with fail
    obtain ⟨W5, hW5⟩ : ∃ W5, W5 = (((((WX.setCell ⟨w.heap.size + 1, 0, none⟩ (.slice pn NL cn)).setCell ⟨w.heap.size + 1, 1, none⟩ (.int .i64 last)).setCell ⟨w.heap.size + 1, 2, none⟩ (.int .i64 E)).setCell ⟨w.heap.size + 1, 3, none⟩ (.slice pp PL cp)).setCell ⟨w.heap.size + 1, 4, none⟩ (.bool em)) := ⟨_, rfl⟩
    rw [← hW5]
    have HOX := Lib.hid (own5 HUX.out HX.out.out (by decide) (.slice pn NL cn) (.int .i64 last) (.int .i64 E) (.slice pp PL cp) (.bool em))
    rw [← hW5] at HOX
    obtain ⟨k1, k2⟩ := HX.out.fin hW5
    have K1 := Lib.hid k1
    clear c0 c1 c2 c3 c4 z0 z1 z2 z3 z4 f0 f1 f2 f3 f4 k1 hW5
    obtain ⟨c0, c1, c2, c3, c4⟩ := k2
    refine bodyPost_ret (v := .tuple #[.agg #[.slice pn NL cn, .int .i64 last, .int .i64 E, .slice pp PL cp, .bool em], .slice pu k cu, .int .i64 0]) (by simp [results, Try.results50, go_sem, c0, c1, c2, c3, c4]) rfl ⟨_, .slice pu k cu, rfl, ?_, ?_, ?_⟩
    ·rw [HPK.out.2]; exact HST.out _ _ K1.out
    ·rw [HPK.out.1, ← HKU.out]; exact HOX.out
    ·exact K1.out
   ·have HHC := Lib.hid hcan
    go_wp2_with fail
    refine (HYES.out _ E HWE.out hcan HCO.out.below).mono ?_
    rintro e WP ⟨rfl, hbx⟩
    obtain ⟨x, hx⟩ : ∃ x, x = (ngt ns (nxtG ns E).toNat).1 := ⟨_, rfl⟩
    rw [← hx]
    have HX := Lib.hid hx; clear hx
    obtain ⟨E', hE'⟩ : ∃ E' : Int, E' = nxtG ns E := ⟨_, rfl⟩
    rw [← hE']
    have HE' := Lib.hid hE'; clear hE'
    have hbx2 := hbx.alloc hbx.size (Obj.cells #[.slice pn NL cn, .int .i64 last, .int .i64 E', .slice pp PL cp, .bool em] 46)
    obtain ⟨WQ, hWQ⟩ : ∃ WQ, WQ = WP.alloc (Obj.cells #[.slice pn NL cn, .int .i64 last, .int .i64 E', .slice pp PL cp, .bool em] 46) := ⟨_, rfl⟩
    obtain ⟨Y, hY⟩ : ∃ Y, Y = WP.heap.size := ⟨_, rfl⟩
    have hnb : WQ.heap[Y]? = some (.cells #[.slice pn NL cn, .int .i64 last, .int .i64 E', .slice pp PL cp, .bool em] 46 (0, 0)) := by rw [hWQ, hY]; exact (MapKept.heap_alloc _ _).1
    rw [← hWQ] at hbx2
    have HQ2 := Lib.hid (HCO.out.step hbx2)
    have HU2 : Hid (WQ.ownsRow w.heap.size 3 1 (.slice pu k cu) k (ints u)) := own1_below HU.out hbx2
    clear hbx hbx2 c0 c1 c2 c3 c4
    go_upto_region 10 with fail
    rw [← hWQ, ← hY]
    clear hWQ hY
    obtain ⟨z0, z1, z2, z3, z4⟩ := HQ2.out.facts
    have c0 : WQ.cell? ⟨Y, 0, none⟩ = some (.slice pn NL cn) := cB hnb 0
    have c1 : WQ.cell? ⟨Y, 1, none⟩ = some (.int .i64 last) := cB hnb 1
    have c2 : WQ.cell? ⟨Y, 2, none⟩ = some (.int .i64 E') := cB hnb 2
    have c3 : WQ.cell? ⟨Y, 3, none⟩ = some (.slice pp PL cp) := cB hnb 3
    have c4 : WQ.cell? ⟨Y, 4, none⟩ = some (.bool em) := cB hnb 4
    have f0 := (HQ2.out.frz 0).1
    have f1 := (HQ2.out.frz 1).1
    have f2 := (HQ2.out.frz 2).1
    have f3 := (HQ2.out.frz 3).1
    have f4 := (HQ2.out.frz 4).1
    clear hnb
    go_upto_region 11 with fail
    obtain ⟨W6, hW6⟩ : ∃ W6, W6 = (((((WQ.setCell ⟨w.heap.size, 0, none⟩ (.slice pn NL cn)).setCell ⟨w.heap.size, 1, none⟩ (.int .i64 last)).setCell ⟨w.heap.size, 2, none⟩ (.int .i64 E')).setCell ⟨w.heap.size, 3, none⟩ (.slice pp PL cp)).setCell ⟨w.heap.size, 4, none⟩ (.bool em)) := ⟨_, rfl⟩
    rw [← hW6]
    have HU6 := Lib.hid (own5 HU2.out HQ2.out.box (by decide) (.slice pn NL cn) (.int .i64 last) (.int .i64 E') (.slice pp PL cp) (.bool em))
    rw [← hW6] at HU6
    have HC6 := Lib.hid (HQ2.out.put hW6)
    clear c0 c1 c2 c3 c4 z0 z1 z2 z3 z4 f0 f1 f2 f3 f4 hW6
    have ha : Below W6.heap.size W6 (W6.alloc (Obj.cells #[.int .i64 x] 3)) := (Below.refl _ _).alloc (Nat.le_refl _) _
    have hnew := (MapKept.heap_alloc W6 (Obj.cells #[.int .i64 x] 3)).1
    have HC7 := Lib.hid (HC6.out.step ha)
    have HU7 := Lib.hid (HU6.out.alloc (Obj.cells #[.int .i64 x] 3))
    have HSRC : Hid (∀ j u, [Value.int .i64 x][j]? = some u → (W6.alloc (Obj.cells #[.int .i64 x] 3)).cell? ((⟨W6.heap.size, 0, none⟩ : Addr).add j) = some u) := by
     intro j u hj
     cases j with
     | zero => simp at hj; subst hj; exact cB hnew 0
     | succ j => simp at hj
    clear ha hnew
    go_wp2_with (at_builtin; refine wpList_append_own _ rfl _ _ 30 rfl w.heap.size 3 i0 (.int .i64 0) 1 8 Try.underlying30 HI.out HZ0.out HZ1.out HZ2.out rfl (by decide) _ _ _ rfl HU7.out ⟨W6.heap.size, 0, none⟩ 1 1 [.int .i64 x] rfl rfl ?c1 ?c2 ?c3 ?c4 ?c5 ?_)
    case c1 => exact HSRC.out
    case c2 => exact ints_one [x]
    case c3 => have := HMS.out; unfold maxLen; omega
    case c4 => have := HMS.out; omega
    case c5 => have := HC7.out.below.size; omega
    intro v8 W8 hown8 hgr8 _
    obtain ⟨pu8, cu8, e8⟩ := own1_slice hown8
    subst e8
    have HU8 := Lib.hid hown8; clear hown8
    have HC8 := Lib.hid (R2.grown HC7.out HU7.out hgr8)
    clear hgr8
    go_wp2_with fail
    go_roundw
    case rel =>
     refine ⟨k + 1, u ++ [x], E', by rw [HKU.out]; simp, by omega, by rw [HE'.out]; exact HPOP.out _ HWE.out HHC.out, ?_, HC8.out, pu8, cu8, rfl, ?_⟩
     ·have h1 := HPKS.out
      obtain ⟨j, hj⟩ : ∃ j, most - k = j + 1 := ⟨most - k - 1, by omega⟩
      rw [hj, goD_yes HHC.out] at h1
      rw [show most - (k + 1) = j by omega, h1, HX.out, HE'.out]
      simp
     ·have := HU8.out
      simpa [ints] using this
    case measure => simp [lenOf]; omega
  ·have HPK : Hid (GU = u ∧ GE = E) := by
    have h1 := HPKS.out
    rw [show most - k = 0 by omega] at h1
    exact Lib.hid (by simpa [goD] using h1)
   have tl : decide ((k : Int) < (most : Int)) = false := decide_eq_false (by omega)
   have HX := HCO
   have HUX := HU
   generalize hwx : wr = WX at *
   clear hwx
   obtain ⟨c0, c1, c2, c3, c4⟩ := HX.out.facts
   obtain ⟨z0, z1, z2, z3, z4⟩ := HX.out.zero
   have f0 := (HX.out.frz 0).2
   have f1 := (HX.out.frz 1).2
   have f2 := (HX.out.frz 2).2
   have f3 := (HX.out.frz 3).2
   have f4 := (HX.out.frz 4).2
   go_wp2_with fail
   obtain ⟨W5, hW5⟩ : ∃ W5, W5 = (((((WX.setCell ⟨w.heap.size + 1, 0, none⟩ (.slice pn NL cn)).setCell ⟨w.heap.size + 1, 1, none⟩ (.int .i64 last)).setCell ⟨w.heap.size + 1, 2, none⟩ (.int .i64 E)).setCell ⟨w.heap.size + 1, 3, none⟩ (.slice pp PL cp)).setCell ⟨w.heap.size + 1, 4, none⟩ (.bool em)) := ⟨_, rfl⟩
   rw [← hW5]
   have HOX := Lib.hid (own5 HUX.out HX.out.out (by decide) (.slice pn NL cn) (.int .i64 last) (.int .i64 E) (.slice pp PL cp) (.bool em))
   rw [← hW5] at HOX
   obtain ⟨k1, k2⟩ := HX.out.fin hW5
   have K1 := Lib.hid k1
   clear c0 c1 c2 c3 c4 z0 z1 z2 z3 z4 f0 f1 f2 f3 f4 k1 hW5
   obtain ⟨c0, c1, c2, c3, c4⟩ := k2
   refine bodyPost_ret (v := .tuple #[.agg #[.slice pn NL cn, .int .i64 last, .int .i64 E, .slice pp PL cp, .bool em], .slice pu k cu, .int .i64 0]) (by simp [results, Try.results50, go_sem, c0, c1, c2, c3, c4]) rfl ⟨_, .slice pu k cu, rfl, ?_, ?_, ?_⟩
   ·rw [HPK.out.2]; exact HST.out _ _ K1.out
   ·rw [HPK.out.1, ← HKU.out]; exact HOX.out
   ·exact K1.out
set_option maxRecDepth 100000 in
set_option maxHeartbeats 8000000 in
theorem rbatch_neg_g {ns ps : List T3} {last done : Int} {em : Bool} (hr : RightS ns last done ps em) {v : Value} {p : Int} (hneg : p < 0) (w : World) (hv : StRG w v ns last done ps em) :
  Calls Try.prog 50 #[v, .int .i64 p] w fun e w' => e = .returned (.tuple #[zv, .slice none 0 0, .int .i64 1]) ∧ Below w.heap.size w w' := by
 have HCK : Hid (∀ W, Below w.heap.size w W → Calls Try.prog 20 #[v] W fun e w' => e = .returned (.int .i64 0) ∧ Below W.heap.size W w') := fun W h => rcheck_g hr W (hv.below h)
 obtain ⟨vn, vp, rfl, hn, hp⟩ := hv
 obtain ⟨pn, cn, hA⟩ := hn.slice
 obtain ⟨pp, cp, hB⟩ := hp.slice
 subst hA
 subst hB
 have HB0 : Hid (R2 w (.slice pn ns.length cn) (.slice pp ps.length cp) last done em ((w.alloc (Obj.cells #[.slice pn ns.length cn, .int .i64 last, .int .i64 done, .slice pp ps.length cp, .bool em] 46)).alloc (Obj.cells #[.slice none 0 0, .int .i64 0, .int .i64 0, .slice none 0 0, .bool false] 46))) := R2.mk' w _ _ _ _ _
 have tp : decide (p < 0) = true := decide_eq_true hneg
 clear hn hp hr
 go_enter Try.func50, Try.ntmps50
 go_upto_region 1 with fail
 generalize ((w.alloc (Obj.cells #[.slice pn ns.length cn, .int .i64 last, .int .i64 done, .slice pp ps.length cp, .bool em] 46)).alloc (Obj.cells #[.slice none 0 0, .int .i64 0, .int .i64 0, .slice none 0 0, .bool false] 46)) = W0 at *
 obtain ⟨c0, c1, c2, c3, c4⟩ := HB0.out.facts
 go_wp2_with fail
 refine (HCK.out _ HB0.out.below).mono ?_
 rintro e W1 ⟨rfl, hb1⟩
 have HB1 := Lib.hid (HB0.out.step hb1)
 clear hb1 c0 c1 c2 c3 c4
 obtain ⟨z0, z1, z2, z3, z4⟩ := HB1.out.zero
 have f0 := (HB1.out.frz 0).2
 have f1 := (HB1.out.frz 1).2
 have f2 := (HB1.out.frz 2).2
 have f3 := (HB1.out.frz 3).2
 have f4 := (HB1.out.frz 4).2
 go_wp2_with fail
 obtain ⟨W5, hW5⟩ : ∃ W5, W5 = (((((W1.setCell ⟨w.heap.size + 1, 0, none⟩ (.slice none 0 0)).setCell ⟨w.heap.size + 1, 1, none⟩ (.int .i64 0)).setCell ⟨w.heap.size + 1, 2, none⟩ (.int .i64 0)).setCell ⟨w.heap.size + 1, 3, none⟩ (.slice none 0 0)).setCell ⟨w.heap.size + 1, 4, none⟩ (.bool false)) := ⟨_, rfl⟩
 rw [← hW5]
 obtain ⟨k1, k2⟩ := HB1.out.fin hW5
 have K1 := Lib.hid k1
 clear z0 z1 z2 z3 z4 f0 f1 f2 f3 f4 k1 hW5
 obtain ⟨c0, c1, c2, c3, c4⟩ := k2
 refine bodyPost_ret (v := .tuple #[.agg #[.slice none 0 0, .int .i64 0, .int .i64 0, .slice none 0 0, .bool false], .slice none 0 0, .int .i64 1]) (by simp [results, Try.results50, go_sem, c0, c1, c2, c3, c4]) rfl ⟨rfl, K1.out⟩
set_option maxRecDepth 100000 in
set_option maxHeartbeats 8000000 in
theorem rpop_r {ns ps : List T3} {last done : Int} {em : Bool} (hr : ¬ RightS ns last done ps em) (hl1 : ns.length ≤ 2000) (hl2 : ps.length ≤ 2000) {v : Value} (w : World) (hv : StRG w v ns last done ps em) :
  Calls Try.prog 49 #[v] w fun e w' => e = .returned (.tuple #[zv, .int .i64 0, .bool false, .int .i64 14]) ∧ Below w.heap.size w w' := by
 have HCK : Hid (∀ W, Below w.heap.size w W → Calls Try.prog 20 #[v] W fun e w' => e = .returned (.int .i64 14) ∧ Below W.heap.size W w') := fun W h => rcheck_w hr hl1 hl2 W (hv.below h)
 obtain ⟨vn, vp, rfl, hn, hp⟩ := hv
 obtain ⟨pn, cn, hA⟩ := hn.slice
 obtain ⟨pp, cp, hB⟩ := hp.slice
 subst hA
 subst hB
 have HB0 : Hid (R2 w (.slice pn ns.length cn) (.slice pp ps.length cp) last done em ((w.alloc (Obj.cells #[.slice pn ns.length cn, .int .i64 last, .int .i64 done, .slice pp ps.length cp, .bool em] 46)).alloc (Obj.cells #[.slice none 0 0, .int .i64 0, .int .i64 0, .slice none 0 0, .bool false] 46))) := R2.mk' w _ _ _ _ _
 clear hn hp hr
 go_enter Try.func49, Try.ntmps49
 go_upto_region 1 with fail
 generalize ((w.alloc (Obj.cells #[.slice pn ns.length cn, .int .i64 last, .int .i64 done, .slice pp ps.length cp, .bool em] 46)).alloc (Obj.cells #[.slice none 0 0, .int .i64 0, .int .i64 0, .slice none 0 0, .bool false] 46)) = W0 at *
 obtain ⟨c0, c1, c2, c3, c4⟩ := HB0.out.facts
 go_wp2_with fail
 refine (HCK.out _ HB0.out.below).mono ?_
 rintro e W1 ⟨rfl, hb1⟩
 have HB1 := Lib.hid (HB0.out.step hb1)
 clear hb1 c0 c1 c2 c3 c4
 obtain ⟨z0, z1, z2, z3, z4⟩ := HB1.out.zero
 have f0 := (HB1.out.frz 0).2
 have f1 := (HB1.out.frz 1).2
 have f2 := (HB1.out.frz 2).2
 have f3 := (HB1.out.frz 3).2
 have f4 := (HB1.out.frz 4).2
 go_wp2_with fail
 obtain ⟨W5, hW5⟩ : ∃ W5, W5 = (((((W1.setCell ⟨w.heap.size + 1, 0, none⟩ (.slice none 0 0)).setCell ⟨w.heap.size + 1, 1, none⟩ (.int .i64 0)).setCell ⟨w.heap.size + 1, 2, none⟩ (.int .i64 0)).setCell ⟨w.heap.size + 1, 3, none⟩ (.slice none 0 0)).setCell ⟨w.heap.size + 1, 4, none⟩ (.bool false)) := ⟨_, rfl⟩
 rw [← hW5]
 obtain ⟨k1, k2⟩ := HB1.out.fin hW5
 have K1 := Lib.hid k1
 clear z0 z1 z2 z3 z4 f0 f1 f2 f3 f4 k1 hW5
 obtain ⟨c0, c1, c2, c3, c4⟩ := k2
 refine bodyPost_ret (v := .tuple #[.agg #[.slice none 0 0, .int .i64 0, .int .i64 0, .slice none 0 0, .bool false], .int .i64 0, .bool false, .int .i64 14]) (by simp [results, Try.results49, go_sem, c0, c1, c2, c3, c4]) rfl ⟨rfl, K1.out⟩
set_option maxRecDepth 100000 in
set_option maxHeartbeats 8000000 in
theorem rbatch_r {ns ps : List T3} {last done : Int} {em : Bool} (hr : ¬ RightS ns last done ps em) (hl1 : ns.length ≤ 2000) (hl2 : ps.length ≤ 2000) {v : Value} {p : Int} (w : World) (hv : StRG w v ns last done ps em) :
  Calls Try.prog 50 #[v, .int .i64 p] w fun e w' => e = .returned (.tuple #[zv, .slice none 0 0, .int .i64 14]) ∧ Below w.heap.size w w' := by
 have HCK : Hid (∀ W, Below w.heap.size w W → Calls Try.prog 20 #[v] W fun e w' => e = .returned (.int .i64 14) ∧ Below W.heap.size W w') := fun W h => rcheck_w hr hl1 hl2 W (hv.below h)
 obtain ⟨vn, vp, rfl, hn, hp⟩ := hv
 obtain ⟨pn, cn, hA⟩ := hn.slice
 obtain ⟨pp, cp, hB⟩ := hp.slice
 subst hA
 subst hB
 have HB0 : Hid (R2 w (.slice pn ns.length cn) (.slice pp ps.length cp) last done em ((w.alloc (Obj.cells #[.slice pn ns.length cn, .int .i64 last, .int .i64 done, .slice pp ps.length cp, .bool em] 46)).alloc (Obj.cells #[.slice none 0 0, .int .i64 0, .int .i64 0, .slice none 0 0, .bool false] 46))) := R2.mk' w _ _ _ _ _
 clear hn hp hr
 go_enter Try.func50, Try.ntmps50
 go_upto_region 1 with fail
 generalize ((w.alloc (Obj.cells #[.slice pn ns.length cn, .int .i64 last, .int .i64 done, .slice pp ps.length cp, .bool em] 46)).alloc (Obj.cells #[.slice none 0 0, .int .i64 0, .int .i64 0, .slice none 0 0, .bool false] 46)) = W0 at *
 obtain ⟨c0, c1, c2, c3, c4⟩ := HB0.out.facts
 go_wp2_with fail
 refine (HCK.out _ HB0.out.below).mono ?_
 rintro e W1 ⟨rfl, hb1⟩
 have HB1 := Lib.hid (HB0.out.step hb1)
 clear hb1 c0 c1 c2 c3 c4
 obtain ⟨z0, z1, z2, z3, z4⟩ := HB1.out.zero
 have f0 := (HB1.out.frz 0).2
 have f1 := (HB1.out.frz 1).2
 have f2 := (HB1.out.frz 2).2
 have f3 := (HB1.out.frz 3).2
 have f4 := (HB1.out.frz 4).2
 go_wp2_with fail
 obtain ⟨W5, hW5⟩ : ∃ W5, W5 = (((((W1.setCell ⟨w.heap.size + 1, 0, none⟩ (.slice none 0 0)).setCell ⟨w.heap.size + 1, 1, none⟩ (.int .i64 0)).setCell ⟨w.heap.size + 1, 2, none⟩ (.int .i64 0)).setCell ⟨w.heap.size + 1, 3, none⟩ (.slice none 0 0)).setCell ⟨w.heap.size + 1, 4, none⟩ (.bool false)) := ⟨_, rfl⟩
 rw [← hW5]
 obtain ⟨k1, k2⟩ := HB1.out.fin hW5
 have K1 := Lib.hid k1
 clear z0 z1 z2 z3 z4 f0 f1 f2 f3 f4 k1 hW5
 obtain ⟨c0, c1, c2, c3, c4⟩ := k2
 refine bodyPost_ret (v := .tuple #[.agg #[.slice none 0 0, .int .i64 0, .int .i64 0, .slice none 0 0, .bool false], .slice none 0 0, .int .i64 14]) (by simp [results, Try.results50, go_sem, c0, c1, c2, c3, c4]) rfl ⟨rfl, K1.out⟩
set_option maxRecDepth 100000 in
set_option maxHeartbeats 8000000 in
theorem rmark_r {ns ps : List T3} {last done : Int} {em : Bool} (hr : ¬ RightS ns last done ps em) (hl1 : ns.length ≤ 2000) (hl2 : ps.length ≤ 2000) {v : Value} (w : World) (hv : StRG w v ns last done ps em) :
  Calls Try.prog 51 #[v] w fun e w' => e = .returned (.tuple #[zv, .bool false, .int .i64 14]) ∧ Below w.heap.size w w' := by
 have HCK : Hid (∀ W, Below w.heap.size w W → Calls Try.prog 20 #[v] W fun e w' => e = .returned (.int .i64 14) ∧ Below W.heap.size W w') := fun W h => rcheck_w hr hl1 hl2 W (hv.below h)
 obtain ⟨vn, vp, rfl, hn, hp⟩ := hv
 obtain ⟨pn, cn, hA⟩ := hn.slice
 obtain ⟨pp, cp, hB⟩ := hp.slice
 subst hA
 subst hB
 have HB0 : Hid (R2 w (.slice pn ns.length cn) (.slice pp ps.length cp) last done em ((w.alloc (Obj.cells #[.slice pn ns.length cn, .int .i64 last, .int .i64 done, .slice pp ps.length cp, .bool em] 46)).alloc (Obj.cells #[.slice none 0 0, .int .i64 0, .int .i64 0, .slice none 0 0, .bool false] 46))) := R2.mk' w _ _ _ _ _
 clear hn hp hr
 go_enter Try.func51, Try.ntmps51
 go_upto_region 1 with fail
 generalize ((w.alloc (Obj.cells #[.slice pn ns.length cn, .int .i64 last, .int .i64 done, .slice pp ps.length cp, .bool em] 46)).alloc (Obj.cells #[.slice none 0 0, .int .i64 0, .int .i64 0, .slice none 0 0, .bool false] 46)) = W0 at *
 obtain ⟨c0, c1, c2, c3, c4⟩ := HB0.out.facts
 go_wp2_with fail
 refine (HCK.out _ HB0.out.below).mono ?_
 rintro e W1 ⟨rfl, hb1⟩
 have HB1 := Lib.hid (HB0.out.step hb1)
 clear hb1 c0 c1 c2 c3 c4
 obtain ⟨z0, z1, z2, z3, z4⟩ := HB1.out.zero
 have f0 := (HB1.out.frz 0).2
 have f1 := (HB1.out.frz 1).2
 have f2 := (HB1.out.frz 2).2
 have f3 := (HB1.out.frz 3).2
 have f4 := (HB1.out.frz 4).2
 go_wp2_with fail
 obtain ⟨W5, hW5⟩ : ∃ W5, W5 = (((((W1.setCell ⟨w.heap.size + 1, 0, none⟩ (.slice none 0 0)).setCell ⟨w.heap.size + 1, 1, none⟩ (.int .i64 0)).setCell ⟨w.heap.size + 1, 2, none⟩ (.int .i64 0)).setCell ⟨w.heap.size + 1, 3, none⟩ (.slice none 0 0)).setCell ⟨w.heap.size + 1, 4, none⟩ (.bool false)) := ⟨_, rfl⟩
 rw [← hW5]
 obtain ⟨k1, k2⟩ := HB1.out.fin hW5
 have K1 := Lib.hid k1
 clear z0 z1 z2 z3 z4 f0 f1 f2 f3 f4 k1 hW5
 obtain ⟨c0, c1, c2, c3, c4⟩ := k2
 refine bodyPost_ret (v := .tuple #[.agg #[.slice none 0 0, .int .i64 0, .int .i64 0, .slice none 0 0, .bool false], .bool false, .int .i64 14]) (by simp [results, Try.results51, go_sem, c0, c1, c2, c3, c4]) rfl ⟨rfl, K1.out⟩
end Go.Proofs.Ytgbafpjeapkklaa.Mb
namespace Go.Proofs.Ytgbafpjeapkklaa.Mb
open Go.RowKit
set_option linter.unusedVariables false
set_option linter.unusedSimpArgs false
set_option maxRecDepth 100000 in
set_option maxHeartbeats 4000000 in
theorem begin_neg_g {ns ps : List T3} {last done : Int} {em : Bool} (hr : RightS ns last done ps em) {v : Value} {p x : Int} (hneg : p < 0) (w : World) (hv : StG w v ns last done ps em) :
  Calls Try.prog 10 #[v, .int .i64 p, .int .i64 x] w fun e w' => e = .returned (.tuple #[zv, .bool false, .int .i64 1]) ∧ Below w.heap.size w w' := by
 obtain ⟨hf1, hf2⟩ := hr.few
 obtain ⟨vn, vp, rfl, hn, hp'⟩ := hv
 have HCK : Hid (∀ W, Below w.heap.size w W → Calls Try.prog 18 #[.agg #[vn, .int .i64 last, .int .i64 done, vp, .bool em]] W fun e w' => e = .returned (.int .i64 0) ∧ Below W.heap.size W w') := fun W h => check_g ns ps last done em 0 (fun _ => rfl) (fun h => absurd hr h) vn vp W (hn.below h).1 (hp'.below h).1 (by omega) (by omega)
 have HB0 : Hid (CB w vn vp last done em ((w.alloc (Obj.cells #[vn, .int .i64 last, .int .i64 done, vp, .bool em] 28)).alloc (Obj.cells #[.slice none 0 0, .int .i64 0, .int .i64 0, .slice none 0 0, .bool false] 28))) := CB.mk w vn vp last done em
 obtain ⟨pn, cn, hA⟩ := hn.slice
 obtain ⟨pp, cp, hB⟩ := hp'.slice
 subst hA
 subst hB
 clear hn hp'
 have tp : decide (p < 0) = true := decide_eq_true hneg
 clear hr
 go_enter Try.func10, Try.ntmps10
 go_upto_region 1 with fail
 generalize ((w.alloc (Obj.cells #[.slice pn ns.length cn, .int .i64 last, .int .i64 done, .slice pp ps.length cp, .bool em] 28)).alloc (Obj.cells #[.slice none 0 0, .int .i64 0, .int .i64 0, .slice none 0 0, .bool false] 28)) = W0 at *
 obtain ⟨c0, c1, c2, c3, c4⟩ := HB0.out.facts
 go_wp2_with fail
 refine (HCK.out _ HB0.out.1).mono ?_
 rintro e W1 ⟨rfl, hb1⟩
 have HB1 := Lib.hid (HB0.out.step hb1)
 clear hb1 c0 c1 c2 c3 c4
 obtain ⟨z0, z1, z2, z3, z4⟩ := HB1.out.zero
 obtain ⟨f0, f1, f2, f3, f4⟩ := HB1.out.frz
 go_wp2_with fail
 obtain ⟨W5, hW5⟩ : ∃ W5, W5 = (((((W1.setCell ⟨w.heap.size + 1, 0, none⟩ (.slice none 0 0)).setCell ⟨w.heap.size + 1, 1, none⟩ (.int .i64 0)).setCell ⟨w.heap.size + 1, 2, none⟩ (.int .i64 0)).setCell ⟨w.heap.size + 1, 3, none⟩ (.slice none 0 0)).setCell ⟨w.heap.size + 1, 4, none⟩ (.bool false)) := ⟨_, rfl⟩
 rw [← hW5]
 obtain ⟨k1, k2⟩ := HB1.out.out hW5
 have K1 := Lib.hid k1
 clear z0 z1 z2 z3 z4 f0 f1 f2 f3 f4 k1 hW5
 obtain ⟨c0, c1, c2, c3, c4⟩ := z_cells k2
 refine bodyPost_ret (v := .tuple #[.agg #[.slice none 0 0, .int .i64 0, .int .i64 0, .slice none 0 0, .bool false], .bool false, .int .i64 1]) (by simp [results, Try.results10, go_sem, c0, c1, c2, c3, c4]) rfl ⟨rfl, K1.out⟩
set_option maxRecDepth 100000 in
set_option maxHeartbeats 4000000 in
theorem begin_busy_g {ns ps : List T3} {last done : Int} {em : Bool} (hr : RightS ns last done ps em) {v : Value} {p x : Int} (hp : 0 ≤ p) {i : Nat} (hi : idx (fun x => x.1 == p) ps = (i : Int)) (w : World) (hv : StG w v ns last done ps em) :
  Calls Try.prog 10 #[v, .int .i64 p, .int .i64 x] w fun e w' => e = .returned (.tuple #[zv, .bool false, .int .i64 300]) ∧ Below w.heap.size w w' := by
 obtain ⟨hf1, hf2⟩ := hr.few
 obtain ⟨vn, vp, rfl, hn, hp'⟩ := hv
 have HCK : Hid (∀ W, Below w.heap.size w W → Calls Try.prog 18 #[.agg #[vn, .int .i64 last, .int .i64 done, vp, .bool em]] W fun e w' => e = .returned (.int .i64 0) ∧ Below W.heap.size W w') := fun W h => check_g ns ps last done em 0 (fun _ => rfl) (fun h => absurd hr h) vn vp W (hn.below h).1 (hp'.below h).1 (by omega) (by omega)
 have HPU : Hid (∀ W, Below w.heap.size w W → Calls Try.prog 39 #[.agg #[vn, .int .i64 last, .int .i64 done, vp, .bool em], .int .i64 p] W fun e w' => e = .returned (.int .i64 i) ∧ Below W.heap.size W w') := fun W h => by
  rw [← hi]
  exact push_at (by omega) _ _ _ p W (hp'.below h).1
 have HB0 : Hid (CB w vn vp last done em ((w.alloc (Obj.cells #[vn, .int .i64 last, .int .i64 done, vp, .bool em] 28)).alloc (Obj.cells #[.slice none 0 0, .int .i64 0, .int .i64 0, .slice none 0 0, .bool false] 28))) := CB.mk w vn vp last done em
 obtain ⟨pn, cn, hA⟩ := hn.slice
 obtain ⟨pp, cp, hB⟩ := hp'.slice
 subst hA
 subst hB
 clear hn hp'
 have tp : decide (p < 0) = false := decide_eq_false (by omega)
 have ti : decide ((0 : Int) ≤ (i : Int)) = true := decide_eq_true (by omega)
 clear hp hi
 clear hr
 go_enter Try.func10, Try.ntmps10
 go_upto_region 1 with fail
 generalize ((w.alloc (Obj.cells #[.slice pn ns.length cn, .int .i64 last, .int .i64 done, .slice pp ps.length cp, .bool em] 28)).alloc (Obj.cells #[.slice none 0 0, .int .i64 0, .int .i64 0, .slice none 0 0, .bool false] 28)) = W0 at *
 obtain ⟨c0, c1, c2, c3, c4⟩ := HB0.out.facts
 go_wp2_with fail
 refine (HCK.out _ HB0.out.1).mono ?_
 rintro e W1 ⟨rfl, hb1⟩
 have HB1 := Lib.hid (HB0.out.step hb1)
 clear hb1 c0 c1 c2 c3 c4
 obtain ⟨c0, c1, c2, c3, c4⟩ := HB1.out.facts
 go_wp2_with fail
 refine (HPU.out _ HB1.out.1).mono ?_
 rintro e W1' ⟨rfl, hb1⟩
 have HB1' := Lib.hid (HB1.out.step hb1)
 clear hb1 c0 c1 c2 c3 c4
 obtain ⟨z0, z1, z2, z3, z4⟩ := HB1'.out.zero
 obtain ⟨f0, f1, f2, f3, f4⟩ := HB1'.out.frz
 go_wp2_with fail
 obtain ⟨W5, hW5⟩ : ∃ W5, W5 = (((((W1'.setCell ⟨w.heap.size + 1, 0, none⟩ (.slice none 0 0)).setCell ⟨w.heap.size + 1, 1, none⟩ (.int .i64 0)).setCell ⟨w.heap.size + 1, 2, none⟩ (.int .i64 0)).setCell ⟨w.heap.size + 1, 3, none⟩ (.slice none 0 0)).setCell ⟨w.heap.size + 1, 4, none⟩ (.bool false)) := ⟨_, rfl⟩
 rw [← hW5]
 obtain ⟨k1, k2⟩ := HB1'.out.out hW5
 have K1 := Lib.hid k1
 clear z0 z1 z2 z3 z4 f0 f1 f2 f3 f4 k1 hW5
 obtain ⟨c0, c1, c2, c3, c4⟩ := z_cells k2
 refine bodyPost_ret (v := .tuple #[.agg #[.slice none 0 0, .int .i64 0, .int .i64 0, .slice none 0 0, .bool false], .bool false, .int .i64 300]) (by simp [results, Try.results10, go_sem, c0, c1, c2, c3, c4]) rfl ⟨rfl, K1.out⟩
set_option maxRecDepth 100000 in
set_option maxHeartbeats 4000000 in
theorem finish_none_g {ns ps : List T3} {last done : Int} {em : Bool} (hr : RightS ns last done ps em) {v : Value} {p : Int} (hno : idx (fun x => x.1 == p) ps = -1) (w : World) (hv : StG w v ns last done ps em) :
  Calls Try.prog 11 #[v, .int .i64 p] w fun e w' => e = .returned (.tuple #[zv, .int .i64 301]) ∧ Below w.heap.size w w' := by
 obtain ⟨hf1, hf2⟩ := hr.few
 obtain ⟨vn, vp, rfl, hn, hp'⟩ := hv
 have HCK : Hid (∀ W, Below w.heap.size w W → Calls Try.prog 18 #[.agg #[vn, .int .i64 last, .int .i64 done, vp, .bool em]] W fun e w' => e = .returned (.int .i64 0) ∧ Below W.heap.size W w') := fun W h => check_g ns ps last done em 0 (fun _ => rfl) (fun h => absurd hr h) vn vp W (hn.below h).1 (hp'.below h).1 (by omega) (by omega)
 have HPU : Hid (∀ W, Below w.heap.size w W → Calls Try.prog 39 #[.agg #[vn, .int .i64 last, .int .i64 done, vp, .bool em], .int .i64 p] W fun e w' => e = .returned (.int .i64 (-1)) ∧ Below W.heap.size W w') := fun W h => by
  rw [← hno]
  exact push_at (by omega) _ _ _ p W (hp'.below h).1
 have HB0 : Hid (CB w vn vp last done em ((w.alloc (Obj.cells #[vn, .int .i64 last, .int .i64 done, vp, .bool em] 28)).alloc (Obj.cells #[.slice none 0 0, .int .i64 0, .int .i64 0, .slice none 0 0, .bool false] 28))) := CB.mk w vn vp last done em
 obtain ⟨pn, cn, hA⟩ := hn.slice
 obtain ⟨pp, cp, hB⟩ := hp'.slice
 subst hA
 subst hB
 clear hn hp'
 clear hno
 clear hr
 go_enter Try.func11, Try.ntmps11
 go_upto_region 1 with fail
 generalize ((w.alloc (Obj.cells #[.slice pn ns.length cn, .int .i64 last, .int .i64 done, .slice pp ps.length cp, .bool em] 28)).alloc (Obj.cells #[.slice none 0 0, .int .i64 0, .int .i64 0, .slice none 0 0, .bool false] 28)) = W0 at *
 obtain ⟨c0, c1, c2, c3, c4⟩ := HB0.out.facts
 go_wp2_with fail
 refine (HCK.out _ HB0.out.1).mono ?_
 rintro e W1 ⟨rfl, hb1⟩
 have HB1 := Lib.hid (HB0.out.step hb1)
 clear hb1 c0 c1 c2 c3 c4
 obtain ⟨c0, c1, c2, c3, c4⟩ := HB1.out.facts
 go_wp2_with fail
 refine (HPU.out _ HB1.out.1).mono ?_
 rintro e W1' ⟨rfl, hb1⟩
 have HB1' := Lib.hid (HB1.out.step hb1)
 clear hb1 c0 c1 c2 c3 c4
 obtain ⟨z0, z1, z2, z3, z4⟩ := HB1'.out.zero
 obtain ⟨f0, f1, f2, f3, f4⟩ := HB1'.out.frz
 go_wp2_with fail
 obtain ⟨W5, hW5⟩ : ∃ W5, W5 = (((((W1'.setCell ⟨w.heap.size + 1, 0, none⟩ (.slice none 0 0)).setCell ⟨w.heap.size + 1, 1, none⟩ (.int .i64 0)).setCell ⟨w.heap.size + 1, 2, none⟩ (.int .i64 0)).setCell ⟨w.heap.size + 1, 3, none⟩ (.slice none 0 0)).setCell ⟨w.heap.size + 1, 4, none⟩ (.bool false)) := ⟨_, rfl⟩
 rw [← hW5]
 obtain ⟨k1, k2⟩ := HB1'.out.out hW5
 have K1 := Lib.hid k1
 clear z0 z1 z2 z3 z4 f0 f1 f2 f3 f4 k1 hW5
 obtain ⟨c0, c1, c2, c3, c4⟩ := z_cells k2
 refine bodyPost_ret (v := .tuple #[.agg #[.slice none 0 0, .int .i64 0, .int .i64 0, .slice none 0 0, .bool false], .int .i64 301]) (by simp [results, Try.results11, go_sem, c0, c1, c2, c3, c4]) rfl ⟨rfl, K1.out⟩
end Go.Proofs.Ytgbafpjeapkklaa.Mb
namespace Go.Proofs.Ytgbafpjeapkklaa.Mb
open Go.RowKit
set_option linter.unusedVariables false
set_option linter.unusedSimpArgs false
set_option maxRecDepth 100000 in
set_option maxHeartbeats 4000000 in
theorem begin_r {ns ps : List T3} {last done : Int} {em : Bool} (hr : ¬ RightS ns last done ps em) (hl1 : ns.length ≤ 100000) (hl2 : ps.length ≤ 100000) {v : Value} {p x : Int} (w : World) (hv : StG w v ns last done ps em) :
  Calls Try.prog 10 #[v, .int .i64 p, .int .i64 x] w fun e w' => e = .returned (.tuple #[zv, .bool false, .int .i64 14]) ∧ Below w.heap.size w w' := by
 obtain ⟨vn, vp, rfl, hn, hp⟩ := hv
 have HCK : Hid (∀ W, Below w.heap.size w W → Calls Try.prog 18 #[.agg #[vn, .int .i64 last, .int .i64 done, vp, .bool em]] W fun e w' => e = .returned (.int .i64 14) ∧ Below W.heap.size W w') := fun W h => check_g ns ps last done em 14 (fun h => absurd h hr) (fun _ => rfl) vn vp W (hn.below h).1 (hp.below h).1 (by omega) (by omega)
 have HB0 : Hid (CB w vn vp last done em ((w.alloc (Obj.cells #[vn, .int .i64 last, .int .i64 done, vp, .bool em] 28)).alloc (Obj.cells #[.slice none 0 0, .int .i64 0, .int .i64 0, .slice none 0 0, .bool false] 28))) := CB.mk w vn vp last done em
 obtain ⟨pn, cn, hA⟩ := hn.slice
 obtain ⟨pp, cp, hB⟩ := hp.slice
 subst hA
 subst hB
 clear hn hp hr
 go_enter Try.func10, Try.ntmps10
 go_upto_region 1 with fail
 generalize ((w.alloc (Obj.cells #[.slice pn ns.length cn, .int .i64 last, .int .i64 done, .slice pp ps.length cp, .bool em] 28)).alloc (Obj.cells #[.slice none 0 0, .int .i64 0, .int .i64 0, .slice none 0 0, .bool false] 28)) = W0 at *
 obtain ⟨c0, c1, c2, c3, c4⟩ := HB0.out.facts
 go_wp2_with fail
 refine (HCK.out _ HB0.out.1).mono ?_
 rintro e W1 ⟨rfl, hb1⟩
 have HB1 := Lib.hid (HB0.out.step hb1)
 clear hb1 c0 c1 c2 c3 c4
 obtain ⟨z0, z1, z2, z3, z4⟩ := HB1.out.zero
 obtain ⟨f0, f1, f2, f3, f4⟩ := HB1.out.frz
 go_wp2_with fail
 obtain ⟨W5, hW5⟩ : ∃ W5, W5 = (((((W1.setCell ⟨w.heap.size + 1, 0, none⟩ (.slice none 0 0)).setCell ⟨w.heap.size + 1, 1, none⟩ (.int .i64 0)).setCell ⟨w.heap.size + 1, 2, none⟩ (.int .i64 0)).setCell ⟨w.heap.size + 1, 3, none⟩ (.slice none 0 0)).setCell ⟨w.heap.size + 1, 4, none⟩ (.bool false)) := ⟨_, rfl⟩
 rw [← hW5]
 obtain ⟨k1, k2⟩ := HB1.out.out hW5
 have K1 := Lib.hid k1
 clear z0 z1 z2 z3 z4 f0 f1 f2 f3 f4 k1 hW5
 obtain ⟨c0, c1, c2, c3, c4⟩ := z_cells k2
 refine bodyPost_ret (v := .tuple #[.agg #[.slice none 0 0, .int .i64 0, .int .i64 0, .slice none 0 0, .bool false], .bool false, .int .i64 14]) (by simp [results, Try.results10, go_sem, c0, c1, c2, c3, c4]) rfl ⟨rfl, K1.out⟩
set_option maxRecDepth 100000 in
set_option maxHeartbeats 4000000 in
theorem finish_r {ns ps : List T3} {last done : Int} {em : Bool} (hr : ¬ RightS ns last done ps em) (hl1 : ns.length ≤ 100000) (hl2 : ps.length ≤ 100000) {v : Value} {p : Int} (w : World) (hv : StG w v ns last done ps em) :
  Calls Try.prog 11 #[v, .int .i64 p] w fun e w' => e = .returned (.tuple #[zv, .int .i64 14]) ∧ Below w.heap.size w w' := by
 obtain ⟨vn, vp, rfl, hn, hp⟩ := hv
 have HCK : Hid (∀ W, Below w.heap.size w W → Calls Try.prog 18 #[.agg #[vn, .int .i64 last, .int .i64 done, vp, .bool em]] W fun e w' => e = .returned (.int .i64 14) ∧ Below W.heap.size W w') := fun W h => check_g ns ps last done em 14 (fun h => absurd h hr) (fun _ => rfl) vn vp W (hn.below h).1 (hp.below h).1 (by omega) (by omega)
 have HB0 : Hid (CB w vn vp last done em ((w.alloc (Obj.cells #[vn, .int .i64 last, .int .i64 done, vp, .bool em] 28)).alloc (Obj.cells #[.slice none 0 0, .int .i64 0, .int .i64 0, .slice none 0 0, .bool false] 28))) := CB.mk w vn vp last done em
 obtain ⟨pn, cn, hA⟩ := hn.slice
 obtain ⟨pp, cp, hB⟩ := hp.slice
 subst hA
 subst hB
 clear hn hp hr
 go_enter Try.func11, Try.ntmps11
 go_upto_region 1 with fail
 generalize ((w.alloc (Obj.cells #[.slice pn ns.length cn, .int .i64 last, .int .i64 done, .slice pp ps.length cp, .bool em] 28)).alloc (Obj.cells #[.slice none 0 0, .int .i64 0, .int .i64 0, .slice none 0 0, .bool false] 28)) = W0 at *
 obtain ⟨c0, c1, c2, c3, c4⟩ := HB0.out.facts
 go_wp2_with fail
 refine (HCK.out _ HB0.out.1).mono ?_
 rintro e W1 ⟨rfl, hb1⟩
 have HB1 := Lib.hid (HB0.out.step hb1)
 clear hb1 c0 c1 c2 c3 c4
 obtain ⟨z0, z1, z2, z3, z4⟩ := HB1.out.zero
 obtain ⟨f0, f1, f2, f3, f4⟩ := HB1.out.frz
 go_wp2_with fail
 obtain ⟨W5, hW5⟩ : ∃ W5, W5 = (((((W1.setCell ⟨w.heap.size + 1, 0, none⟩ (.slice none 0 0)).setCell ⟨w.heap.size + 1, 1, none⟩ (.int .i64 0)).setCell ⟨w.heap.size + 1, 2, none⟩ (.int .i64 0)).setCell ⟨w.heap.size + 1, 3, none⟩ (.slice none 0 0)).setCell ⟨w.heap.size + 1, 4, none⟩ (.bool false)) := ⟨_, rfl⟩
 rw [← hW5]
 obtain ⟨k1, k2⟩ := HB1.out.out hW5
 have K1 := Lib.hid k1
 clear z0 z1 z2 z3 z4 f0 f1 f2 f3 f4 k1 hW5
 obtain ⟨c0, c1, c2, c3, c4⟩ := z_cells k2
 refine bodyPost_ret (v := .tuple #[.agg #[.slice none 0 0, .int .i64 0, .int .i64 0, .slice none 0 0, .bool false], .int .i64 14]) (by simp [results, Try.results11, go_sem, c0, c1, c2, c3, c4]) rfl ⟨rfl, K1.out⟩
set_option maxRecDepth 100000 in
set_option maxHeartbeats 4000000 in
theorem pop_r {ns ps : List T3} {last done : Int} {em : Bool} (hr : ¬ RightS ns last done ps em) (hl1 : ns.length ≤ 100000) (hl2 : ps.length ≤ 100000) {v : Value} (w : World) (hv : StG w v ns last done ps em) :
  Calls Try.prog 21 #[v] w fun e w' => e = .returned (.tuple #[zv, .int .i64 0, .bool false, .int .i64 14]) ∧ Below w.heap.size w w' := by
 obtain ⟨vn, vp, rfl, hn, hp⟩ := hv
 have HCK : Hid (∀ W, Below w.heap.size w W → Calls Try.prog 18 #[.agg #[vn, .int .i64 last, .int .i64 done, vp, .bool em]] W fun e w' => e = .returned (.int .i64 14) ∧ Below W.heap.size W w') := fun W h => check_g ns ps last done em 14 (fun h => absurd h hr) (fun _ => rfl) vn vp W (hn.below h).1 (hp.below h).1 (by omega) (by omega)
 have HB0 : Hid (CB w vn vp last done em ((w.alloc (Obj.cells #[vn, .int .i64 last, .int .i64 done, vp, .bool em] 28)).alloc (Obj.cells #[.slice none 0 0, .int .i64 0, .int .i64 0, .slice none 0 0, .bool false] 28))) := CB.mk w vn vp last done em
 obtain ⟨pn, cn, hA⟩ := hn.slice
 obtain ⟨pp, cp, hB⟩ := hp.slice
 subst hA
 subst hB
 clear hn hp hr
 go_enter Try.func21, Try.ntmps21
 go_upto_region 1 with fail
 generalize ((w.alloc (Obj.cells #[.slice pn ns.length cn, .int .i64 last, .int .i64 done, .slice pp ps.length cp, .bool em] 28)).alloc (Obj.cells #[.slice none 0 0, .int .i64 0, .int .i64 0, .slice none 0 0, .bool false] 28)) = W0 at *
 obtain ⟨c0, c1, c2, c3, c4⟩ := HB0.out.facts
 go_wp2_with fail
 refine (HCK.out _ HB0.out.1).mono ?_
 rintro e W1 ⟨rfl, hb1⟩
 have HB1 := Lib.hid (HB0.out.step hb1)
 clear hb1 c0 c1 c2 c3 c4
 obtain ⟨z0, z1, z2, z3, z4⟩ := HB1.out.zero
 obtain ⟨f0, f1, f2, f3, f4⟩ := HB1.out.frz
 go_wp2_with fail
 obtain ⟨W5, hW5⟩ : ∃ W5, W5 = (((((W1.setCell ⟨w.heap.size + 1, 0, none⟩ (.slice none 0 0)).setCell ⟨w.heap.size + 1, 1, none⟩ (.int .i64 0)).setCell ⟨w.heap.size + 1, 2, none⟩ (.int .i64 0)).setCell ⟨w.heap.size + 1, 3, none⟩ (.slice none 0 0)).setCell ⟨w.heap.size + 1, 4, none⟩ (.bool false)) := ⟨_, rfl⟩
 rw [← hW5]
 obtain ⟨k1, k2⟩ := HB1.out.out hW5
 have K1 := Lib.hid k1
 clear z0 z1 z2 z3 z4 f0 f1 f2 f3 f4 k1 hW5
 obtain ⟨c0, c1, c2, c3, c4⟩ := z_cells k2
 refine bodyPost_ret (v := .tuple #[.agg #[.slice none 0 0, .int .i64 0, .int .i64 0, .slice none 0 0, .bool false], .int .i64 0, .bool false, .int .i64 14]) (by simp [results, Try.results21, go_sem, c0, c1, c2, c3, c4]) rfl ⟨rfl, K1.out⟩
set_option maxRecDepth 100000 in
set_option maxHeartbeats 4000000 in
theorem batch_r {ns ps : List T3} {last done : Int} {em : Bool} (hr : ¬ RightS ns last done ps em) (hl1 : ns.length ≤ 100000) (hl2 : ps.length ≤ 100000) {v : Value} {p : Int} (w : World) (hv : StG w v ns last done ps em) :
  Calls Try.prog 12 #[v, .int .i64 p] w fun e w' => e = .returned (.tuple #[zv, .slice none 0 0, .int .i64 14]) ∧ Below w.heap.size w w' := by
 obtain ⟨vn, vp, rfl, hn, hp⟩ := hv
 have HCK : Hid (∀ W, Below w.heap.size w W → Calls Try.prog 18 #[.agg #[vn, .int .i64 last, .int .i64 done, vp, .bool em]] W fun e w' => e = .returned (.int .i64 14) ∧ Below W.heap.size W w') := fun W h => check_g ns ps last done em 14 (fun h => absurd h hr) (fun _ => rfl) vn vp W (hn.below h).1 (hp.below h).1 (by omega) (by omega)
 have HB0 : Hid (CB w vn vp last done em ((w.alloc (Obj.cells #[vn, .int .i64 last, .int .i64 done, vp, .bool em] 28)).alloc (Obj.cells #[.slice none 0 0, .int .i64 0, .int .i64 0, .slice none 0 0, .bool false] 28))) := CB.mk w vn vp last done em
 obtain ⟨pn, cn, hA⟩ := hn.slice
 obtain ⟨pp, cp, hB⟩ := hp.slice
 subst hA
 subst hB
 clear hn hp hr
 go_enter Try.func12, Try.ntmps12
 go_upto_region 1 with fail
 generalize ((w.alloc (Obj.cells #[.slice pn ns.length cn, .int .i64 last, .int .i64 done, .slice pp ps.length cp, .bool em] 28)).alloc (Obj.cells #[.slice none 0 0, .int .i64 0, .int .i64 0, .slice none 0 0, .bool false] 28)) = W0 at *
 obtain ⟨c0, c1, c2, c3, c4⟩ := HB0.out.facts
 go_wp2_with fail
 refine (HCK.out _ HB0.out.1).mono ?_
 rintro e W1 ⟨rfl, hb1⟩
 have HB1 := Lib.hid (HB0.out.step hb1)
 clear hb1 c0 c1 c2 c3 c4
 obtain ⟨z0, z1, z2, z3, z4⟩ := HB1.out.zero
 obtain ⟨f0, f1, f2, f3, f4⟩ := HB1.out.frz
 go_wp2_with fail
 obtain ⟨W5, hW5⟩ : ∃ W5, W5 = (((((W1.setCell ⟨w.heap.size + 1, 0, none⟩ (.slice none 0 0)).setCell ⟨w.heap.size + 1, 1, none⟩ (.int .i64 0)).setCell ⟨w.heap.size + 1, 2, none⟩ (.int .i64 0)).setCell ⟨w.heap.size + 1, 3, none⟩ (.slice none 0 0)).setCell ⟨w.heap.size + 1, 4, none⟩ (.bool false)) := ⟨_, rfl⟩
 rw [← hW5]
 obtain ⟨k1, k2⟩ := HB1.out.out hW5
 have K1 := Lib.hid k1
 clear z0 z1 z2 z3 z4 f0 f1 f2 f3 f4 k1 hW5
 obtain ⟨c0, c1, c2, c3, c4⟩ := z_cells k2
 refine bodyPost_ret (v := .tuple #[.agg #[.slice none 0 0, .int .i64 0, .int .i64 0, .slice none 0 0, .bool false], .slice none 0 0, .int .i64 14]) (by simp [results, Try.results12, go_sem, c0, c1, c2, c3, c4]) rfl ⟨rfl, K1.out⟩
set_option maxRecDepth 100000 in
set_option maxHeartbeats 4000000 in
theorem mark_r {ns ps : List T3} {last done : Int} {em : Bool} (hr : ¬ RightS ns last done ps em) (hl1 : ns.length ≤ 100000) (hl2 : ps.length ≤ 100000) {v : Value} (w : World) (hv : StG w v ns last done ps em) :
  Calls Try.prog 13 #[v] w fun e w' => e = .returned (.tuple #[zv, .bool false, .int .i64 14]) ∧ Below w.heap.size w w' := by
 obtain ⟨vn, vp, rfl, hn, hp⟩ := hv
 have HCK : Hid (∀ W, Below w.heap.size w W → Calls Try.prog 18 #[.agg #[vn, .int .i64 last, .int .i64 done, vp, .bool em]] W fun e w' => e = .returned (.int .i64 14) ∧ Below W.heap.size W w') := fun W h => check_g ns ps last done em 14 (fun h => absurd h hr) (fun _ => rfl) vn vp W (hn.below h).1 (hp.below h).1 (by omega) (by omega)
 have HB0 : Hid (CB w vn vp last done em ((w.alloc (Obj.cells #[vn, .int .i64 last, .int .i64 done, vp, .bool em] 28)).alloc (Obj.cells #[.slice none 0 0, .int .i64 0, .int .i64 0, .slice none 0 0, .bool false] 28))) := CB.mk w vn vp last done em
 obtain ⟨pn, cn, hA⟩ := hn.slice
 obtain ⟨pp, cp, hB⟩ := hp.slice
 subst hA
 subst hB
 clear hn hp hr
 go_enter Try.func13, Try.ntmps13
 go_upto_region 1 with fail
 generalize ((w.alloc (Obj.cells #[.slice pn ns.length cn, .int .i64 last, .int .i64 done, .slice pp ps.length cp, .bool em] 28)).alloc (Obj.cells #[.slice none 0 0, .int .i64 0, .int .i64 0, .slice none 0 0, .bool false] 28)) = W0 at *
 obtain ⟨c0, c1, c2, c3, c4⟩ := HB0.out.facts
 go_wp2_with fail
 refine (HCK.out _ HB0.out.1).mono ?_
 rintro e W1 ⟨rfl, hb1⟩
 have HB1 := Lib.hid (HB0.out.step hb1)
 clear hb1 c0 c1 c2 c3 c4
 obtain ⟨z0, z1, z2, z3, z4⟩ := HB1.out.zero
 obtain ⟨f0, f1, f2, f3, f4⟩ := HB1.out.frz
 go_wp2_with fail
 obtain ⟨W5, hW5⟩ : ∃ W5, W5 = (((((W1.setCell ⟨w.heap.size + 1, 0, none⟩ (.slice none 0 0)).setCell ⟨w.heap.size + 1, 1, none⟩ (.int .i64 0)).setCell ⟨w.heap.size + 1, 2, none⟩ (.int .i64 0)).setCell ⟨w.heap.size + 1, 3, none⟩ (.slice none 0 0)).setCell ⟨w.heap.size + 1, 4, none⟩ (.bool false)) := ⟨_, rfl⟩
 rw [← hW5]
 obtain ⟨k1, k2⟩ := HB1.out.out hW5
 have K1 := Lib.hid k1
 clear z0 z1 z2 z3 z4 f0 f1 f2 f3 f4 k1 hW5
 obtain ⟨c0, c1, c2, c3, c4⟩ := z_cells k2
 refine bodyPost_ret (v := .tuple #[.agg #[.slice none 0 0, .int .i64 0, .int .i64 0, .slice none 0 0, .bool false], .bool false, .int .i64 14]) (by simp [results, Try.results13, go_sem, c0, c1, c2, c3, c4]) rfl ⟨rfl, K1.out⟩
end Go.Proofs.Ytgbafpjeapkklaa.Mb
namespace Go.Proofs.Ytgbafpjeapkklaa.Mb
open Go.RowKit
set_option linter.unusedVariables false
set_option linter.unusedSimpArgs false
set_option maxRecDepth 100000 in
set_option maxHeartbeats 8000000 in
theorem finish_g {ns ps : List T3} {last done : Int} {em : Bool} (hr : RightS ns last done ps em) {v : Value} {i bj : Nat} {p nd : Int} {bx : T3} (ho : ps[i]? = some (p, (bj : Int), nd)) (hi : idx (fun x => x.1 == p) ps = (i : Int)) (hbx : ns[bj]? = some bx) (w : World) (hv : StG w v ns last done ps em) :
  Calls Try.prog 11 #[v, .int .i64 p] w fun e w' => ∃ v', e = .returned (.tuple #[v', .int .i64 0]) ∧ StG w' v' (ns.set bj (bx.1, bx.2.1, nd)) last done (ps.eraseIdx i) em ∧ Below w.heap.size w w' := by
 obtain ⟨hf1, hf2⟩ := hr.few
 have hbl := (List.getElem?_eq_some_iff.1 hbx).1
 obtain ⟨vn, vp, rfl, hn, hp⟩ := hv
 have HCK : Hid (∀ W, Below w.heap.size w W → Calls Try.prog 18 #[.agg #[vn, .int .i64 last, .int .i64 done, vp, .bool em]] W fun e w' => e = .returned (.int .i64 0) ∧ Below W.heap.size W w') := fun W h => check_g ns ps last done em 0 (fun _ => rfl) (fun h => absurd hr h) vn vp W (hn.below h).1 (hp.below h).1 (by omega) (by omega)
 have HPU : Hid (∀ W, Below w.heap.size w W → Calls Try.prog 39 #[.agg #[vn, .int .i64 last, .int .i64 done, vp, .bool em], .int .i64 p] W fun e w' => e = .returned (.int .i64 i) ∧ Below W.heap.size W w') := fun W h => by
  rw [← hi]
  exact push_at (by omega) _ _ _ p W (hp.below h).1
 have HCL : Hid (∀ W, Below w.heap.size w W → Calls Try.prog 40 #[.agg #[vn, .int .i64 last, .int .i64 done, vp, .bool em]] W fun e w' => ∃ vn' vp', e = .returned (.agg #[vn', .int .i64 last, .int .i64 done, vp', .bool em]) ∧
   w'.ownsRow W.heap.size 99 3 vn' ns.length (cellsT ns) ∧ w'.ownsRow W.heap.size 102 3 vp' ps.length (cellsT ps) ∧ Below W.heap.size W w') :=
  fun W h => clone_at (hn.below h).1 (hp.below h).1 (by omega) (by omega) _ _ _
 have HB0 : Hid (CB w vn vp last done em ((w.alloc (Obj.cells #[vn, .int .i64 last, .int .i64 done, vp, .bool em] 28)).alloc (Obj.cells #[.slice none 0 0, .int .i64 0, .int .i64 0, .slice none 0 0, .bool false] 28))) := CB.mk w vn vp last done em
 obtain ⟨pn, cn, hA⟩ := hn.slice
 obtain ⟨pp, cp, hB⟩ := hp.slice
 subst hA
 subst hB
 clear hn hp
 have HO := Lib.hid ho
 have HBX := Lib.hid hbx
 have hil : i < ps.length := (List.getElem?_eq_some_iff.1 ho).1
 have HLN := Lib.hid hbl
 have hbN : 0 < ns.length := by omega
 have HBN0 := Lib.hid hbN
 have HSMP : Hid (ps.length ≤ 2000) := hf2
 clear hr ho hi hbx
 have ti : decide ((i : Int) < 0) = false := decide_eq_false (by omega)
 go_enter Try.func11, Try.ntmps11
 go_upto_region 1 with fail
 generalize ((w.alloc (Obj.cells #[.slice pn ns.length cn, .int .i64 last, .int .i64 done, .slice pp ps.length cp, .bool em] 28)).alloc (Obj.cells #[.slice none 0 0, .int .i64 0, .int .i64 0, .slice none 0 0, .bool false] 28)) = W0 at *
 obtain ⟨c0, c1, c2, c3, c4⟩ := HB0.out.facts
 go_wp2_with fail
 refine (HCK.out _ HB0.out.1).mono ?_
 rintro e W1 ⟨rfl, hb1⟩
 have HB1 := Lib.hid (HB0.out.step hb1)
 clear hb1 c0 c1 c2 c3 c4
 obtain ⟨c0, c1, c2, c3, c4⟩ := HB1.out.facts
 go_wp2_with fail
 refine (HPU.out _ HB1.out.1).mono ?_
 rintro e W1' ⟨rfl, hb1⟩
 have HB1' := Lib.hid (HB1.out.step hb1)
 clear hb1 c0 c1 c2 c3 c4
 obtain ⟨c0, c1, c2, c3, c4⟩ := HB1'.out.facts
 go_wp2_with fail
 refine (HCL.out _ HB1'.out.1).mono ?_
 rintro e W2 ⟨vn', vp', rfl, r1, r2, hb2⟩
 obtain ⟨gn, cn', hA, _⟩ := own_some rfl r1 (by have := HBN0.out; omega)
 obtain ⟨gp, cp', hB, _⟩ := own_some rfl r2 (by omega)
 subst hA
 subst hB
 have HB2 := Lib.hid (HB1'.out.step hb2)
 obtain ⟨g, W3, hg, hW3, hC3⟩ := CO.made last done em HB2.out HB1'.out.size hb2.size r1 r2
 have HC3 := Lib.hid hC3
 clear hb2 r1 r2 c0 c1 c2 c3 c4 hC3
 go_upto_region 8 with fail
 rw [← hg, ← hW3]
 clear hg hW3
 obtain ⟨gp', cp'', e, _, _, ⟨curp, hcurp⟩, hcp⟩ := own_some rfl HC3.out.r2 (by omega)
 injection e with e _ e3
 injection e with e
 injection e with e
 subst e
 subst e3
 obtain ⟨x0, x1, x2⟩ := hcp i _ HO.out
 simp only at x0 x1 x2
 obtain ⟨y0, y1, y2, y3, y4, _⟩ := HC3.out.facts
 have hip : i < ps.length := hil
 have hip' : (i : Int) < (ps.length : Int) := by omega
 have hid' : decide ((i : Int) < (ps.length : Int)) = true := decide_eq_true hip'
 clear hcp hcurp
 go_upto_region 9 with fail
 obtain ⟨X, hX⟩ : ∃ X, X = W3.heap.size := ⟨_, rfl⟩
 obtain ⟨W4, hW4⟩ : ∃ W4, W4 = W3.alloc (Obj.cells #[.int .i64 p, .int .i64 (bj : Int), .int .i64 nd] 102) := ⟨_, rfl⟩
 rw [← hW4, ← hX]
 have hb4 : Below W3.heap.size W3 W4 := by rw [hW4]; exact (Below.refl _ _).alloc (Nat.le_refl _) _
 have hx4 : W4.heap[X]? = some (.cells #[.int .i64 p, .int .i64 (bj : Int), .int .i64 nd] 102 (0, 0)) := by rw [hW4, hX]; exact (MapKept.heap_alloc _ _).1
 have HC4 := Lib.hid (HC3.out.step hb4)
 clear x0 x1 x2 y0 y1 y2 y3 y4 hb4 hW4 hX
 have x1 : W4.cell? ⟨X, 1, none⟩ = some (.int .i64 (bj : Int)) := cB hx4 1
 have x2 : W4.cell? ⟨X, 2, none⟩ = some (.int .i64 nd) := cB hx4 2
 clear hx4
 obtain ⟨y0, y1, y2, y3, y4, _⟩ := HC4.out.facts
 obtain ⟨gn', cn'', e, _, _, ⟨curn, hcurn⟩, hcn⟩ := own_some rfl HC4.out.r1 (by have := HBN0.out; omega)
 injection e with e _ e3
 injection e with e
 injection e with e
 subst e
 subst e3
 have hnb : ns[bj]? = some bx := HBX.out
 obtain ⟨_, _, z2⟩ := hcn bj _ hnb
 have zf : W4.frozen? ⟨gn, bj * 3 + 2, none⟩ = false := frozen_blk hcurn _
 have hbn : bj < ns.length := HLN.out
 have hbn' : (bj : Int) < (ns.length : Int) := by omega
 have hbd : decide ((bj : Int) < (ns.length : Int)) = true := decide_eq_true hbn'
 have HC5 := Lib.hid (HC4.out.setNode hnb nd)
 clear hcn hcurn hnb
 generalize hzz : (bx).2.2 = zz at z2
 go_upto_region 10 with fail
 obtain ⟨W5, hW5⟩ : ∃ W5, W5 = W4.setCell ⟨gn, bj * 3 + 2, none⟩ (.int .i64 nd) := ⟨_, rfl⟩
 rw [← hW5] at HC5 ⊢
 clear hW5 x1 x2 y0 y1 y2 y3 y4 z2 zf hzz hbn hbn' hbd
 obtain ⟨y0, y1, y2, y3, y4, _⟩ := HC5.out.facts
 have hiw : wrap64 ((i : Int) + 1) = (i : Int) + 1 := by unfold wrap64; omega
 have HIP := Lib.hid hip
 have HSM := HSMP
 clear hil hip hip' hid' ti hf1 hf2 hbl
 go_wp2_with fail
 refine (delete_at HC5.out.r2 HSM.out i HIP.out).mono ?_
 rintro e W6 ⟨ps6, rfl, ho6, hg6⟩
 obtain ⟨pp6, cp6, e6⟩ := own_slice ho6
 subst e6
 have hl6 : ps.length - 1 = (ps.eraseIdx i).length := by rw [List.length_eraseIdx, if_pos HIP.out]
 obtain ⟨L6, hL6⟩ : ∃ L6, L6 = (ps.eraseIdx i).length := ⟨_, rfl⟩
 rw [hl6] at ho6 ⊢
 obtain ⟨k1, k2, k3⟩ := HC5.out.re2 hg6 ho6
 rw [← hL6] at k3 ⊢
 have HL6 := Lib.hid hL6
 have HC7 := Lib.hid k3
 clear hL6 hl6
 have g3 : W6.cell? ⟨g, 3, none⟩ = some (.slice (some ⟨gp, 0, none⟩) ps.length cp') := cB k1 3
 have f3 : W6.frozen? ⟨g, 3, none⟩ = false := frozen_blk k1 3
 clear y0 y1 y2 y3 y4 k1 k2 k3 hg6 ho6
 go_upto_region 11 with fail
 clear g3 f3
 obtain ⟨W7, hW7⟩ : ∃ W7, W7 = W6.setCell ⟨g, 3, none⟩ (.slice pp6 L6 cp6) := ⟨_, rfl⟩
 rw [← hW7] at HC7 ⊢
 clear hW7
 obtain ⟨y0, y1, y2, y3, y4, z0, z1, z2, z3, z4⟩ := HC7.out.facts
 have f0 := (HC7.out.frozen 0).2
 have f1 := (HC7.out.frozen 1).2
 have f2 := (HC7.out.frozen 2).2
 have f3 := (HC7.out.frozen 3).2
 have f4 := (HC7.out.frozen 4).2
 go_wp2_with fail
 obtain ⟨W8, hW8⟩ : ∃ W8, W8 = (((((W7.setCell ⟨w.heap.size + 1, 0, none⟩ (.slice (some ⟨gn, 0, none⟩) ns.length cn')).setCell ⟨w.heap.size + 1, 1, none⟩ (.int .i64 last)).setCell ⟨w.heap.size + 1, 2, none⟩ (.int .i64 done)).setCell ⟨w.heap.size + 1, 3, none⟩ (.slice pp6 L6 cp6)).setCell ⟨w.heap.size + 1, 4, none⟩ (.bool em)) := ⟨_, rfl⟩
 rw [← hW8]
 obtain ⟨k1, k2, k3, k4⟩ := HC7.out.out hW8
 have K1 := Lib.hid k1
 have K3 := Lib.hid k3
 have K4 := Lib.hid k4
 clear y0 y1 y2 y3 y4 z0 z1 z2 z3 z4 f0 f1 f2 f3 f4 k1 k3 k4 hW8
 have c0 : W8.cell? ⟨w.heap.size + 1, 0, none⟩ = some (.slice (some ⟨gn, 0, none⟩) ns.length cn') := cB k2 0
 have c1 : W8.cell? ⟨w.heap.size + 1, 1, none⟩ = some (.int .i64 last) := cB k2 1
 have c2 : W8.cell? ⟨w.heap.size + 1, 2, none⟩ = some (.int .i64 done) := cB k2 2
 have c3 : W8.cell? ⟨w.heap.size + 1, 3, none⟩ = some (.slice pp6 L6 cp6) := cB k2 3
 have c4 : W8.cell? ⟨w.heap.size + 1, 4, none⟩ = some (.bool em) := cB k2 4
 refine bodyPost_ret (v := .tuple #[.agg #[.slice (some ⟨gn, 0, none⟩) ns.length cn', .int .i64 last, .int .i64 done, .slice pp6 L6 cp6, .bool em], .int .i64 0]) (by simp [results, Try.results11, go_sem, c0, c1, c2, c3, c4]) rfl ⟨_, rfl, ⟨_, _, rfl, ?_, ?_⟩, ?_⟩
 ·exact K3.out
 ·exact K4.out
 ·exact K1.out
end Go.Proofs.Ytgbafpjeapkklaa.Mb
namespace Go.Proofs.Ytgbafpjeapkklaa.Mb
open Go.RowKit
set_option linter.unusedVariables false
set_option linter.unusedSimpArgs false
theorem Both.facts4 {W : World} {k1 k2 k3 k4 : Nat} {a0 a1 a2 a3 a4 b0 b1 b2 b3 b4 c0 c1 c2 c3 c4 d0 d1 d2 d3 d4 : Value} (h1 : B5 W k1 28 a0 a1 a2 a3 a4) (h2 : B5 W k2 46 b0 b1 b2 b3 b4) (h3 : B5 W k3 28 c0 c1 c2 c3 c4) (h4 : B5 W k4 46 d0 d1 d2 d3 d4) :
  W.cell? ⟨k1, 0, none⟩ = some a0 ∧ W.cell? ⟨k1, 1, none⟩ = some a1 ∧ W.cell? ⟨k1, 2, none⟩ = some a2 ∧ W.cell? ⟨k1, 3, none⟩ = some a3 ∧ W.cell? ⟨k1, 4, none⟩ = some a4 ∧
  W.cell? ⟨k2, 0, none⟩ = some b0 ∧ W.cell? ⟨k2, 1, none⟩ = some b1 ∧ W.cell? ⟨k2, 2, none⟩ = some b2 ∧ W.cell? ⟨k2, 3, none⟩ = some b3 ∧ W.cell? ⟨k2, 4, none⟩ = some b4 ∧
  W.cell? ⟨k3, 0, none⟩ = some c0 ∧ W.cell? ⟨k3, 1, none⟩ = some c1 ∧ W.cell? ⟨k3, 2, none⟩ = some c2 ∧ W.cell? ⟨k3, 3, none⟩ = some c3 ∧ W.cell? ⟨k3, 4, none⟩ = some c4 ∧
  W.cell? ⟨k4, 0, none⟩ = some d0 ∧ W.cell? ⟨k4, 1, none⟩ = some d1 ∧ W.cell? ⟨k4, 2, none⟩ = some d2 ∧ W.cell? ⟨k4, 3, none⟩ = some d3 ∧ W.cell? ⟨k4, 4, none⟩ = some d4 :=
 ⟨cB h1 0, cB h1 1, cB h1 2, cB h1 3, cB h1 4, cB h2 0, cB h2 1, cB h2 2, cB h2 3, cB h2 4, cB h3 0, cB h3 1, cB h3 2, cB h3 3, cB h3 4, cB h4 0, cB h4 1, cB h4 2, cB h4 3, cB h4 4⟩
theorem Both.put1 {W : World} {k k' k1 k2 k3 k4 : Nat} {z0 z1 z2 z3 z4 y0 y1 y2 y3 y4 a0 a1 a2 a3 a4 b0 b1 b2 b3 b4 c0 c1 c2 c3 c4 d0 d1 d2 d3 d4 u0 u1 u2 u3 u4 : Value} (hz : B5 W k 28 z0 z1 z2 z3 z4) (hy : B5 W k' 46 y0 y1 y2 y3 y4) (n0 : k' ≠ k) (n1 : k1 ≠ k ∧ k1 ≠ k') (n2 : k2 ≠ k ∧ k2 ≠ k') (n3 : k3 ≠ k ∧ k3 ≠ k') (n4 : k4 ≠ k ∧ k4 ≠ k') (h1 : B5 W k1 28 a0 a1 a2 a3 a4) (h2 : B5 W k2 46 b0 b1 b2 b3 b4) (h3 : B5 W k3 28 c0 c1 c2 c3 c4) (h4 : B5 W k4 46 d0 d1 d2 d3 d4) :
  (((((W.setCell ⟨k, 0, none⟩ u0).setCell ⟨k, 1, none⟩ u1).setCell ⟨k, 2, none⟩ u2).setCell ⟨k, 3, none⟩ u3).setCell ⟨k, 4, none⟩ u4).cell? ⟨k1, 0, none⟩ = some a0 ∧ (((((W.setCell ⟨k, 0, none⟩ u0).setCell ⟨k, 1, none⟩ u1).setCell ⟨k, 2, none⟩ u2).setCell ⟨k, 3, none⟩ u3).setCell ⟨k, 4, none⟩ u4).cell? ⟨k1, 1, none⟩ = some a1 ∧ (((((W.setCell ⟨k, 0, none⟩ u0).setCell ⟨k, 1, none⟩ u1).setCell ⟨k, 2, none⟩ u2).setCell ⟨k, 3, none⟩ u3).setCell ⟨k, 4, none⟩ u4).cell? ⟨k1, 2, none⟩ = some a2 ∧ (((((W.setCell ⟨k, 0, none⟩ u0).setCell ⟨k, 1, none⟩ u1).setCell ⟨k, 2, none⟩ u2).setCell ⟨k, 3, none⟩ u3).setCell ⟨k, 4, none⟩ u4).cell? ⟨k1, 3, none⟩ = some a3 ∧ (((((W.setCell ⟨k, 0, none⟩ u0).setCell ⟨k, 1, none⟩ u1).setCell ⟨k, 2, none⟩ u2).setCell ⟨k, 3, none⟩ u3).setCell ⟨k, 4, none⟩ u4).cell? ⟨k1, 4, none⟩ = some a4 ∧
  (((((W.setCell ⟨k, 0, none⟩ u0).setCell ⟨k, 1, none⟩ u1).setCell ⟨k, 2, none⟩ u2).setCell ⟨k, 3, none⟩ u3).setCell ⟨k, 4, none⟩ u4).cell? ⟨k2, 0, none⟩ = some b0 ∧ (((((W.setCell ⟨k, 0, none⟩ u0).setCell ⟨k, 1, none⟩ u1).setCell ⟨k, 2, none⟩ u2).setCell ⟨k, 3, none⟩ u3).setCell ⟨k, 4, none⟩ u4).cell? ⟨k2, 1, none⟩ = some b1 ∧ (((((W.setCell ⟨k, 0, none⟩ u0).setCell ⟨k, 1, none⟩ u1).setCell ⟨k, 2, none⟩ u2).setCell ⟨k, 3, none⟩ u3).setCell ⟨k, 4, none⟩ u4).cell? ⟨k2, 2, none⟩ = some b2 ∧ (((((W.setCell ⟨k, 0, none⟩ u0).setCell ⟨k, 1, none⟩ u1).setCell ⟨k, 2, none⟩ u2).setCell ⟨k, 3, none⟩ u3).setCell ⟨k, 4, none⟩ u4).cell? ⟨k2, 3, none⟩ = some b3 ∧ (((((W.setCell ⟨k, 0, none⟩ u0).setCell ⟨k, 1, none⟩ u1).setCell ⟨k, 2, none⟩ u2).setCell ⟨k, 3, none⟩ u3).setCell ⟨k, 4, none⟩ u4).cell? ⟨k2, 4, none⟩ = some b4 ∧
  (((((W.setCell ⟨k, 0, none⟩ u0).setCell ⟨k, 1, none⟩ u1).setCell ⟨k, 2, none⟩ u2).setCell ⟨k, 3, none⟩ u3).setCell ⟨k, 4, none⟩ u4).cell? ⟨k3, 0, none⟩ = some c0 ∧ (((((W.setCell ⟨k, 0, none⟩ u0).setCell ⟨k, 1, none⟩ u1).setCell ⟨k, 2, none⟩ u2).setCell ⟨k, 3, none⟩ u3).setCell ⟨k, 4, none⟩ u4).cell? ⟨k3, 1, none⟩ = some c1 ∧ (((((W.setCell ⟨k, 0, none⟩ u0).setCell ⟨k, 1, none⟩ u1).setCell ⟨k, 2, none⟩ u2).setCell ⟨k, 3, none⟩ u3).setCell ⟨k, 4, none⟩ u4).cell? ⟨k3, 2, none⟩ = some c2 ∧ (((((W.setCell ⟨k, 0, none⟩ u0).setCell ⟨k, 1, none⟩ u1).setCell ⟨k, 2, none⟩ u2).setCell ⟨k, 3, none⟩ u3).setCell ⟨k, 4, none⟩ u4).cell? ⟨k3, 3, none⟩ = some c3 ∧ (((((W.setCell ⟨k, 0, none⟩ u0).setCell ⟨k, 1, none⟩ u1).setCell ⟨k, 2, none⟩ u2).setCell ⟨k, 3, none⟩ u3).setCell ⟨k, 4, none⟩ u4).cell? ⟨k3, 4, none⟩ = some c4 ∧
  (((((W.setCell ⟨k, 0, none⟩ u0).setCell ⟨k, 1, none⟩ u1).setCell ⟨k, 2, none⟩ u2).setCell ⟨k, 3, none⟩ u3).setCell ⟨k, 4, none⟩ u4).cell? ⟨k4, 0, none⟩ = some d0 ∧ (((((W.setCell ⟨k, 0, none⟩ u0).setCell ⟨k, 1, none⟩ u1).setCell ⟨k, 2, none⟩ u2).setCell ⟨k, 3, none⟩ u3).setCell ⟨k, 4, none⟩ u4).cell? ⟨k4, 1, none⟩ = some d1 ∧ (((((W.setCell ⟨k, 0, none⟩ u0).setCell ⟨k, 1, none⟩ u1).setCell ⟨k, 2, none⟩ u2).setCell ⟨k, 3, none⟩ u3).setCell ⟨k, 4, none⟩ u4).cell? ⟨k4, 2, none⟩ = some d2 ∧ (((((W.setCell ⟨k, 0, none⟩ u0).setCell ⟨k, 1, none⟩ u1).setCell ⟨k, 2, none⟩ u2).setCell ⟨k, 3, none⟩ u3).setCell ⟨k, 4, none⟩ u4).cell? ⟨k4, 3, none⟩ = some d3 ∧ (((((W.setCell ⟨k, 0, none⟩ u0).setCell ⟨k, 1, none⟩ u1).setCell ⟨k, 2, none⟩ u2).setCell ⟨k, 3, none⟩ u3).setCell ⟨k, 4, none⟩ u4).cell? ⟨k4, 4, none⟩ = some d4 := by
 obtain ⟨_, _, p⟩ := B5.put (u0 := u0) (u1 := u1) (u2 := u2) (u3 := u3) (u4 := u4) hz rfl
 exact Both.facts4 (p _ _ _ _ _ _ _ n1.1 h1) (p _ _ _ _ _ _ _ n2.1 h2) (p _ _ _ _ _ _ _ n3.1 h3) (p _ _ _ _ _ _ _ n4.1 h4)
theorem Both.put2 {W : World} {k k' k1 k2 k3 k4 : Nat} {z0 z1 z2 z3 z4 y0 y1 y2 y3 y4 a0 a1 a2 a3 a4 b0 b1 b2 b3 b4 c0 c1 c2 c3 c4 d0 d1 d2 d3 d4 u0 u1 u2 u3 u4 v0 v1 v2 v3 v4 : Value} (hz : B5 W k 28 z0 z1 z2 z3 z4) (hy : B5 W k' 46 y0 y1 y2 y3 y4) (n0 : k' ≠ k) (n1 : k1 ≠ k ∧ k1 ≠ k') (n2 : k2 ≠ k ∧ k2 ≠ k') (n3 : k3 ≠ k ∧ k3 ≠ k') (n4 : k4 ≠ k ∧ k4 ≠ k') (h1 : B5 W k1 28 a0 a1 a2 a3 a4) (h2 : B5 W k2 46 b0 b1 b2 b3 b4) (h3 : B5 W k3 28 c0 c1 c2 c3 c4) (h4 : B5 W k4 46 d0 d1 d2 d3 d4) :
  ((((((((((W.setCell ⟨k, 0, none⟩ u0).setCell ⟨k, 1, none⟩ u1).setCell ⟨k, 2, none⟩ u2).setCell ⟨k, 3, none⟩ u3).setCell ⟨k, 4, none⟩ u4).setCell ⟨k', 0, none⟩ v0).setCell ⟨k', 1, none⟩ v1).setCell ⟨k', 2, none⟩ v2).setCell ⟨k', 3, none⟩ v3).setCell ⟨k', 4, none⟩ v4).cell? ⟨k1, 0, none⟩ = some a0 ∧ ((((((((((W.setCell ⟨k, 0, none⟩ u0).setCell ⟨k, 1, none⟩ u1).setCell ⟨k, 2, none⟩ u2).setCell ⟨k, 3, none⟩ u3).setCell ⟨k, 4, none⟩ u4).setCell ⟨k', 0, none⟩ v0).setCell ⟨k', 1, none⟩ v1).setCell ⟨k', 2, none⟩ v2).setCell ⟨k', 3, none⟩ v3).setCell ⟨k', 4, none⟩ v4).cell? ⟨k1, 1, none⟩ = some a1 ∧ ((((((((((W.setCell ⟨k, 0, none⟩ u0).setCell ⟨k, 1, none⟩ u1).setCell ⟨k, 2, none⟩ u2).setCell ⟨k, 3, none⟩ u3).setCell ⟨k, 4, none⟩ u4).setCell ⟨k', 0, none⟩ v0).setCell ⟨k', 1, none⟩ v1).setCell ⟨k', 2, none⟩ v2).setCell ⟨k', 3, none⟩ v3).setCell ⟨k', 4, none⟩ v4).cell? ⟨k1, 2, none⟩ = some a2 ∧ ((((((((((W.setCell ⟨k, 0, none⟩ u0).setCell ⟨k, 1, none⟩ u1).setCell ⟨k, 2, none⟩ u2).setCell ⟨k, 3, none⟩ u3).setCell ⟨k, 4, none⟩ u4).setCell ⟨k', 0, none⟩ v0).setCell ⟨k', 1, none⟩ v1).setCell ⟨k', 2, none⟩ v2).setCell ⟨k', 3, none⟩ v3).setCell ⟨k', 4, none⟩ v4).cell? ⟨k1, 3, none⟩ = some a3 ∧ ((((((((((W.setCell ⟨k, 0, none⟩ u0).setCell ⟨k, 1, none⟩ u1).setCell ⟨k, 2, none⟩ u2).setCell ⟨k, 3, none⟩ u3).setCell ⟨k, 4, none⟩ u4).setCell ⟨k', 0, none⟩ v0).setCell ⟨k', 1, none⟩ v1).setCell ⟨k', 2, none⟩ v2).setCell ⟨k', 3, none⟩ v3).setCell ⟨k', 4, none⟩ v4).cell? ⟨k1, 4, none⟩ = some a4 ∧
  ((((((((((W.setCell ⟨k, 0, none⟩ u0).setCell ⟨k, 1, none⟩ u1).setCell ⟨k, 2, none⟩ u2).setCell ⟨k, 3, none⟩ u3).setCell ⟨k, 4, none⟩ u4).setCell ⟨k', 0, none⟩ v0).setCell ⟨k', 1, none⟩ v1).setCell ⟨k', 2, none⟩ v2).setCell ⟨k', 3, none⟩ v3).setCell ⟨k', 4, none⟩ v4).cell? ⟨k2, 0, none⟩ = some b0 ∧ ((((((((((W.setCell ⟨k, 0, none⟩ u0).setCell ⟨k, 1, none⟩ u1).setCell ⟨k, 2, none⟩ u2).setCell ⟨k, 3, none⟩ u3).setCell ⟨k, 4, none⟩ u4).setCell ⟨k', 0, none⟩ v0).setCell ⟨k', 1, none⟩ v1).setCell ⟨k', 2, none⟩ v2).setCell ⟨k', 3, none⟩ v3).setCell ⟨k', 4, none⟩ v4).cell? ⟨k2, 1, none⟩ = some b1 ∧ ((((((((((W.setCell ⟨k, 0, none⟩ u0).setCell ⟨k, 1, none⟩ u1).setCell ⟨k, 2, none⟩ u2).setCell ⟨k, 3, none⟩ u3).setCell ⟨k, 4, none⟩ u4).setCell ⟨k', 0, none⟩ v0).setCell ⟨k', 1, none⟩ v1).setCell ⟨k', 2, none⟩ v2).setCell ⟨k', 3, none⟩ v3).setCell ⟨k', 4, none⟩ v4).cell? ⟨k2, 2, none⟩ = some b2 ∧ ((((((((((W.setCell ⟨k, 0, none⟩ u0).setCell ⟨k, 1, none⟩ u1).setCell ⟨k, 2, none⟩ u2).setCell ⟨k, 3, none⟩ u3).setCell ⟨k, 4, none⟩ u4).setCell ⟨k', 0, none⟩ v0).setCell ⟨k', 1, none⟩ v1).setCell ⟨k', 2, none⟩ v2).setCell ⟨k', 3, none⟩ v3).setCell ⟨k', 4, none⟩ v4).cell? ⟨k2, 3, none⟩ = some b3 ∧ ((((((((((W.setCell ⟨k, 0, none⟩ u0).setCell ⟨k, 1, none⟩ u1).setCell ⟨k, 2, none⟩ u2).setCell ⟨k, 3, none⟩ u3).setCell ⟨k, 4, none⟩ u4).setCell ⟨k', 0, none⟩ v0).setCell ⟨k', 1, none⟩ v1).setCell ⟨k', 2, none⟩ v2).setCell ⟨k', 3, none⟩ v3).setCell ⟨k', 4, none⟩ v4).cell? ⟨k2, 4, none⟩ = some b4 ∧
  ((((((((((W.setCell ⟨k, 0, none⟩ u0).setCell ⟨k, 1, none⟩ u1).setCell ⟨k, 2, none⟩ u2).setCell ⟨k, 3, none⟩ u3).setCell ⟨k, 4, none⟩ u4).setCell ⟨k', 0, none⟩ v0).setCell ⟨k', 1, none⟩ v1).setCell ⟨k', 2, none⟩ v2).setCell ⟨k', 3, none⟩ v3).setCell ⟨k', 4, none⟩ v4).cell? ⟨k3, 0, none⟩ = some c0 ∧ ((((((((((W.setCell ⟨k, 0, none⟩ u0).setCell ⟨k, 1, none⟩ u1).setCell ⟨k, 2, none⟩ u2).setCell ⟨k, 3, none⟩ u3).setCell ⟨k, 4, none⟩ u4).setCell ⟨k', 0, none⟩ v0).setCell ⟨k', 1, none⟩ v1).setCell ⟨k', 2, none⟩ v2).setCell ⟨k', 3, none⟩ v3).setCell ⟨k', 4, none⟩ v4).cell? ⟨k3, 1, none⟩ = some c1 ∧ ((((((((((W.setCell ⟨k, 0, none⟩ u0).setCell ⟨k, 1, none⟩ u1).setCell ⟨k, 2, none⟩ u2).setCell ⟨k, 3, none⟩ u3).setCell ⟨k, 4, none⟩ u4).setCell ⟨k', 0, none⟩ v0).setCell ⟨k', 1, none⟩ v1).setCell ⟨k', 2, none⟩ v2).setCell ⟨k', 3, none⟩ v3).setCell ⟨k', 4, none⟩ v4).cell? ⟨k3, 2, none⟩ = some c2 ∧ ((((((((((W.setCell ⟨k, 0, none⟩ u0).setCell ⟨k, 1, none⟩ u1).setCell ⟨k, 2, none⟩ u2).setCell ⟨k, 3, none⟩ u3).setCell ⟨k, 4, none⟩ u4).setCell ⟨k', 0, none⟩ v0).setCell ⟨k', 1, none⟩ v1).setCell ⟨k', 2, none⟩ v2).setCell ⟨k', 3, none⟩ v3).setCell ⟨k', 4, none⟩ v4).cell? ⟨k3, 3, none⟩ = some c3 ∧ ((((((((((W.setCell ⟨k, 0, none⟩ u0).setCell ⟨k, 1, none⟩ u1).setCell ⟨k, 2, none⟩ u2).setCell ⟨k, 3, none⟩ u3).setCell ⟨k, 4, none⟩ u4).setCell ⟨k', 0, none⟩ v0).setCell ⟨k', 1, none⟩ v1).setCell ⟨k', 2, none⟩ v2).setCell ⟨k', 3, none⟩ v3).setCell ⟨k', 4, none⟩ v4).cell? ⟨k3, 4, none⟩ = some c4 ∧
  ((((((((((W.setCell ⟨k, 0, none⟩ u0).setCell ⟨k, 1, none⟩ u1).setCell ⟨k, 2, none⟩ u2).setCell ⟨k, 3, none⟩ u3).setCell ⟨k, 4, none⟩ u4).setCell ⟨k', 0, none⟩ v0).setCell ⟨k', 1, none⟩ v1).setCell ⟨k', 2, none⟩ v2).setCell ⟨k', 3, none⟩ v3).setCell ⟨k', 4, none⟩ v4).cell? ⟨k4, 0, none⟩ = some d0 ∧ ((((((((((W.setCell ⟨k, 0, none⟩ u0).setCell ⟨k, 1, none⟩ u1).setCell ⟨k, 2, none⟩ u2).setCell ⟨k, 3, none⟩ u3).setCell ⟨k, 4, none⟩ u4).setCell ⟨k', 0, none⟩ v0).setCell ⟨k', 1, none⟩ v1).setCell ⟨k', 2, none⟩ v2).setCell ⟨k', 3, none⟩ v3).setCell ⟨k', 4, none⟩ v4).cell? ⟨k4, 1, none⟩ = some d1 ∧ ((((((((((W.setCell ⟨k, 0, none⟩ u0).setCell ⟨k, 1, none⟩ u1).setCell ⟨k, 2, none⟩ u2).setCell ⟨k, 3, none⟩ u3).setCell ⟨k, 4, none⟩ u4).setCell ⟨k', 0, none⟩ v0).setCell ⟨k', 1, none⟩ v1).setCell ⟨k', 2, none⟩ v2).setCell ⟨k', 3, none⟩ v3).setCell ⟨k', 4, none⟩ v4).cell? ⟨k4, 2, none⟩ = some d2 ∧ ((((((((((W.setCell ⟨k, 0, none⟩ u0).setCell ⟨k, 1, none⟩ u1).setCell ⟨k, 2, none⟩ u2).setCell ⟨k, 3, none⟩ u3).setCell ⟨k, 4, none⟩ u4).setCell ⟨k', 0, none⟩ v0).setCell ⟨k', 1, none⟩ v1).setCell ⟨k', 2, none⟩ v2).setCell ⟨k', 3, none⟩ v3).setCell ⟨k', 4, none⟩ v4).cell? ⟨k4, 3, none⟩ = some d3 ∧ ((((((((((W.setCell ⟨k, 0, none⟩ u0).setCell ⟨k, 1, none⟩ u1).setCell ⟨k, 2, none⟩ u2).setCell ⟨k, 3, none⟩ u3).setCell ⟨k, 4, none⟩ u4).setCell ⟨k', 0, none⟩ v0).setCell ⟨k', 1, none⟩ v1).setCell ⟨k', 2, none⟩ v2).setCell ⟨k', 3, none⟩ v3).setCell ⟨k', 4, none⟩ v4).cell? ⟨k4, 4, none⟩ = some d4 := by
 obtain ⟨_, _, p⟩ := B5.put (u0 := u0) (u1 := u1) (u2 := u2) (u3 := u3) (u4 := u4) hz rfl
 obtain ⟨_, _, r⟩ := B5.put (u0 := v0) (u1 := v1) (u2 := v2) (u3 := v3) (u4 := v4) (p _ _ _ _ _ _ _ n0 hy) rfl
 exact Both.facts4 (r _ _ _ _ _ _ _ n1.2 (p _ _ _ _ _ _ _ n1.1 h1)) (r _ _ _ _ _ _ _ n2.2 (p _ _ _ _ _ _ _ n2.1 h2)) (r _ _ _ _ _ _ _ n3.2 (p _ _ _ _ _ _ _ n3.1 h3)) (r _ _ _ _ _ _ _ n4.2 (p _ _ _ _ _ _ _ n4.1 h4))
set_option maxRecDepth 100000 in
set_option maxHeartbeats 32000000 in
theorem step_3 {RX RY : World → Value → Prop} (hc : Both RX RY) {a b : Value} {ki p v : Int} {w : World} (ha : Shape a) (hb : Shape b) (g1 : -128 ≤ ki) (g2 : ki ≤ 127) (g3 : -128 ≤ p) (g4 : p ≤ 127) (g5 : -128 ≤ v) (g6 : v ≤ 127) (hk : kindOf ki = 3)
  {n : Nat} {l : List Int} (hn : n ≤ 100000) (e : Int)
  (hA : ∀ W, Below w.heap.size w W → Calls Try.prog 12 #[a, .int .i64 v] W fun en w' => ∃ x u, en = .returned (.tuple #[x, u, .int .i64 e]) ∧ RX w' x ∧ w'.ownsRow W.heap.size 3 1 u n (ints l) ∧ Below W.heap.size W w')
  (hB : ∀ W, Below w.heap.size w W → Calls Try.prog 50 #[b, .int .i64 v] W fun en w' => ∃ x u, en = .returned (.tuple #[x, u, .int .i64 e]) ∧ RY w' x ∧ w'.ownsRow W.heap.size 3 1 u n (ints l) ∧ Below W.heap.size W w') :
  Calls Try.prog 17 #[a, b, .agg #[.int .i8 ki, .int .i8 p, .int .i8 v]] w fun en w' => ∃ x y, en = .returned (.tuple #[pickS e x a, pickS e y b, .bool true]) ∧ RX w' x ∧ RY w' y ∧ Below w.heap.size w w' := by
 have HNN := Lib.hid hn
 clear hn
 obtain ⟨ap, an, ac, am, ad, ap2, an2, ac2, ab, rfl⟩ := ha
 obtain ⟨bp, bn, bc, bm, bd, bp2, bn2, bc2, bb, rfl⟩ := hb
 have HC := Lib.hid hc
 have HAA := Lib.hid hA
 have HBB := Lib.hid hB
 have HAS : Hid (Shape (.agg #[.slice ap an ac, .int .i64 am, .int .i64 ad, .slice ap2 an2 ac2, .bool ab])) := ⟨_, _, _, _, _, _, _, _, _, rfl⟩
 have HBS : Hid (Shape (.agg #[.slice bp bn bc, .int .i64 bm, .int .i64 bd, .slice bp2 bn2 bc2, .bool bb])) := ⟨_, _, _, _, _, _, _, _, _, rfl⟩
 obtain ⟨r, kk, er, hr1, hr2, ek, hkk⟩ := kind_of ki g1 g2
 obtain rfl : kk = 3 := by
  unfold kindOf at hk
  rw [er, ek] at hk
  omega
 have f0 : wrap64 ki = ki := by unfold wrap64; omega
 have f1 : wrap64 p = p := by unfold wrap64; omega
 have f2 : wrap64 v = v := by unfold wrap64; omega
 have f0' : IntKind.i64.wrap ki = ki := (Go.IntWalk.i64_left _).trans f0
 have f1' : IntKind.i64.wrap p = p := (Go.IntWalk.i64_left _).trans f1
 have f2' : IntKind.i64.wrap v = v := (Go.IntWalk.i64_left _).trans f2
 have fr : wrap64 r = r := by unfold wrap64; omega
 have fr' : IntKind.i64.wrap r = r := (Go.IntWalk.i64_left _).trans fr
 have fs : wrap64 (r + 6) = r + 6 := by unfold wrap64; omega
 have fs' : IntKind.i64.wrap (r + 6) = r + 6 := (Go.IntWalk.i64_left _).trans fs
 clear hc hA hB hk g1 g2 g3 g4 g5 g6 hr1 hr2 hkk
 have HK : Hid (SK w (.slice ap an ac) (.int .i64 am) (.int .i64 ad) (.slice ap2 an2 ac2) (.bool ab) (.slice bp bn bc) (.int .i64 bm) (.int .i64 bd) (.slice bp2 bn2 bc2) (.bool bb) ki p v _) := SK.mk' w _ _ _ _ _ _ _ _ _ _ ki p v
 go_enter Try.func17, Try.ntmps17
 go_upto_region 1 with fail
 generalize (((((w.alloc (Obj.cells #[.slice ap an ac, .int .i64 am, .int .i64 ad, .slice ap2 an2 ac2, .bool ab] 28)).alloc (Obj.cells #[.slice bp bn bc, .int .i64 bm, .int .i64 bd, .slice bp2 bn2 bc2, .bool bb] 46)).alloc (Obj.cells #[.int .i8 ki, .int .i8 p, .int .i8 v] 51)).alloc (Obj.cells #[.slice none 0 0, .int .i64 0, .int .i64 0, .slice none 0 0, .bool false] 28)).alloc (Obj.cells #[.slice none 0 0, .int .i64 0, .int .i64 0, .slice none 0 0, .bool false] 46)) = W0 at *
 obtain ⟨o0, o1, o2⟩ := HK.out.ocells
 go_quiet (fail)
 go_upto_region 17 with fail
 have HK1 := Lib.hid (HK.out.step (below_drewN (Below.refl _ _) nq))
 generalize W0.drewN nq = W1 at *
 clear o0 o1 o2 f0 f0' fr fr' fs fs' er ek f1 f1' f2 f2'
 obtain ⟨c0, c1, c2, c3, c4⟩ := HK1.out.a.cells
 go_wp2_with fail
 refine (HAA.out _ HK1.out.below).mono ?_
 rintro en W2 ⟨x, u, rfl, hx, hu, hb2⟩
 obtain ⟨xp, xn, xc, xm, xd, xp2, xn2, xc2, xb, rfl⟩ := HC.out.sx _ _ hx
 obtain ⟨rp, rc, er⟩ := own1_slice hu
 subst er
 have HK2 := Lib.hid (HK1.out.step hb2)
 have hm3 := B5.made (W := W2) (.slice xp xn xc) (.int .i64 xm) (.int .i64 xd) (.slice xp2 xn2 xc2) (.bool xb) 28
 obtain ⟨X, hX⟩ : ∃ X, X = W2.heap.size := ⟨_, rfl⟩
 have hal3 : Below W2.heap.size W2 (W2.alloc (Obj.cells #[.slice xp xn xc, .int .i64 xm, .int .i64 xd, .slice xp2 xn2 xc2, .bool xb] 28)) := (Below.refl _ _).alloc (Nat.le_refl _) _
 have HX3 := Lib.hid (HC.out.bx _ _ _ hx hal3)
 have HU3 := Lib.hid (own1_below hu hal3)
 have HK3 := Lib.hid (HK2.out.step hal3)
 clear hx hu hb2 c0 c1 c2 c3 c4 hal3
 go_upto_region 18 with fail
 have HXL : Hid (w.heap.size + 1 + 1 + 1 + 1 < X) := by show _ < _; rw [hX]; exact blk_lt HK2.out.zz
 rw [← hX] at hm3 ⊢
 have HM3 := Lib.hid hm3
 clear hX hm3
 generalize W2.alloc (Obj.cells #[.slice xp xn xc, .int .i64 xm, .int .i64 xd, .slice xp2 xn2 xc2, .bool xb] 28) = W3 at *
 obtain ⟨c0, c1, c2, c3, c4⟩ := HK3.out.b.cells
 go_wp2_with fail
 refine (HBB.out _ HK3.out.below).mono ?_
 rintro en W4 ⟨y, u, rfl, hy, hu, hb4⟩
 obtain ⟨yp, yn, yc, ym, yd, yp2, yn2, yc2, yb, rfl⟩ := HC.out.sy _ _ hy
 obtain ⟨tp, tc, er⟩ := own1_slice hu
 subst er
 have HK4 := Lib.hid (HK3.out.step hb4)
 have HX4 := Lib.hid (HC.out.bx _ _ _ HX3.out hb4)
 have HU4 := Lib.hid (own1_below HU3.out hb4)
 have hm5 := B5.made (W := W4) (.slice yp yn yc) (.int .i64 ym) (.int .i64 yd) (.slice yp2 yn2 yc2) (.bool yb) 46
 obtain ⟨Y, hY⟩ : ∃ Y, Y = W4.heap.size := ⟨_, rfl⟩
 have hal5 : Below W4.heap.size W4 (W4.alloc (Obj.cells #[.slice yp yn yc, .int .i64 ym, .int .i64 yd, .slice yp2 yn2 yc2, .bool yb] 46)) := (Below.refl _ _).alloc (Nat.le_refl _) _
 have HY5 := Lib.hid (HC.out.bY _ _ _ hy hal5)
 have HX5 := Lib.hid (HC.out.bx _ _ _ HX4.out hal5)
 have HU5 := Lib.hid (own1_below HU4.out hal5)
 have HV5 := Lib.hid (own1_below hu hal5)
 have HK5 := Lib.hid (HK4.out.step hal5)
 have HM5 := Lib.hid ((HM3.out.step hb4).step hal5)
 clear hy hu hb4 c0 c1 c2 c3 c4 hal5
 go_upto_region 19 with fail
 have HYL : Hid (w.heap.size + 1 + 1 + 1 + 1 < Y) := by show _ < _; rw [hY]; exact blk_lt HK4.out.zz
 rw [← hY] at hm5 ⊢
 have HN5 := Lib.hid hm5
 clear hY hm5
 generalize W4.alloc (Obj.cells #[.slice yp yn yc, .int .i64 ym, .int .i64 yd, .slice yp2 yn2 yc2, .bool yb] 46) = W5 at *
 have HNE0 : Hid (w.heap.size + 1 + 1 + 1 + 1 ≠ w.heap.size + 1 + 1 + 1) := by show _ ≠ _; omega
 have HNE1 : Hid (w.heap.size ≠ w.heap.size + 1 + 1 + 1 ∧ w.heap.size ≠ w.heap.size + 1 + 1 + 1 + 1) := by show _ ∧ _; omega
 have HNE2 : Hid (w.heap.size + 1 ≠ w.heap.size + 1 + 1 + 1 ∧ w.heap.size + 1 ≠ w.heap.size + 1 + 1 + 1 + 1) := by show _ ∧ _; omega
 have HNE3 : Hid (X ≠ w.heap.size + 1 + 1 + 1 ∧ X ≠ w.heap.size + 1 + 1 + 1 + 1) := by show _ ∧ _; have := HXL.out; omega
 have HNE4 : Hid (Y ≠ w.heap.size + 1 + 1 + 1 ∧ Y ≠ w.heap.size + 1 + 1 + 1 + 1) := by show _ ∧ _; have := HYL.out; omega
 have HD5 : Hid (Below W5.heap.size W5 W5.drew) := (Below.refl _ _).drew
 go_region_held3 (fun W => W.cell? ⟨w.heap.size, 0, none⟩ = some (.slice ap an ac) ∧ W.cell? ⟨w.heap.size, 1, none⟩ = some (.int .i64 am) ∧ W.cell? ⟨w.heap.size, 2, none⟩ = some (.int .i64 ad) ∧ W.cell? ⟨w.heap.size, 3, none⟩ = some (.slice ap2 an2 ac2) ∧ W.cell? ⟨w.heap.size, 4, none⟩ = some (.bool ab) ∧ W.cell? ⟨w.heap.size + 1, 0, none⟩ = some (.slice bp bn bc) ∧ W.cell? ⟨w.heap.size + 1, 1, none⟩ = some (.int .i64 bm) ∧ W.cell? ⟨w.heap.size + 1, 2, none⟩ = some (.int .i64 bd) ∧ W.cell? ⟨w.heap.size + 1, 3, none⟩ = some (.slice bp2 bn2 bc2) ∧ W.cell? ⟨w.heap.size + 1, 4, none⟩ = some (.bool bb) ∧ W.cell? ⟨X, 0, none⟩ = some (.slice xp xn xc) ∧ W.cell? ⟨X, 1, none⟩ = some (.int .i64 xm) ∧ W.cell? ⟨X, 2, none⟩ = some (.int .i64 xd) ∧ W.cell? ⟨X, 3, none⟩ = some (.slice xp2 xn2 xc2) ∧ W.cell? ⟨X, 4, none⟩ = some (.bool xb) ∧ W.cell? ⟨Y, 0, none⟩ = some (.slice yp yn yc) ∧ W.cell? ⟨Y, 1, none⟩ = some (.int .i64 ym) ∧ W.cell? ⟨Y, 2, none⟩ = some (.int .i64 yd) ∧ W.cell? ⟨Y, 3, none⟩ = some (.slice yp2 yn2 yc2) ∧ W.cell? ⟨Y, 4, none⟩ = some (.bool yb))
  (first | with_reducible exact Both.facts4 HK5.out.a HK5.out.b HM5.out HN5.out | with_reducible exact Both.facts4 (HK5.out.step HD5.out).a (HK5.out.step HD5.out).b (HM5.out.step HD5.out) (HN5.out.step HD5.out) | with_reducible exact Both.facts4 HK6.out.a HK6.out.b HM6.out HN6.out | with_reducible exact Both.facts4 HK7.out.a HK7.out.b HM7.out HN7.out | with_reducible exact Both.put1 HK7.out.z HK7.out.zz HNE0.out HNE1.out HNE2.out HNE3.out HNE4.out HK7.out.a HK7.out.b HM7.out HN7.out | with_reducible exact Both.put2 HK7.out.z HK7.out.zz HNE0.out HNE1.out HNE2.out HNE3.out HNE4.out HK7.out.a HK7.out.b HM7.out HN7.out | (trace_state; fail))
  (first
   | (go_at_call 14; refine (equal_at (own1_below HU5.out HD5.out) (own1_below HV5.out HD5.out) HNN.out).mono ?_; rintro en W6 ⟨rfl, hb⟩; have hbb := HD5.out.trans (hb.mono HD5.out.size); have HK6 := Lib.hid (HK5.out.step hbb); have HM6 := Lib.hid (HM5.out.step hbb); have HN6 := Lib.hid (HN5.out.step hbb); have HX6 := Lib.hid (HC.out.bx _ _ _ HX5.out hbb); have HY6 := Lib.hid (HC.out.bY _ _ _ HY5.out hbb); clear hb hbb)
   | (go_at_call 47; refine (keep_any HAS.out HBS.out ⟨_, _, _, _, _, _, _, _, _, rfl⟩ ⟨_, _, _, _, _, _, _, _, _, rfl⟩ (fun W h => HC.out.al W _ _ (HC.out.bx _ _ _ HX6.out h) (HC.out.bY _ _ _ HY6.out h)) e).mono ?_; rintro en W7 ⟨rfl, hb⟩; have HK7 := Lib.hid (HK6.out.step hb); have HM7 := Lib.hid (HM6.out.step hb); have HN7 := Lib.hid (HN6.out.step hb); have HX7 := Lib.hid (HC.out.bx _ _ _ HX6.out hb); have HY7 := Lib.hid (HC.out.bY _ _ _ HY6.out hb); clear hb; obtain ⟨up, un, uc, um, ud, up2, un2, uc2, ub, eu⟩ := pick_shape (e := e) (x := .agg #[.slice xp xn xc, .int .i64 xm, .int .i64 xd, .slice xp2 xn2 xc2, .bool xb]) (a := .agg #[.slice ap an ac, .int .i64 am, .int .i64 ad, .slice ap2 an2 ac2, .bool ab]) ⟨_, _, _, _, _, _, _, _, _, rfl⟩ HAS.out; obtain ⟨vp, vn, vc, vm, vd, vp2, vn2, vc2, vb, ev⟩ := pick_shape (e := e) (x := .agg #[.slice yp yn yc, .int .i64 ym, .int .i64 yd, .slice yp2 yn2 yc2, .bool yb]) (a := .agg #[.slice bp bn bc, .int .i64 bm, .int .i64 bd, .slice bp2 bn2 bc2, .bool bb]) ⟨_, _, _, _, _, _, _, _, _, rfl⟩ HBS.out; have HEU := Lib.hid eu; have HEV := Lib.hid ev; rw [eu, ev]; clear eu ev; obtain ⟨z0, z1, z2, z3, z4⟩ := HK7.out.z.cells; obtain ⟨y0, y1, y2, y3, y4⟩ := HK7.out.zz.cells; obtain ⟨f0, f1, f2, f3, f4⟩ := HK7.out.z.frz; obtain ⟨g0, g1, g2, g3, g4⟩ := HK7.out.zz.frz))
 obtain ⟨W8, hW8⟩ : ∃ W8, W8 = (((((W7.setCell ⟨w.heap.size + 1 + 1 + 1, 0, none⟩ (.slice up un uc)).setCell ⟨w.heap.size + 1 + 1 + 1, 1, none⟩ (.int .i64 um)).setCell ⟨w.heap.size + 1 + 1 + 1, 2, none⟩ (.int .i64 ud)).setCell ⟨w.heap.size + 1 + 1 + 1, 3, none⟩ (.slice up2 un2 uc2)).setCell ⟨w.heap.size + 1 + 1 + 1, 4, none⟩ (.bool ub)) := ⟨_, rfl⟩
 rw [← hW8]
 obtain ⟨W9, hW9⟩ : ∃ W9, W9 = (((((W8.setCell ⟨w.heap.size + 1 + 1 + 1 + 1, 0, none⟩ (.slice vp vn vc)).setCell ⟨w.heap.size + 1 + 1 + 1 + 1, 1, none⟩ (.int .i64 vm)).setCell ⟨w.heap.size + 1 + 1 + 1 + 1, 2, none⟩ (.int .i64 vd)).setCell ⟨w.heap.size + 1 + 1 + 1 + 1, 3, none⟩ (.slice vp2 vn2 vc2)).setCell ⟨w.heap.size + 1 + 1 + 1 + 1, 4, none⟩ (.bool vb)) := ⟨_, rfl⟩
 rw [← hW9]
 obtain ⟨p1, p2, p3⟩ := B5.put HK7.out.z hW8
 have hzz := p3 _ _ _ _ _ _ _ (by omega) HK7.out.zz
 obtain ⟨r1, r2, r3⟩ := B5.put hzz hW9
 have kp7 := Keeps.put (.inl rfl) HK7.out.z hW8
 have kp8 := Keeps.put (.inr rfl) hzz hW9
 have K1 := Lib.hid (r2 w.heap.size w (by omega) (p2 w.heap.size w (by omega) HK7.out.below))
 have HX8 := Lib.hid (HC.out.kx _ _ _ (HC.out.kx _ _ _ HX7.out kp7) kp8)
 have HY8 := Lib.hid (HC.out.ky _ _ _ (HC.out.ky _ _ _ HY7.out kp7) kp8)
 have p4 := r3 _ _ _ _ _ _ _ (by omega) p1
 clear z0 z1 z2 z3 z4 y0 y1 y2 y3 y4 f0 f1 f2 f3 f4 g0 g1 g2 g3 g4 hW8 hW9 kp7 kp8 hzz
 obtain ⟨c0, c1, c2, c3, c4⟩ := p4.cells
 obtain ⟨d0, d1, d2, d3, d4⟩ := r1.cells
 go_wp2_with fail
 refine bodyPost_ret (v := .tuple #[.agg #[.slice up un uc, .int .i64 um, .int .i64 ud, .slice up2 un2 uc2, .bool ub], .agg #[.slice vp vn vc, .int .i64 vm, .int .i64 vd, .slice vp2 vn2 vc2, .bool vb], .bool true]) (by simp [results, Try.results17, go_sem, c0, c1, c2, c3, c4, d0, d1, d2, d3, d4]) rfl ⟨_, _, ?_, HX8.out, HY8.out, K1.out⟩
 rw [HEU.out, HEV.out]
end Go.Proofs.Ytgbafpjeapkklaa.Mb
namespace Go.Proofs.Ytgbafpjeapkklaa.Mb
open Go.RowKit
set_option linter.unusedVariables false
set_option linter.unusedSimpArgs false
theorem Both.facts2 {W : World} {k1 k2 : Nat} {a0 a1 a2 a3 a4 b0 b1 b2 b3 b4 : Value} (h1 : B5 W k1 28 a0 a1 a2 a3 a4) (h2 : B5 W k2 46 b0 b1 b2 b3 b4) :
  W.cell? ⟨k1, 0, none⟩ = some a0 ∧ W.cell? ⟨k1, 1, none⟩ = some a1 ∧ W.cell? ⟨k1, 2, none⟩ = some a2 ∧ W.cell? ⟨k1, 3, none⟩ = some a3 ∧ W.cell? ⟨k1, 4, none⟩ = some a4 ∧
  W.cell? ⟨k2, 0, none⟩ = some b0 ∧ W.cell? ⟨k2, 1, none⟩ = some b1 ∧ W.cell? ⟨k2, 2, none⟩ = some b2 ∧ W.cell? ⟨k2, 3, none⟩ = some b3 ∧ W.cell? ⟨k2, 4, none⟩ = some b4 :=
 ⟨cB h1 0, cB h1 1, cB h1 2, cB h1 3, cB h1 4, cB h2 0, cB h2 1, cB h2 2, cB h2 3, cB h2 4⟩
theorem Both.put21 {W : World} {k k' k1 k2 : Nat} {z0 z1 z2 z3 z4 y0 y1 y2 y3 y4 a0 a1 a2 a3 a4 b0 b1 b2 b3 b4 u0 u1 u2 u3 u4 : Value} (hz : B5 W k 28 z0 z1 z2 z3 z4) (hy : B5 W k' 46 y0 y1 y2 y3 y4) (n0 : k' ≠ k) (n1 : k1 ≠ k ∧ k1 ≠ k') (n2 : k2 ≠ k ∧ k2 ≠ k') (h1 : B5 W k1 28 a0 a1 a2 a3 a4) (h2 : B5 W k2 46 b0 b1 b2 b3 b4) :
  (((((W.setCell ⟨k, 0, none⟩ u0).setCell ⟨k, 1, none⟩ u1).setCell ⟨k, 2, none⟩ u2).setCell ⟨k, 3, none⟩ u3).setCell ⟨k, 4, none⟩ u4).cell? ⟨k1, 0, none⟩ = some a0 ∧ (((((W.setCell ⟨k, 0, none⟩ u0).setCell ⟨k, 1, none⟩ u1).setCell ⟨k, 2, none⟩ u2).setCell ⟨k, 3, none⟩ u3).setCell ⟨k, 4, none⟩ u4).cell? ⟨k1, 1, none⟩ = some a1 ∧ (((((W.setCell ⟨k, 0, none⟩ u0).setCell ⟨k, 1, none⟩ u1).setCell ⟨k, 2, none⟩ u2).setCell ⟨k, 3, none⟩ u3).setCell ⟨k, 4, none⟩ u4).cell? ⟨k1, 2, none⟩ = some a2 ∧ (((((W.setCell ⟨k, 0, none⟩ u0).setCell ⟨k, 1, none⟩ u1).setCell ⟨k, 2, none⟩ u2).setCell ⟨k, 3, none⟩ u3).setCell ⟨k, 4, none⟩ u4).cell? ⟨k1, 3, none⟩ = some a3 ∧ (((((W.setCell ⟨k, 0, none⟩ u0).setCell ⟨k, 1, none⟩ u1).setCell ⟨k, 2, none⟩ u2).setCell ⟨k, 3, none⟩ u3).setCell ⟨k, 4, none⟩ u4).cell? ⟨k1, 4, none⟩ = some a4 ∧
  (((((W.setCell ⟨k, 0, none⟩ u0).setCell ⟨k, 1, none⟩ u1).setCell ⟨k, 2, none⟩ u2).setCell ⟨k, 3, none⟩ u3).setCell ⟨k, 4, none⟩ u4).cell? ⟨k2, 0, none⟩ = some b0 ∧ (((((W.setCell ⟨k, 0, none⟩ u0).setCell ⟨k, 1, none⟩ u1).setCell ⟨k, 2, none⟩ u2).setCell ⟨k, 3, none⟩ u3).setCell ⟨k, 4, none⟩ u4).cell? ⟨k2, 1, none⟩ = some b1 ∧ (((((W.setCell ⟨k, 0, none⟩ u0).setCell ⟨k, 1, none⟩ u1).setCell ⟨k, 2, none⟩ u2).setCell ⟨k, 3, none⟩ u3).setCell ⟨k, 4, none⟩ u4).cell? ⟨k2, 2, none⟩ = some b2 ∧ (((((W.setCell ⟨k, 0, none⟩ u0).setCell ⟨k, 1, none⟩ u1).setCell ⟨k, 2, none⟩ u2).setCell ⟨k, 3, none⟩ u3).setCell ⟨k, 4, none⟩ u4).cell? ⟨k2, 3, none⟩ = some b3 ∧ (((((W.setCell ⟨k, 0, none⟩ u0).setCell ⟨k, 1, none⟩ u1).setCell ⟨k, 2, none⟩ u2).setCell ⟨k, 3, none⟩ u3).setCell ⟨k, 4, none⟩ u4).cell? ⟨k2, 4, none⟩ = some b4 := by
 obtain ⟨_, _, p⟩ := B5.put (u0 := u0) (u1 := u1) (u2 := u2) (u3 := u3) (u4 := u4) hz rfl
 exact Both.facts2 (p _ _ _ _ _ _ _ n1.1 h1) (p _ _ _ _ _ _ _ n2.1 h2)
theorem Both.put22 {W : World} {k k' k1 k2 : Nat} {z0 z1 z2 z3 z4 y0 y1 y2 y3 y4 a0 a1 a2 a3 a4 b0 b1 b2 b3 b4 u0 u1 u2 u3 u4 v0 v1 v2 v3 v4 : Value} (hz : B5 W k 28 z0 z1 z2 z3 z4) (hy : B5 W k' 46 y0 y1 y2 y3 y4) (n0 : k' ≠ k) (n1 : k1 ≠ k ∧ k1 ≠ k') (n2 : k2 ≠ k ∧ k2 ≠ k') (h1 : B5 W k1 28 a0 a1 a2 a3 a4) (h2 : B5 W k2 46 b0 b1 b2 b3 b4) :
  ((((((((((W.setCell ⟨k, 0, none⟩ u0).setCell ⟨k, 1, none⟩ u1).setCell ⟨k, 2, none⟩ u2).setCell ⟨k, 3, none⟩ u3).setCell ⟨k, 4, none⟩ u4).setCell ⟨k', 0, none⟩ v0).setCell ⟨k', 1, none⟩ v1).setCell ⟨k', 2, none⟩ v2).setCell ⟨k', 3, none⟩ v3).setCell ⟨k', 4, none⟩ v4).cell? ⟨k1, 0, none⟩ = some a0 ∧ ((((((((((W.setCell ⟨k, 0, none⟩ u0).setCell ⟨k, 1, none⟩ u1).setCell ⟨k, 2, none⟩ u2).setCell ⟨k, 3, none⟩ u3).setCell ⟨k, 4, none⟩ u4).setCell ⟨k', 0, none⟩ v0).setCell ⟨k', 1, none⟩ v1).setCell ⟨k', 2, none⟩ v2).setCell ⟨k', 3, none⟩ v3).setCell ⟨k', 4, none⟩ v4).cell? ⟨k1, 1, none⟩ = some a1 ∧ ((((((((((W.setCell ⟨k, 0, none⟩ u0).setCell ⟨k, 1, none⟩ u1).setCell ⟨k, 2, none⟩ u2).setCell ⟨k, 3, none⟩ u3).setCell ⟨k, 4, none⟩ u4).setCell ⟨k', 0, none⟩ v0).setCell ⟨k', 1, none⟩ v1).setCell ⟨k', 2, none⟩ v2).setCell ⟨k', 3, none⟩ v3).setCell ⟨k', 4, none⟩ v4).cell? ⟨k1, 2, none⟩ = some a2 ∧ ((((((((((W.setCell ⟨k, 0, none⟩ u0).setCell ⟨k, 1, none⟩ u1).setCell ⟨k, 2, none⟩ u2).setCell ⟨k, 3, none⟩ u3).setCell ⟨k, 4, none⟩ u4).setCell ⟨k', 0, none⟩ v0).setCell ⟨k', 1, none⟩ v1).setCell ⟨k', 2, none⟩ v2).setCell ⟨k', 3, none⟩ v3).setCell ⟨k', 4, none⟩ v4).cell? ⟨k1, 3, none⟩ = some a3 ∧ ((((((((((W.setCell ⟨k, 0, none⟩ u0).setCell ⟨k, 1, none⟩ u1).setCell ⟨k, 2, none⟩ u2).setCell ⟨k, 3, none⟩ u3).setCell ⟨k, 4, none⟩ u4).setCell ⟨k', 0, none⟩ v0).setCell ⟨k', 1, none⟩ v1).setCell ⟨k', 2, none⟩ v2).setCell ⟨k', 3, none⟩ v3).setCell ⟨k', 4, none⟩ v4).cell? ⟨k1, 4, none⟩ = some a4 ∧
  ((((((((((W.setCell ⟨k, 0, none⟩ u0).setCell ⟨k, 1, none⟩ u1).setCell ⟨k, 2, none⟩ u2).setCell ⟨k, 3, none⟩ u3).setCell ⟨k, 4, none⟩ u4).setCell ⟨k', 0, none⟩ v0).setCell ⟨k', 1, none⟩ v1).setCell ⟨k', 2, none⟩ v2).setCell ⟨k', 3, none⟩ v3).setCell ⟨k', 4, none⟩ v4).cell? ⟨k2, 0, none⟩ = some b0 ∧ ((((((((((W.setCell ⟨k, 0, none⟩ u0).setCell ⟨k, 1, none⟩ u1).setCell ⟨k, 2, none⟩ u2).setCell ⟨k, 3, none⟩ u3).setCell ⟨k, 4, none⟩ u4).setCell ⟨k', 0, none⟩ v0).setCell ⟨k', 1, none⟩ v1).setCell ⟨k', 2, none⟩ v2).setCell ⟨k', 3, none⟩ v3).setCell ⟨k', 4, none⟩ v4).cell? ⟨k2, 1, none⟩ = some b1 ∧ ((((((((((W.setCell ⟨k, 0, none⟩ u0).setCell ⟨k, 1, none⟩ u1).setCell ⟨k, 2, none⟩ u2).setCell ⟨k, 3, none⟩ u3).setCell ⟨k, 4, none⟩ u4).setCell ⟨k', 0, none⟩ v0).setCell ⟨k', 1, none⟩ v1).setCell ⟨k', 2, none⟩ v2).setCell ⟨k', 3, none⟩ v3).setCell ⟨k', 4, none⟩ v4).cell? ⟨k2, 2, none⟩ = some b2 ∧ ((((((((((W.setCell ⟨k, 0, none⟩ u0).setCell ⟨k, 1, none⟩ u1).setCell ⟨k, 2, none⟩ u2).setCell ⟨k, 3, none⟩ u3).setCell ⟨k, 4, none⟩ u4).setCell ⟨k', 0, none⟩ v0).setCell ⟨k', 1, none⟩ v1).setCell ⟨k', 2, none⟩ v2).setCell ⟨k', 3, none⟩ v3).setCell ⟨k', 4, none⟩ v4).cell? ⟨k2, 3, none⟩ = some b3 ∧ ((((((((((W.setCell ⟨k, 0, none⟩ u0).setCell ⟨k, 1, none⟩ u1).setCell ⟨k, 2, none⟩ u2).setCell ⟨k, 3, none⟩ u3).setCell ⟨k, 4, none⟩ u4).setCell ⟨k', 0, none⟩ v0).setCell ⟨k', 1, none⟩ v1).setCell ⟨k', 2, none⟩ v2).setCell ⟨k', 3, none⟩ v3).setCell ⟨k', 4, none⟩ v4).cell? ⟨k2, 4, none⟩ = some b4 := by
 obtain ⟨_, _, p⟩ := B5.put (u0 := u0) (u1 := u1) (u2 := u2) (u3 := u3) (u4 := u4) hz rfl
 obtain ⟨_, _, r⟩ := B5.put (u0 := v0) (u1 := v1) (u2 := v2) (u3 := v3) (u4 := v4) (p _ _ _ _ _ _ _ n0 hy) rfl
 exact Both.facts2 (r _ _ _ _ _ _ _ n1.2 (p _ _ _ _ _ _ _ n1.1 h1)) (r _ _ _ _ _ _ _ n2.2 (p _ _ _ _ _ _ _ n2.1 h2))
set_option maxRecDepth 100000 in
set_option maxHeartbeats 32000000 in
theorem step_5 {a b : Value} {ki p v : Int} {w : World} (ha : Shape a) (hb : Shape b) (g1 : -128 ≤ ki) (g2 : ki ≤ 127) (g3 : -128 ≤ p) (g4 : p ≤ 127) (g5 : -128 ≤ v) (g6 : v ≤ 127) (hk : kindOf ki = 5)
  {n : Nat} {l : List Int} (hn : n ≤ 100000)
  (hA : ∀ W, Below w.heap.size w W → Calls Try.prog 22 #[a] W fun en w' => ∃ u, en = .returned (.tuple #[u, .int .i64 0]) ∧ w'.ownsRow W.heap.size 3 1 u n (ints l) ∧ Below W.heap.size W w')
  (hB : ∀ W, Below w.heap.size w W → Calls Try.prog 52 #[b] W fun en w' => ∃ u, en = .returned (.tuple #[u, .int .i64 0]) ∧ w'.ownsRow W.heap.size 3 1 u n (ints l) ∧ Below W.heap.size W w')
  (hC : ∀ W, Below w.heap.size w W → Calls Try.prog 18 #[a] W fun en w' => en = .returned (.int .i64 0) ∧ Below W.heap.size W w')
  (hD : ∀ W, Below w.heap.size w W → Calls Try.prog 20 #[b] W fun en w' => en = .returned (.int .i64 0) ∧ Below W.heap.size W w') :
  Calls Try.prog 17 #[a, b, .agg #[.int .i8 ki, .int .i8 p, .int .i8 v]] w fun en w' => en = .returned (.tuple #[a, b, .bool true]) ∧ Below w.heap.size w w' := by
 have HNN := Lib.hid hn
 have HCC := Lib.hid hC
 have HDD := Lib.hid hD
 have hc : True := trivial
 clear hn hC hD
 obtain ⟨ap, an, ac, am, ad, ap2, an2, ac2, ab, rfl⟩ := ha
 obtain ⟨bp, bn, bc, bm, bd, bp2, bn2, bc2, bb, rfl⟩ := hb
 have HC := Lib.hid hc
 have HAA := Lib.hid hA
 have HBB := Lib.hid hB
 have HAS : Hid (Shape (.agg #[.slice ap an ac, .int .i64 am, .int .i64 ad, .slice ap2 an2 ac2, .bool ab])) := ⟨_, _, _, _, _, _, _, _, _, rfl⟩
 have HBS : Hid (Shape (.agg #[.slice bp bn bc, .int .i64 bm, .int .i64 bd, .slice bp2 bn2 bc2, .bool bb])) := ⟨_, _, _, _, _, _, _, _, _, rfl⟩
 obtain ⟨r, kk, er, hr1, hr2, ek, hkk⟩ := kind_of ki g1 g2
 obtain rfl : kk = 5 := by
  unfold kindOf at hk
  rw [er, ek] at hk
  omega
 have f0 : wrap64 ki = ki := by unfold wrap64; omega
 have f1 : wrap64 p = p := by unfold wrap64; omega
 have f2 : wrap64 v = v := by unfold wrap64; omega
 have f0' : IntKind.i64.wrap ki = ki := (Go.IntWalk.i64_left _).trans f0
 have f1' : IntKind.i64.wrap p = p := (Go.IntWalk.i64_left _).trans f1
 have f2' : IntKind.i64.wrap v = v := (Go.IntWalk.i64_left _).trans f2
 have fr : wrap64 r = r := by unfold wrap64; omega
 have fr' : IntKind.i64.wrap r = r := (Go.IntWalk.i64_left _).trans fr
 have fs : wrap64 (r + 6) = r + 6 := by unfold wrap64; omega
 have fs' : IntKind.i64.wrap (r + 6) = r + 6 := (Go.IntWalk.i64_left _).trans fs
 clear hc hA hB hk g1 g2 g3 g4 g5 g6 hr1 hr2 hkk
 have HK : Hid (SK w (.slice ap an ac) (.int .i64 am) (.int .i64 ad) (.slice ap2 an2 ac2) (.bool ab) (.slice bp bn bc) (.int .i64 bm) (.int .i64 bd) (.slice bp2 bn2 bc2) (.bool bb) ki p v _) := SK.mk' w _ _ _ _ _ _ _ _ _ _ ki p v
 go_enter Try.func17, Try.ntmps17
 go_upto_region 1 with fail
 generalize (((((w.alloc (Obj.cells #[.slice ap an ac, .int .i64 am, .int .i64 ad, .slice ap2 an2 ac2, .bool ab] 28)).alloc (Obj.cells #[.slice bp bn bc, .int .i64 bm, .int .i64 bd, .slice bp2 bn2 bc2, .bool bb] 46)).alloc (Obj.cells #[.int .i8 ki, .int .i8 p, .int .i8 v] 51)).alloc (Obj.cells #[.slice none 0 0, .int .i64 0, .int .i64 0, .slice none 0 0, .bool false] 28)).alloc (Obj.cells #[.slice none 0 0, .int .i64 0, .int .i64 0, .slice none 0 0, .bool false] 46)) = W0 at *
 obtain ⟨o0, o1, o2⟩ := HK.out.ocells
 go_quiet (fail)
 go_upto_region 24 with fail
 have HK1 := Lib.hid (HK.out.step (below_drewN (Below.refl _ _) nq))
 generalize W0.drewN nq = W1 at *
 clear o0 o1 o2 f0 f0' fr fr' fs fs' er ek f1 f1' f2 f2'
 obtain ⟨c0, c1, c2, c3, c4⟩ := HK1.out.a.cells
 go_wp2_with fail
 refine (HAA.out _ HK1.out.below).mono ?_
 rintro en W2 ⟨u, rfl, hu, hb2⟩
 obtain ⟨rp, rc, er⟩ := own1_slice hu
 subst er
 have HK2 := Lib.hid (HK1.out.step hb2)
 have HU2 := Lib.hid hu
 clear hu hb2 c0 c1 c2 c3 c4
 go_upto_region 25 with fail
 obtain ⟨c0, c1, c2, c3, c4⟩ := HK2.out.b.cells
 go_wp2_with fail
 refine (HBB.out _ HK2.out.below).mono ?_
 rintro en W4 ⟨u, rfl, hu, hb4⟩
 obtain ⟨tp, tc, er⟩ := own1_slice hu
 subst er
 have HK5 := Lib.hid (HK2.out.step hb4)
 have HU5 := Lib.hid (own1_below HU2.out hb4)
 have HV5 := Lib.hid hu
 clear hu hb4 c0 c1 c2 c3 c4
 go_upto_region 26 with fail
 generalize hw5 : W4 = W5 at *
 clear hw5
 have HNE0 : Hid (w.heap.size + 1 + 1 + 1 + 1 ≠ w.heap.size + 1 + 1 + 1) := by show _ ≠ _; omega
 have HNE1 : Hid (w.heap.size ≠ w.heap.size + 1 + 1 + 1 ∧ w.heap.size ≠ w.heap.size + 1 + 1 + 1 + 1) := by show _ ∧ _; omega
 have HNE2 : Hid (w.heap.size + 1 ≠ w.heap.size + 1 + 1 + 1 ∧ w.heap.size + 1 ≠ w.heap.size + 1 + 1 + 1 + 1) := by show _ ∧ _; omega
 have HD5 : Hid (Below W5.heap.size W5 W5.drew) := (Below.refl _ _).drew
 go_region_held3 (fun W => W.cell? ⟨w.heap.size, 0, none⟩ = some (.slice ap an ac) ∧ W.cell? ⟨w.heap.size, 1, none⟩ = some (.int .i64 am) ∧ W.cell? ⟨w.heap.size, 2, none⟩ = some (.int .i64 ad) ∧ W.cell? ⟨w.heap.size, 3, none⟩ = some (.slice ap2 an2 ac2) ∧ W.cell? ⟨w.heap.size, 4, none⟩ = some (.bool ab) ∧ W.cell? ⟨w.heap.size + 1, 0, none⟩ = some (.slice bp bn bc) ∧ W.cell? ⟨w.heap.size + 1, 1, none⟩ = some (.int .i64 bm) ∧ W.cell? ⟨w.heap.size + 1, 2, none⟩ = some (.int .i64 bd) ∧ W.cell? ⟨w.heap.size + 1, 3, none⟩ = some (.slice bp2 bn2 bc2) ∧ W.cell? ⟨w.heap.size + 1, 4, none⟩ = some (.bool bb))
  (first | with_reducible exact Both.facts2 HK5.out.a HK5.out.b | with_reducible exact Both.facts2 (HK5.out.step HD5.out).a (HK5.out.step HD5.out).b | with_reducible exact Both.facts2 HK6.out.a HK6.out.b | with_reducible exact Both.facts2 HK7.out.a HK7.out.b | with_reducible exact Both.facts2 HK8.out.a HK8.out.b | with_reducible exact Both.put21 HK8.out.z HK8.out.zz HNE0.out HNE1.out HNE2.out HK8.out.a HK8.out.b | with_reducible exact Both.put22 HK8.out.z HK8.out.zz HNE0.out HNE1.out HNE2.out HK8.out.a HK8.out.b | (trace_state; fail))
  (first
   | (go_at_call 14; refine (equal_at (own1_below HU5.out HD5.out) (own1_below HV5.out HD5.out) HNN.out).mono ?_; rintro en W6 ⟨rfl, hb⟩; have hbb := HD5.out.trans (hb.mono HD5.out.size); have HK6 := Lib.hid (HK5.out.step hbb); clear hb hbb)
   | (go_at_call 18; refine (HCC.out _ HK6.out.below).mono ?_; rintro en W7 ⟨rfl, hb⟩; have HK7 := Lib.hid (HK6.out.step hb); clear hb)
   | (go_at_call 20; refine (HDD.out _ HK7.out.below).mono ?_; rintro en W8 ⟨rfl, hb⟩; have HK8 := Lib.hid (HK7.out.step hb); clear hb; obtain ⟨z0, z1, z2, z3, z4⟩ := HK8.out.z.cells; obtain ⟨y0, y1, y2, y3, y4⟩ := HK8.out.zz.cells; obtain ⟨f0, f1, f2, f3, f4⟩ := HK8.out.z.frz; obtain ⟨g0, g1, g2, g3, g4⟩ := HK8.out.zz.frz))
 all_goals
  obtain ⟨W9, hW9⟩ : ∃ W9, W9 = (((((W8.setCell ⟨w.heap.size + 1 + 1 + 1, 0, none⟩ (.slice ap an ac)).setCell ⟨w.heap.size + 1 + 1 + 1, 1, none⟩ (.int .i64 am)).setCell ⟨w.heap.size + 1 + 1 + 1, 2, none⟩ (.int .i64 ad)).setCell ⟨w.heap.size + 1 + 1 + 1, 3, none⟩ (.slice ap2 an2 ac2)).setCell ⟨w.heap.size + 1 + 1 + 1, 4, none⟩ (.bool ab)) := ⟨_, rfl⟩
  rw [← hW9]
  obtain ⟨WA, hWA⟩ : ∃ WA, WA = (((((W9.setCell ⟨w.heap.size + 1 + 1 + 1 + 1, 0, none⟩ (.slice bp bn bc)).setCell ⟨w.heap.size + 1 + 1 + 1 + 1, 1, none⟩ (.int .i64 bm)).setCell ⟨w.heap.size + 1 + 1 + 1 + 1, 2, none⟩ (.int .i64 bd)).setCell ⟨w.heap.size + 1 + 1 + 1 + 1, 3, none⟩ (.slice bp2 bn2 bc2)).setCell ⟨w.heap.size + 1 + 1 + 1 + 1, 4, none⟩ (.bool bb)) := ⟨_, rfl⟩
  rw [← hWA]
  obtain ⟨p1, p2, p3⟩ := B5.put HK8.out.z hW9
  have hzz := p3 _ _ _ _ _ _ _ (by omega) HK8.out.zz
  obtain ⟨r1, r2, r3⟩ := B5.put hzz hWA
  have K1 := Lib.hid (r2 w.heap.size w (by omega) (p2 w.heap.size w (by omega) HK8.out.below))
  have p4 := r3 _ _ _ _ _ _ _ (by omega) p1
  clear z0 z1 z2 z3 z4 y0 y1 y2 y3 y4 f0 f1 f2 f3 f4 g0 g1 g2 g3 g4 hW9 hWA hzz
  obtain ⟨c0, c1, c2, c3, c4⟩ := p4.cells
  obtain ⟨d0, d1, d2, d3, d4⟩ := r1.cells
  go_wp2_with fail
  refine bodyPost_ret (v := .tuple #[.agg #[.slice ap an ac, .int .i64 am, .int .i64 ad, .slice ap2 an2 ac2, .bool ab], .agg #[.slice bp bn bc, .int .i64 bm, .int .i64 bd, .slice bp2 bn2 bc2, .bool bb], .bool true]) (by simp [results, Try.results17, go_sem, c0, c1, c2, c3, c4, d0, d1, d2, d3, d4]) rfl ⟨rfl, K1.out⟩
end Go.Proofs.Ytgbafpjeapkklaa.Mb
namespace Go.Proofs.Ytgbafpjeapkklaa.Mb
open Go.RowKit
set_option linter.unusedVariables false
set_option linter.unusedSimpArgs false
set_option maxRecDepth 100000 in
set_option maxHeartbeats 4000000 in
theorem waiting_r {ns ps : List T3} {last done : Int} {em : Bool} (hr : ¬ RightS ns last done ps em) (hl1 : ns.length ≤ 100000) (hl2 : ps.length ≤ 100000) {v : Value} (w : World) (hv : StG w v ns last done ps em) :
  Calls Try.prog 22 #[v] w fun e w' => ∃ u, e = .returned (.tuple #[u, .int .i64 14]) ∧ w'.ownsRow w.heap.size 3 1 u 0 (ints []) ∧ Below w.heap.size w w' := by
 obtain ⟨vn, vp, rfl, hn, hp⟩ := hv
 have HCK : Hid (∀ W, Below w.heap.size w W → Calls Try.prog 18 #[.agg #[vn, .int .i64 last, .int .i64 done, vp, .bool em]] W fun e w' => e = .returned (.int .i64 14) ∧ Below W.heap.size W w') := fun W h => check_g ns ps last done em 14 (fun h => absurd h hr) (fun _ => rfl) vn vp W (hn.below h).1 (hp.below h).1 (by omega) (by omega)
 have HB0 : Hid (Gx w vn last done vp em w.heap.size (w.alloc (Obj.cells #[vn, .int .i64 last, .int .i64 done, vp, .bool em] 28))) := ⟨(Below.refl _ _).alloc (Nat.le_refl _) _, (MapKept.heap_alloc _ _).1⟩
 obtain ⟨pn, cn, hA⟩ := hn.slice
 obtain ⟨pp, cp, hB⟩ := hp.slice
 subst hA
 subst hB
 clear hn hp hr
 go_enter Try.func22, Try.ntmps22
 go_upto_region 1 with fail
 generalize (w.alloc (Obj.cells #[.slice pn ns.length cn, .int .i64 last, .int .i64 done, .slice pp ps.length cp, .bool em] 28)) = W0 at *
 obtain ⟨c0, c1, c2, c3, c4⟩ := HB0.out.facts
 go_wp2_with fail
 refine (HCK.out _ HB0.out.below).mono ?_
 rintro e W1 ⟨rfl, hb1⟩
 have HB1 := Lib.hid (HB0.out.step hb1)
 clear hb1 c0 c1 c2 c3 c4
 go_wp2_with fail
 go_ret2
 exact ⟨_, rfl, World.ownsRow_nil _ _ _ _, HB1.out.below⟩
set_option maxRecDepth 100000 in
set_option maxHeartbeats 32000000 in
theorem step_5w {a b : Value} {ki p v : Int} {w : World} (ha : Shape a) (hb : Shape b) (g1 : -128 ≤ ki) (g2 : ki ≤ 127) (g3 : -128 ≤ p) (g4 : p ≤ 127) (g5 : -128 ≤ v) (g6 : v ≤ 127) (hk : kindOf ki = 5)
  {n : Nat} {l : List Int} (hn : n ≤ 100000)
  (hA : ∀ W, Below w.heap.size w W → Calls Try.prog 22 #[a] W fun en w' => ∃ u, en = .returned (.tuple #[u, .int .i64 14]) ∧ w'.ownsRow W.heap.size 3 1 u n (ints l) ∧ Below W.heap.size W w')
  (hB : ∀ W, Below w.heap.size w W → Calls Try.prog 52 #[b] W fun en w' => ∃ u, en = .returned (.tuple #[u, .int .i64 14]) ∧ w'.ownsRow W.heap.size 3 1 u n (ints l) ∧ Below W.heap.size W w')
  (hC : ∀ W, Below w.heap.size w W → Calls Try.prog 18 #[a] W fun en w' => en = .returned (.int .i64 14) ∧ Below W.heap.size W w')
  (hD : ∀ W, Below w.heap.size w W → Calls Try.prog 20 #[b] W fun en w' => en = .returned (.int .i64 14) ∧ Below W.heap.size W w') :
  Calls Try.prog 17 #[a, b, .agg #[.int .i8 ki, .int .i8 p, .int .i8 v]] w fun en w' => en = .returned (.tuple #[a, b, .bool true]) ∧ Below w.heap.size w w' := by
 have HNN := Lib.hid hn
 have HCC := Lib.hid hC
 have HDD := Lib.hid hD
 have hc : True := trivial
 clear hn hC hD
 obtain ⟨ap, an, ac, am, ad, ap2, an2, ac2, ab, rfl⟩ := ha
 obtain ⟨bp, bn, bc, bm, bd, bp2, bn2, bc2, bb, rfl⟩ := hb
 have HC := Lib.hid hc
 have HAA := Lib.hid hA
 have HBB := Lib.hid hB
 have HAS : Hid (Shape (.agg #[.slice ap an ac, .int .i64 am, .int .i64 ad, .slice ap2 an2 ac2, .bool ab])) := ⟨_, _, _, _, _, _, _, _, _, rfl⟩
 have HBS : Hid (Shape (.agg #[.slice bp bn bc, .int .i64 bm, .int .i64 bd, .slice bp2 bn2 bc2, .bool bb])) := ⟨_, _, _, _, _, _, _, _, _, rfl⟩
 obtain ⟨r, kk, er, hr1, hr2, ek, hkk⟩ := kind_of ki g1 g2
 obtain rfl : kk = 5 := by
  unfold kindOf at hk
  rw [er, ek] at hk
  omega
 have f0 : wrap64 ki = ki := by unfold wrap64; omega
 have f1 : wrap64 p = p := by unfold wrap64; omega
 have f2 : wrap64 v = v := by unfold wrap64; omega
 have f0' : IntKind.i64.wrap ki = ki := (Go.IntWalk.i64_left _).trans f0
 have f1' : IntKind.i64.wrap p = p := (Go.IntWalk.i64_left _).trans f1
 have f2' : IntKind.i64.wrap v = v := (Go.IntWalk.i64_left _).trans f2
 have fr : wrap64 r = r := by unfold wrap64; omega
 have fr' : IntKind.i64.wrap r = r := (Go.IntWalk.i64_left _).trans fr
 have fs : wrap64 (r + 6) = r + 6 := by unfold wrap64; omega
 have fs' : IntKind.i64.wrap (r + 6) = r + 6 := (Go.IntWalk.i64_left _).trans fs
 clear hc hA hB hk g1 g2 g3 g4 g5 g6 hr1 hr2 hkk
 have HK : Hid (SK w (.slice ap an ac) (.int .i64 am) (.int .i64 ad) (.slice ap2 an2 ac2) (.bool ab) (.slice bp bn bc) (.int .i64 bm) (.int .i64 bd) (.slice bp2 bn2 bc2) (.bool bb) ki p v _) := SK.mk' w _ _ _ _ _ _ _ _ _ _ ki p v
 go_enter Try.func17, Try.ntmps17
 go_upto_region 1 with fail
 generalize (((((w.alloc (Obj.cells #[.slice ap an ac, .int .i64 am, .int .i64 ad, .slice ap2 an2 ac2, .bool ab] 28)).alloc (Obj.cells #[.slice bp bn bc, .int .i64 bm, .int .i64 bd, .slice bp2 bn2 bc2, .bool bb] 46)).alloc (Obj.cells #[.int .i8 ki, .int .i8 p, .int .i8 v] 51)).alloc (Obj.cells #[.slice none 0 0, .int .i64 0, .int .i64 0, .slice none 0 0, .bool false] 28)).alloc (Obj.cells #[.slice none 0 0, .int .i64 0, .int .i64 0, .slice none 0 0, .bool false] 46)) = W0 at *
 obtain ⟨o0, o1, o2⟩ := HK.out.ocells
 go_quiet (fail)
 go_upto_region 24 with fail
 have HK1 := Lib.hid (HK.out.step (below_drewN (Below.refl _ _) nq))
 generalize W0.drewN nq = W1 at *
 clear o0 o1 o2 f0 f0' fr fr' fs fs' er ek f1 f1' f2 f2'
 obtain ⟨c0, c1, c2, c3, c4⟩ := HK1.out.a.cells
 go_wp2_with fail
 refine (HAA.out _ HK1.out.below).mono ?_
 rintro en W2 ⟨u, rfl, hu, hb2⟩
 obtain ⟨rp, rc, er⟩ := own1_slice hu
 subst er
 have HK2 := Lib.hid (HK1.out.step hb2)
 have HU2 := Lib.hid hu
 clear hu hb2 c0 c1 c2 c3 c4
 go_upto_region 25 with fail
 obtain ⟨c0, c1, c2, c3, c4⟩ := HK2.out.b.cells
 go_wp2_with fail
 refine (HBB.out _ HK2.out.below).mono ?_
 rintro en W4 ⟨u, rfl, hu, hb4⟩
 obtain ⟨tp, tc, er⟩ := own1_slice hu
 subst er
 have HK5 := Lib.hid (HK2.out.step hb4)
 have HU5 := Lib.hid (own1_below HU2.out hb4)
 have HV5 := Lib.hid hu
 clear hu hb4 c0 c1 c2 c3 c4
 go_upto_region 26 with fail
 generalize hw5 : W4 = W5 at *
 clear hw5
 have HNE0 : Hid (w.heap.size + 1 + 1 + 1 + 1 ≠ w.heap.size + 1 + 1 + 1) := by show _ ≠ _; omega
 have HNE1 : Hid (w.heap.size ≠ w.heap.size + 1 + 1 + 1 ∧ w.heap.size ≠ w.heap.size + 1 + 1 + 1 + 1) := by show _ ∧ _; omega
 have HNE2 : Hid (w.heap.size + 1 ≠ w.heap.size + 1 + 1 + 1 ∧ w.heap.size + 1 ≠ w.heap.size + 1 + 1 + 1 + 1) := by show _ ∧ _; omega
 have HD5 : Hid (Below W5.heap.size W5 W5.drew) := (Below.refl _ _).drew
 go_region_held3 (fun W => W.cell? ⟨w.heap.size, 0, none⟩ = some (.slice ap an ac) ∧ W.cell? ⟨w.heap.size, 1, none⟩ = some (.int .i64 am) ∧ W.cell? ⟨w.heap.size, 2, none⟩ = some (.int .i64 ad) ∧ W.cell? ⟨w.heap.size, 3, none⟩ = some (.slice ap2 an2 ac2) ∧ W.cell? ⟨w.heap.size, 4, none⟩ = some (.bool ab) ∧ W.cell? ⟨w.heap.size + 1, 0, none⟩ = some (.slice bp bn bc) ∧ W.cell? ⟨w.heap.size + 1, 1, none⟩ = some (.int .i64 bm) ∧ W.cell? ⟨w.heap.size + 1, 2, none⟩ = some (.int .i64 bd) ∧ W.cell? ⟨w.heap.size + 1, 3, none⟩ = some (.slice bp2 bn2 bc2) ∧ W.cell? ⟨w.heap.size + 1, 4, none⟩ = some (.bool bb))
  (first | with_reducible exact Both.facts2 HK5.out.a HK5.out.b | with_reducible exact Both.facts2 (HK5.out.step HD5.out).a (HK5.out.step HD5.out).b | with_reducible exact Both.facts2 HK6.out.a HK6.out.b | with_reducible exact Both.facts2 HK7.out.a HK7.out.b | with_reducible exact Both.facts2 HK8.out.a HK8.out.b | with_reducible exact Both.put21 HK8.out.z HK8.out.zz HNE0.out HNE1.out HNE2.out HK8.out.a HK8.out.b | with_reducible exact Both.put22 HK8.out.z HK8.out.zz HNE0.out HNE1.out HNE2.out HK8.out.a HK8.out.b | (trace_state; fail))
  (first
   | (go_at_call 14; refine (equal_at (own1_below HU5.out HD5.out) (own1_below HV5.out HD5.out) HNN.out).mono ?_; rintro en W6 ⟨rfl, hb⟩; have hbb := HD5.out.trans (hb.mono HD5.out.size); have HK6 := Lib.hid (HK5.out.step hbb); clear hb hbb)
   | (go_at_call 18; refine (HCC.out _ HK6.out.below).mono ?_; rintro en W7 ⟨rfl, hb⟩; have HK7 := Lib.hid (HK6.out.step hb); clear hb)
   | (go_at_call 20; refine (HDD.out _ HK7.out.below).mono ?_; rintro en W8 ⟨rfl, hb⟩; have HK8 := Lib.hid (HK7.out.step hb); clear hb; obtain ⟨z0, z1, z2, z3, z4⟩ := HK8.out.z.cells; obtain ⟨y0, y1, y2, y3, y4⟩ := HK8.out.zz.cells; obtain ⟨f0, f1, f2, f3, f4⟩ := HK8.out.z.frz; obtain ⟨g0, g1, g2, g3, g4⟩ := HK8.out.zz.frz))
 all_goals
  obtain ⟨W9, hW9⟩ : ∃ W9, W9 = (((((W8.setCell ⟨w.heap.size + 1 + 1 + 1, 0, none⟩ (.slice ap an ac)).setCell ⟨w.heap.size + 1 + 1 + 1, 1, none⟩ (.int .i64 am)).setCell ⟨w.heap.size + 1 + 1 + 1, 2, none⟩ (.int .i64 ad)).setCell ⟨w.heap.size + 1 + 1 + 1, 3, none⟩ (.slice ap2 an2 ac2)).setCell ⟨w.heap.size + 1 + 1 + 1, 4, none⟩ (.bool ab)) := ⟨_, rfl⟩
  rw [← hW9]
  obtain ⟨WA, hWA⟩ : ∃ WA, WA = (((((W9.setCell ⟨w.heap.size + 1 + 1 + 1 + 1, 0, none⟩ (.slice bp bn bc)).setCell ⟨w.heap.size + 1 + 1 + 1 + 1, 1, none⟩ (.int .i64 bm)).setCell ⟨w.heap.size + 1 + 1 + 1 + 1, 2, none⟩ (.int .i64 bd)).setCell ⟨w.heap.size + 1 + 1 + 1 + 1, 3, none⟩ (.slice bp2 bn2 bc2)).setCell ⟨w.heap.size + 1 + 1 + 1 + 1, 4, none⟩ (.bool bb)) := ⟨_, rfl⟩
  rw [← hWA]
  obtain ⟨p1, p2, p3⟩ := B5.put HK8.out.z hW9
  have hzz := p3 _ _ _ _ _ _ _ (by omega) HK8.out.zz
  obtain ⟨r1, r2, r3⟩ := B5.put hzz hWA
  have K1 := Lib.hid (r2 w.heap.size w (by omega) (p2 w.heap.size w (by omega) HK8.out.below))
  have p4 := r3 _ _ _ _ _ _ _ (by omega) p1
  clear z0 z1 z2 z3 z4 y0 y1 y2 y3 y4 f0 f1 f2 f3 f4 g0 g1 g2 g3 g4 hW9 hWA hzz
  obtain ⟨c0, c1, c2, c3, c4⟩ := p4.cells
  obtain ⟨d0, d1, d2, d3, d4⟩ := r1.cells
  go_wp2_with fail
  refine bodyPost_ret (v := .tuple #[.agg #[.slice ap an ac, .int .i64 am, .int .i64 ad, .slice ap2 an2 ac2, .bool ab], .agg #[.slice bp bn bc, .int .i64 bm, .int .i64 bd, .slice bp2 bn2 bc2, .bool bb], .bool true]) (by simp [results, Try.results17, go_sem, c0, c1, c2, c3, c4, d0, d1, d2, d3, d4]) rfl ⟨rfl, K1.out⟩
end Go.Proofs.Ytgbafpjeapkklaa.Mb
namespace Go.Proofs.Ytgbafpjeapkklaa.Mb
open Go.RowKit
set_option linter.unusedVariables false
set_option linter.unusedSimpArgs false
theorem Both.err : Both (fun _ x => x = zv) StZ where
 sx := fun W x h => by rw [h]; exact zv_shape
 sy := fun W x h => h.shape
 bx := fun W W' x h hb => h
 bY := fun W W' x h hb => h.below hb
 kx := fun W W' x h hb => h
 ky := fun W W' x h hb => hb.stz h
 al := fun W x y h1 h2 => by rw [h1]; exact alike_zero h2
theorem zv_stz (W : World) : StZ W zv := ⟨_, _, rfl, ⟨⟨none, 0, rfl, Nat.le_refl _, .inl rfl⟩, fun g hg => by simp [Value.ownBlock] at hg⟩, ⟨⟨none, 0, rfl, Nat.le_refl _, .inl rfl⟩, fun g hg => by simp [Value.ownBlock] at hg⟩⟩
end Go.Proofs.Ytgbafpjeapkklaa.Mb
namespace Go.Proofs.Ytgbafpjeapkklaa.Mb
open Go.RowKit
set_option linter.unusedVariables false
set_option linter.unusedSimpArgs false
theorem StG.shape {w : World} {v : Value} {ns ps : List T3} {last done : Int} {em : Bool} (h : StG w v ns last done ps em) : Shape v := by
 obtain ⟨vn, vp, rfl, hn, hp⟩ := h
 obtain ⟨p, c, rfl⟩ := hn.slice
 obtain ⟨p', c', rfl⟩ := hp.slice
 exact ⟨_, _, _, _, _, _, _, _, _, rfl⟩
theorem StRG.shape {w : World} {v : Value} {ns ps : List T3} {last done : Int} {em : Bool} (h : StRG w v ns last done ps em) : Shape v := by
 obtain ⟨vn, vp, rfl, hn, hp⟩ := h
 obtain ⟨p, c, rfl⟩ := hn.slice
 obtain ⟨p', c', rfl⟩ := hp.slice
 exact ⟨_, _, _, _, _, _, _, _, _, rfl⟩
theorem alike_g {w : World} {a b : Value} {ns ps : List T3} {last done : Int} {em : Bool} (hl : ns.length ≤ 2000) (hm : ps.length ≤ 2000) (h1 : StG w a ns last done ps em) (h2 : StRG w b ns last done ps em) :
  Calls Try.prog 16 #[a, b] w fun e w' => e = .returned (.bool true) ∧ Below w.heap.size w w' := by
 obtain ⟨vn, vp, rfl, hn, hp⟩ := h1
 obtain ⟨vn', vp', rfl, hn', hp'⟩ := h2
 exact alike_ati hn hp hn' hp' hl hm _ _ _
theorem Both.any {ns ps : List T3} {last done : Int} {em : Bool} (hl : ns.length ≤ 2000) (hm : ps.length ≤ 2000) : Both (fun W x => StG W x ns last done ps em) (fun W y => StRG W y ns last done ps em) where
 sx := fun W x h => h.shape
 sy := fun W x h => h.shape
 bx := fun W W' x h hb => h.below hb
 bY := fun W W' x h hb => h.below hb
 kx := fun W W' x h hb => by
  obtain ⟨vn, vp, e, h1, h2⟩ := h
  exact ⟨vn, vp, e, hb.tri (by decide) (by decide) h1, hb.tri (by decide) (by decide) h2⟩
 ky := fun W W' x h hb => by
  obtain ⟨vn, vp, e, h1, h2⟩ := h
  exact ⟨vn, vp, e, hb.triI h1, hb.triI h2⟩
 al := fun W x y h1 h2 => alike_g hl hm h1 h2
theorem goD_len (ns : List T3) : ∀ (k : Nat) (d : Int), (goD ns k d).1.length ≤ k
 | 0, d => by simp [goD]
 | k + 1, d => by
  unfold goD
  by_cases h : nxtG ns d = -1
  ·rw [if_pos h]; simp
  ·rw [if_neg h]
   have := goD_len ns k (nxtG ns d)
   simp only [List.length_cons]
   omega
def StepOk (w : World) (en : Ending) (w' : World) : Prop := ∃ a' b', en = .returned (.tuple #[a', b', .bool true]) ∧ Shape a' ∧ Shape b' ∧ Below w.heap.size w w'
theorem stepOk_of {w : World} {a b : Value} {e : Int} {RX RY : World → Value → Prop} (hc : Both RX RY) (ha : Shape a) (hb : Shape b) {en : Ending} {w' : World}
  (h : ∃ x y, en = .returned (.tuple #[pickS e x a, pickS e y b, .bool true]) ∧ RX w' x ∧ RY w' y ∧ Below w.heap.size w w') : StepOk w en w' := by
 obtain ⟨x, y, rfl, h1, h2, h3⟩ := h
 exact ⟨_, _, rfl, pick_shape (hc.sx _ _ h1) ha, pick_shape (hc.sy _ _ h2) hb, h3⟩
theorem step_g {ns ps : List T3} {last done : Int} {em : Bool} (hl1 : ns.length ≤ 1000) (hl2 : ps.length ≤ 1000) {a b : Value} {ki p v : Int} {w : World} (ha : StG w a ns last done ps em) (hb : StRG w b ns last done ps em)
  (g1 : -128 ≤ ki) (g2 : ki ≤ 127) (g3 : -128 ≤ p) (g4 : p ≤ 127) (g5 : -128 ≤ v) (g6 : v ≤ 127) :
  Calls Try.prog 17 #[a, b, .agg #[.int .i8 ki, .int .i8 p, .int .i8 v]] w fun en w' => StepOk w en w' := by
 obtain ⟨r, kk, er, hr1, hr2, ek, hkk⟩ := kind_of ki g1 g2
 have hk : kindOf ki = (kk : Int) := by unfold kindOf; rw [er, ek]
 have hc : kk = 0 ∨ kk = 1 ∨ kk = 2 ∨ kk = 3 ∨ kk = 4 ∨ kk = 5 := by omega
 by_cases hr : RightS ns last done ps em
 ·rcases hc with rfl | rfl | rfl | rfl | rfl | rfl
  ·by_cases hp : p < 0
   ·refine (step_0 Both.err ha.shape hb.shape g1 g2 g3 g4 g5 g6 hk false 1 (fun W h => (begin_neg_g hr hp W (ha.below h)).mono ?_) (fun W h => rbegin_neg_g hr hp W (hb.below h))).mono fun en w' h => stepOk_of Both.err ha.shape hb.shape h
    rintro en w' ⟨rfl, hbl⟩
    exact ⟨_, rfl, rfl, hbl⟩
   ·rcases idx_cases ps p with ⟨hi, hno⟩ | ⟨i, o, ho, hop, hi, _⟩
    ·refine (step_0 (Both.any (ns := ns ++ [(v, p, -1)]) (ps := ps.take (posG ps p) ++ (p, last, (ns.length : Int)) :: ps.drop (posG ps p)) (last := (ns.length : Int)) (done := done) (em := false) (by simp; omega) (by simp; omega)) ha.shape hb.shape g1 g2 g3 g4 g5 g6 hk em 0 (fun W h => ?_) (fun W h => rbegin_g hr (by omega) hno (by omega) W (hb.below h))).mono fun en w' h => stepOk_of (Both.any (ns := ns ++ [(v, p, -1)]) (ps := ps.take (posG ps p) ++ (p, last, (ns.length : Int)) :: ps.drop (posG ps p)) (last := (ns.length : Int)) (done := done) (em := false) (by simp; omega) (by simp; omega)) ha.shape hb.shape h
     exact begin_g hr (by omega) hi (by omega) (insert_any (posG_le ps p) (by omega) _) W (ha.below h)
    ·refine (step_0 Both.err ha.shape hb.shape g1 g2 g3 g4 g5 g6 hk false 300 (fun W h => (begin_busy_g hr (by omega) hi W (ha.below h)).mono ?_) (fun W h => rbegin_busy_g hr (by omega) ho hop W (hb.below h))).mono fun en w' h => stepOk_of Both.err ha.shape hb.shape h
     rintro en w' ⟨rfl, hbl⟩
     exact ⟨_, rfl, rfl, hbl⟩
  ·rcases idx_cases ps p with ⟨hi, hno⟩ | ⟨i, o, ho, hop, hi, _⟩
   ·refine (step_1 Both.err ha.shape hb.shape g1 g2 g3 g4 g5 g6 hk 301 (fun W h => (finish_none_g hr hi W (ha.below h)).mono ?_) (fun W h => rfinish_none_g hr hno W (hb.below h))).mono fun en w' h => stepOk_of Both.err ha.shape hb.shape h
    rintro en w' ⟨rfl, hbl⟩
    exact ⟨_, rfl, rfl, hbl⟩
   ·obtain ⟨o1, o2, o3⟩ := o
    simp only at hop
    subst hop
    obtain ⟨bj, rfl, hbj⟩ := nat_of (hr.1.push i _ ho).1
    have hbx := List.getElem?_eq_getElem hbj
    refine (step_1 (Both.any (ns := ns.set bj ((ns[bj]).1, (ns[bj]).2.1, o3)) (ps := ps.eraseIdx i) (last := last) (done := done) (em := em) (by rw [List.length_set]; omega) (by have := List.length_eraseIdx_le ps i; omega)) ha.shape hb.shape g1 g2 g3 g4 g5 g6 hk 0 (fun W h => finish_g hr ho hi hbx W (ha.below h)) (fun W h => rfinish_g hr ho hbx W (hb.below h))).mono fun en w' h => stepOk_of (Both.any (ns := ns.set bj ((ns[bj]).1, (ns[bj]).2.1, o3)) (ps := ps.eraseIdx i) (last := last) (done := done) (em := em) (by rw [List.length_set]; omega) (by have := List.length_eraseIdx_le ps i; omega)) ha.shape hb.shape h
  ·rcases nxt_ok hr.1 hr.1.done with hcan | hcan
   ·refine (step_2 (Both.any (ns := ns) (ps := ps) (last := last) (done := done) (em := em) (by omega) (by omega)) ha.shape hb.shape g1 g2 g3 g4 g5 g6 hk 0 false 0 (fun W h => popNo_g hr hcan W (ha.below h)) (fun W h => ?_)).mono fun en w' h => stepOk_of (Both.any (ns := ns) (ps := ps) (last := last) (done := done) (em := em) (by omega) (by omega)) ha.shape hb.shape h
    obtain ⟨vn, vp, rfl, h1, h2⟩ := hb
    refine (rpop_no_g hr hcan W (h1.below h) (h2.below h)).mono ?_
    rintro en w' ⟨rfl, hbl⟩
    exact ⟨_, rfl, ⟨vn, vp, rfl, (h1.below h).below hbl, (h2.below h).below hbl⟩, hbl⟩
   ·refine (step_2 (Both.any (ns := ns) (ps := ps) (last := last) (done := nxtG ns done) (em := em) (by omega) (by omega)) ha.shape hb.shape g1 g2 g3 g4 g5 g6 hk (ngt ns (nxtG ns done).toNat).1 true 0 (fun W h => popYes_g hr hcan W (ha.below h)) (fun W h => ?_)).mono fun en w' h => stepOk_of (Both.any (ns := ns) (ps := ps) (last := last) (done := nxtG ns done) (em := em) (by omega) (by omega)) ha.shape hb.shape h
    obtain ⟨vn, vp, rfl, h1, h2⟩ := hb
    refine (rpop_yes_g hr hcan W (h1.below h) (h2.below h)).mono ?_
    rintro en w' ⟨rfl, hbl⟩
    exact ⟨_, rfl, ⟨vn, vp, rfl, (h1.below h).below hbl, (h2.below h).below hbl⟩, hbl⟩
  ·by_cases hv : v < 0
   ·refine (step_3 Both.err ha.shape hb.shape g1 g2 g3 g4 g5 g6 hk (n := 0) (l := []) (by omega) 1 (fun W h => (batch_neg_g hr hv W (ha.below h)).mono ?_) (fun W h => (rbatch_neg_g hr hv W (hb.below h)).mono ?_)).mono fun en w' h => stepOk_of Both.err ha.shape hb.shape h
    ·rintro en w' ⟨rfl, hbl⟩
     exact ⟨_, _, rfl, rfl, World.ownsRow_nil _ _ _ _, hbl⟩
    ·rintro en w' ⟨rfl, hbl⟩
     exact ⟨_, _, rfl, zv_stz _, World.ownsRow_nil _ _ _ _, hbl⟩
   ·obtain ⟨most, rfl⟩ : ∃ most : Nat, v = (most : Int) := ⟨v.toNat, by omega⟩
    have hgl := goD_len ns most done
    refine (step_3 (Both.any (ns := ns) (ps := ps) (last := last) (done := (goD ns most done).2) (em := em) (by omega) (by omega)) ha.shape hb.shape g1 g2 g3 g4 g5 g6 hk (n := (goD ns most done).1.length) (l := (goD ns most done).1) (by omega) 0 (fun W h => batch_g hr (by omega) rfl W (ha.below h)) (fun W h => rbatch_g hr (by omega) rfl W (hb.below h))).mono fun en w' h => stepOk_of (Both.any (ns := ns) (ps := ps) (last := last) (done := (goD ns most done).2) (em := em) (by omega) (by omega)) ha.shape hb.shape h
  ·refine (step_4 (Both.any (ns := ns) (ps := ps) (last := last) (done := done) (em := decide (done = last)) (by omega) (by omega)) ha.shape hb.shape g1 g2 g3 g4 g5 g6 hk (decide (done = last)) 0 (fun W h => mark_g hr W (ha.below h)) (fun W h => rmark_g hr W (hb.below h))).mono fun en w' h => stepOk_of (Both.any (ns := ns) (ps := ps) (last := last) (done := done) (em := decide (done = last)) (by omega) (by omega)) ha.shape hb.shape h
  ·obtain ⟨O, h1, h2, h3, h4, h5, h6, ho⟩ := order_facts hr
   have hR := rest_of hr h1 h2 h3 h4 h5 h6
   refine (step_5 ha.shape hb.shape g1 g2 g3 g4 g5 g6 hk (n := (waitL ns O done).length) (l := waitL ns O done) (by have := hR.few; omega) (fun W h => waiting_g hr hR W (ha.below h)) (fun W h => rwaiting_g hr h1 h2 h3 h5 ho W (hb.below h)) (fun W h => ?_) (fun W h => rcheck_g hr W (hb.below h))).mono ?_
   ·obtain ⟨vn, vp, rfl, h1, h2⟩ := ha
    exact check_g ns ps last done em 0 (fun _ => rfl) (fun h => absurd hr h) vn vp W (h1.below h).1 (h2.below h).1 (by omega) (by omega)
   ·rintro en w' ⟨rfl, h3⟩
    exact ⟨a, b, rfl, ha.shape, hb.shape, h3⟩
 ·have m1 : ns.length ≤ 100000 := by omega
  have m2 : ps.length ≤ 100000 := by omega
  have n1 : ns.length ≤ 2000 := by omega
  have n2 : ps.length ≤ 2000 := by omega
  rcases hc with rfl | rfl | rfl | rfl | rfl | rfl
  ·refine (step_0 Both.err ha.shape hb.shape g1 g2 g3 g4 g5 g6 hk false 14 (fun W h => (begin_r hr m1 m2 W (ha.below h)).mono ?_) (fun W h => rbegin_r hr n1 n2 W (hb.below h))).mono fun en w' h => stepOk_of Both.err ha.shape hb.shape h
   rintro en w' ⟨rfl, hbl⟩
   exact ⟨_, rfl, rfl, hbl⟩
  ·refine (step_1 Both.err ha.shape hb.shape g1 g2 g3 g4 g5 g6 hk 14 (fun W h => (finish_r hr m1 m2 W (ha.below h)).mono ?_) (fun W h => rfinish_r hr n1 n2 W (hb.below h))).mono fun en w' h => stepOk_of Both.err ha.shape hb.shape h
   rintro en w' ⟨rfl, hbl⟩
   exact ⟨_, rfl, rfl, hbl⟩
  ·refine (step_2 Both.err ha.shape hb.shape g1 g2 g3 g4 g5 g6 hk 0 false 14 (fun W h => (pop_r hr m1 m2 W (ha.below h)).mono ?_) (fun W h => (rpop_r hr n1 n2 W (hb.below h)).mono ?_)).mono fun en w' h => stepOk_of Both.err ha.shape hb.shape h
   ·rintro en w' ⟨rfl, hbl⟩
    exact ⟨_, rfl, rfl, hbl⟩
   ·rintro en w' ⟨rfl, hbl⟩
    exact ⟨_, rfl, zv_stz _, hbl⟩
  ·refine (step_3 Both.err ha.shape hb.shape g1 g2 g3 g4 g5 g6 hk (n := 0) (l := []) (by omega) 14 (fun W h => (batch_r hr m1 m2 W (ha.below h)).mono ?_) (fun W h => (rbatch_r hr n1 n2 W (hb.below h)).mono ?_)).mono fun en w' h => stepOk_of Both.err ha.shape hb.shape h
   ·rintro en w' ⟨rfl, hbl⟩
    exact ⟨_, _, rfl, rfl, World.ownsRow_nil _ _ _ _, hbl⟩
   ·rintro en w' ⟨rfl, hbl⟩
    exact ⟨_, _, rfl, zv_stz _, World.ownsRow_nil _ _ _ _, hbl⟩
  ·refine (step_4 Both.err ha.shape hb.shape g1 g2 g3 g4 g5 g6 hk false 14 (fun W h => (mark_r hr m1 m2 W (ha.below h)).mono ?_) (fun W h => (rmark_r hr n1 n2 W (hb.below h)).mono ?_)).mono fun en w' h => stepOk_of Both.err ha.shape hb.shape h
   ·rintro en w' ⟨rfl, hbl⟩
    exact ⟨_, rfl, rfl, hbl⟩
   ·rintro en w' ⟨rfl, hbl⟩
    exact ⟨_, rfl, zv_stz _, hbl⟩
  ·refine (step_5w ha.shape hb.shape g1 g2 g3 g4 g5 g6 hk (n := 0) (l := []) (by omega) (fun W h => waiting_r hr m1 m2 W (ha.below h)) (fun W h => rwaiting_r hr n1 n2 W (hb.below h)) (fun W h => ?_) (fun W h => rcheck_w hr n1 n2 W (hb.below h))).mono ?_
   ·obtain ⟨vn, vp, rfl, h1, h2⟩ := ha
    exact check_g ns ps last done em 14 (fun h => absurd h hr) (fun _ => rfl) vn vp W (h1.below h).1 (h2.below h).1 (by omega) (by omega)
   ·rintro en w' ⟨rfl, h3⟩
    exact ⟨a, b, rfl, ha.shape, hb.shape, h3⟩
end Go.Proofs.Ytgbafpjeapkklaa.Mb
namespace Go.Proofs.Ytgbafpjeapkklaa.Mb
open Go.RowKit Go.ChangeShapes
set_option linter.unusedVariables false
set_option linter.unusedSimpArgs false
theorem laidOut : laidOutB Try.prog = true := by kernel_rfl
end Go.Proofs.Ytgbafpjeapkklaa.Mb
namespace Go.Proofs.Ytgbafpjeapkklaa.Mb
open Go.RowKit Go.ChangeShapes
set_option linter.unusedVariables false
set_option linter.unusedSimpArgs false
theorem cells51 : Try.prog.cellsOf 51 = 3 := by kernel_rfl
end Go.Proofs.Ytgbafpjeapkklaa.Mb
