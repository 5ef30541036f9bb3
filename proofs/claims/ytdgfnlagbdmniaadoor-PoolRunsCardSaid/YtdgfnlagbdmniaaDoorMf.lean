/- PoolRuns: each operation on both sides, plainly; what stays of memory. -/
/- PoolRuns: do, the acts that free. -/
/- PoolRuns: do, the acts that take and that mark. -/
import Derived.Test.YtdgfnlagbdmniaaDoorNRm
import Derived.Test.YtdgfnlagbdmniaaDoorNQk
namespace Go.Proofs.YtdgfnlagbdmniaaDoor.Pl
open Go.RowKit Go.Proofs.YtdgfnlagbdmniaaDoor.PPoolRuns Go.Proofs.YtdgfnlagbdmniaaDoorW.PrintWords Go.Proofs.YtdgfnlagbdmniaaDoorW.PrintLast Go.Proofs.YtdgfnlagbdmniaaDoorW.PrintMore

/-- The reference's list. -/
def RL (w : World) (base : Nat) (v : Value) (l : List PObj) : Prop := k109.R 109 w base (fun _ => True) v (l.map toS)
theorem RL.own {w : World} {base : Nat} {v : Value} {l : List PObj} (h : RL w base v l) : k109.R 109 w base (fun k => some k = v.ownBlock) v (l.map toS) := by
  obtain ⟨_, inner, ho, hr⟩ := h
  exact ⟨fun k hk => hk.symm, inner, ho, hr.1, fun j p hp => by
    have := k109_openM (hr.2 j p hp)
    rw [this]; exact k109_mkM w base _ p⟩
theorem RL.of {w : World} {base : Nat} {ok : Nat → Prop} {v : Value} {l : List PObj} (h : k109.R 109 w base ok v (l.map toS)) : RL w base v l := Kd.R_mono h fun _ _ => trivial
theorem RL.step {w w' : World} {base : Nat} {v : Value} {l : List PObj} (h : RL w base v l) (hm : ∀ k, some k = v.ownBlock → w'.heap[k]? = w.heap[k]?) : RL w' base v l := RL.of (Kd.R_move h.own hm)
theorem RL.below {w w' : World} {base : Nat} {v : Value} {l : List PObj} (h : RL w base v l) (hb : Below w.heap.size w w') : RL w' base v l := Kd.R_below h hb
theorem RL.ne {w : World} {base : Nat} {v : Value} {l : List PObj} (h : RL w base v l) {g t : Nat} {C : Array Value} (hg : w.heap[g]? = some (.cells C t (0, 0))) (ht : t ≠ 109) : some g ≠ v.ownBlock := Kd.R_ne h hg (fun e => ht e.symm)
theorem RL.set {w : World} {base : Nat} {v : Value} {l : List PObj} (h : RL w base v l) {g t : Nat} {C : Array Value} (hg : w.heap[g]? = some (.cells C t (0, 0))) (ht : t ≠ 109) (j : Nat) (x : Value) : RL (w.setCell ⟨g, j, none⟩ x) base v l :=
  h.step fun k hk => Below.heap_setCell _ _ _ _ (fun e => by
    have e' : k = g := e
    subst e'; exact h.ne hg ht hk)
theorem RL.pool {w w' : World} {base a b : Nat} {cs : List Chunk} {v : Value} {l : List PObj} (h : RL w base v l) (hA : At w a b cs) (hg : w.grownBy w' (some b)) : RL w' base v l :=
  h.step fun k hk => by
    have h' := h
    obtain ⟨_, inner, ho, _⟩ := h'
    exact hg.block k (own_lt ho k hk.symm) (fun e => by cases e; exact h.ne hA.body (by decide) hk)
theorem RL.slice {w : World} {base : Nat} {v : Value} {l : List PObj} (h : RL w base v l) : ∃ A c, v = .slice A l.length c := by
  obtain ⟨A, c, e⟩ := Kd.R_slice h
  exact ⟨A, c, by rw [e, List.length_map]⟩

theorem filter_free {l m : List PObj} {o : PObj} {ad : Int} (h : Put m l o) (ha : Apart l) (hok : ∀ x ∈ l, OOk x) (hat : (o.at_ : Int) = ad) : l.filter (fun o => decide ((o.at_ : Int) ≠ ad)) = m := by
  obtain ⟨A, B, rfl, rfl⟩ := h
  unfold Apart at ha
  rw [List.pairwise_append] at ha
  obtain ⟨_, hb, hab⟩ := ha
  rw [List.pairwise_cons] at hb
  have ho := hok o (by simp)
  have e1 : A.filter (fun o => decide ((o.at_ : Int) ≠ ad)) = A := List.filter_eq_self.2 fun x hx => by
    have h1 := hab x hx o (by simp)
    have h2 := hok x (by simp [hx])
    have := h2.fit; have := h2.pos
    simp; omega
  have e2 : B.filter (fun o => decide ((o.at_ : Int) ≠ ad)) = B := List.filter_eq_self.2 fun x hx => by
    have h1 := hb.1 x hx
    have := ho.fit; have := ho.pos
    simp; omega
  rw [List.filter_append, List.filter_cons, e1, e2, hat]
  simp

/-- Free on the pool's side. -/
theorem pfree_at {cs : List Chunk} (hG : Good cs) {a b : Nat} {W : World} (hA : At W a b cs) (ad : Int) :
    Calls Tryd.prog 18 #[.pointer (some ⟨a, 0, none⟩), .int .i64 ad] W fun e W' => ∃ cs', e = .returned (.int .i64 (if ((objs cs).filter fun o => decide ((o.at_ : Int) ≠ ad)).length = (objs cs).length then 5 else 0)) ∧ At W' a b cs' ∧ Good cs' ∧ cs'.length = cs.length ∧
      objs cs' = ((objs cs).filter fun o => decide ((o.at_ : Int) ≠ ad)) ∧ W.grownBy W' (some b) := by
  refine (Free_at hA hG ad).mono ?_
  rintro e W' (⟨i, s, c, hp, hat, rfl, hA', hg⟩ | ⟨hno, rfl, hA', hg⟩)
  · obtain ⟨g, l, p⟩ := remove_put hG hp
    have e := filter_free p (good_apart hG) (fun x hx => (obj_in hG hx).1) hat
    refine ⟨_, ?_, hA', g, l, e.symm, hg⟩
    rw [e, if_neg (by have := p.length; omega)]
  · have e : ((objs cs).filter fun o => decide ((o.at_ : Int) ≠ ad)) = objs cs := List.filter_eq_self.2 fun x hx => by simpa using hno x hx
    exact ⟨cs, by rw [e, if_pos rfl], hA', hG, rfl, e.symm, hg⟩

theorem rfree_at {l : List PObj} (hl : l.length ≤ 100000) {w0 W : World} (hB : Below w0.heap.size w0 W) {A : Option Addr} {n cap : Nat} (hR : RL W w0.heap.size (.slice A n cap) l) (c ad : Int) :
    Calls Tryd.prog 39 #[.agg #[.int .i64 c, .slice A n cap], .int .i64 ad] W fun e W' => ∃ v, e = .returned (.tuple #[.agg #[.int .i64 c, v], .int .i64 (if (l.filter fun o => decide ((o.at_ : Int) ≠ ad)).length = l.length then 5 else 0)]) ∧
      RL W' w0.heap.size v (l.filter fun o => decide ((o.at_ : Int) ≠ ad)) ∧ Below w0.heap.size w0 W' ∧ Kept W W' (fun k => some k = (Value.slice A n cap).ownBlock) := by
  obtain ⟨k, h⟩ := free_f c l hl ad
  exact (hackamoreref32_Free.calls k c _ _ _ ad _ _ _ w0 W hB hR.own h).mono fun _ _ h => by
    obtain ⟨v, h1, h2, h3, h4⟩ := h
    exact ⟨v, h1, RL.of h2, h3, h4⟩

theorem lies_uniq {l : List PObj} (ha : Apart l) (hok : ∀ x ∈ l, OOk x) {i j : Nat} {o p : PObj} (hi : l[i]? = some o) (hj : l[j]? = some p) {ad : Int} (h1 : lies ad o) (h2 : lies ad p) : i = j ∧ o = p := by
  have f1 := (hok o (List.mem_of_getElem? hi)).fit
  have f2 := (hok p (List.mem_of_getElem? hj)).fit
  obtain ⟨a1, a2⟩ := h1
  obtain ⟨b1, b2⟩ := h2
  obtain ⟨x1, x2⟩ := List.getElem?_eq_some_iff.1 hi
  obtain ⟨y1, y2⟩ := List.getElem?_eq_some_iff.1 hj
  have hp := List.pairwise_iff_getElem.1 ha
  have e : i = j := by
    rcases Nat.lt_trichotomy i j with h | h | h
    · have := hp i j x1 y1 h
      rw [x2, y2] at this; omega
    · exact h
    · have := hp j i y1 x1 h
      rw [x2, y2] at this; omega
  subst e
  rw [hi] at hj; cases hj
  exact ⟨rfl, rfl⟩

/-- Mark on the pool's side. -/
theorem pmark_at {cs : List Chunk} (hG : Good cs) {a b : Nat} {W : World} (hA : At W a b cs) (ad : Int) :
    Calls Tryd.prog 23 #[.pointer (some ⟨a, 0, none⟩), .int .i64 ad] W fun e W' => ∃ cs', At W' a b cs' ∧ Good cs' ∧ cs'.length = cs.length ∧ W.grownBy W' (some b) ∧
      ((∃ (i : Nat) (o : PObj), (objs cs)[i]? = some o ∧ lies ad o ∧ e = .returned (.tuple #[.bool (!o.marked), .int .i64 0]) ∧ objs cs' = (objs cs).set i { o with marked := true }) ∨ ((∀ o ∈ objs cs, ¬ lies ad o) ∧ e = .returned (.tuple #[.bool false, .int .i64 5]) ∧ objs cs' = objs cs)) := by
  refine (Mark_at hA hG ad).mono ?_
  rintro e W' (⟨i, s, c, hp, h1, h2, rfl, hA', hg⟩ | ⟨hno, rfl, hA', hg⟩)
  · obtain ⟨g, l, A, B, e1, e2⟩ := mark_put hG hp true
    refine ⟨_, hA', g, l, hg, .inl ⟨A.length, objOf c i s, by rw [e1]; simp, ⟨h1, h2⟩, rfl, ?_⟩⟩
    rw [e2, e1]; simp
  · exact ⟨cs, hA', hG, rfl, hg, .inr ⟨hno, rfl, rfl⟩⟩

theorem rmark_at {cs : List Chunk} (hG : Good cs) (hN : cs.length ≤ 256) {w0 W : World} (hB : Below w0.heap.size w0 W) {A : Option Addr} {n cap : Nat} (hR : RL W w0.heap.size (.slice A n cap) (objs cs)) (c ad : Int) :
    Calls Tryd.prog 40 #[.agg #[.int .i64 c, .slice A n cap], .int .i64 ad] W fun e W' => ∃ v l', RL W' w0.heap.size v l' ∧ Below w0.heap.size w0 W' ∧ Kept W W' (fun k => some k = (Value.slice A n cap).ownBlock) ∧
      ((∃ (i : Nat) (o : PObj), (objs cs)[i]? = some o ∧ lies ad o ∧ e = .returned (.tuple #[.agg #[.int .i64 c, v], .bool (!o.marked), .int .i64 0]) ∧ l' = (objs cs).set i { o with marked := true }) ∨ ((∀ o ∈ objs cs, ¬ lies ad o) ∧ e = .returned (.tuple #[.agg #[.int .i64 c, v], .bool false, .int .i64 5]) ∧ l' = objs cs)) := by
  obtain ⟨k, r, h, hr⟩ := mark_f c (objs cs) (good_fit hG hN) (good_apart hG) ad
  rcases hr with ⟨i, o, hi, hl, rfl⟩ | ⟨hno, rfl⟩
  · exact (hackamoreref32_Mark.calls k c _ _ _ ad _ _ _ _ w0 W hB hR.own h).mono fun _ _ h => by
      obtain ⟨v, h1, h2, h3, h4⟩ := h
      exact ⟨v, _, RL.of h2, h3, h4, .inl ⟨i, o, hi, hl, h1, rfl⟩⟩
  · exact (hackamoreref32_Mark.calls k c _ _ _ ad _ _ _ _ w0 W hB hR.own h).mono fun _ _ h => by
      obtain ⟨v, h1, h2, h3, h4⟩ := h
      exact ⟨v, _, RL.of h2, h3, h4, .inr ⟨hno, h1, rfl⟩⟩

theorem rfind_at {cs : List Chunk} (hG : Good cs) (hN : cs.length ≤ 256) {W : World} {base : Nat} {A : Option Addr} {n cap : Nat} (hR : RL W base (.slice A n cap) (objs cs)) (c ad : Int) :
    Calls Tryd.prog 41 #[.agg #[.int .i64 c, .slice A n cap], .int .i64 ad] W fun e W' => Below W.heap.size W W' ∧
      ((∃ (i : Nat) (o : PObj), (objs cs)[i]? = some o ∧ lies ad o ∧ e = .returned (.tuple #[.int .i64 i, .int .i64 0])) ∨ ((∀ o ∈ objs cs, ¬ lies ad o) ∧ e = .returned (.tuple #[.int .i64 0, .int .i64 5]))) := by
  obtain ⟨hl, hc, hC⟩ := Kd.R_reads' hR
  obtain ⟨k, r, h, hr⟩ := find_f c (objs cs) (good_fit hG hN) (good_apart hG) ad
  subst hl
  rcases hr with ⟨i, o, hi, hl, rfl⟩ | ⟨hno, rfl⟩
  · exact (hackamoreref32_Find.calls k c A cap _ ad _ _ W hC hc h).mono fun _ _ h => ⟨h.2, .inl ⟨i, o, hi, hl, h.1⟩⟩
  · exact (hackamoreref32_Find.calls k c A cap _ ad _ _ W hC hc h).mono fun _ _ h => ⟨h.2, .inr ⟨hno, h.1⟩⟩

/-- Alloc on the pool's side. -/
def PAlloc (cs : List Chunk) (size : Int) (a b : Nat) (W : World) (e : Ending) (W' : World) : Prop :=
  W.grownBy W' (some b) ∧ ∃ cs', At W' a b cs' ∧ Good cs' ∧ cs'.length = cs.length ∧
    (((size < 1 ∨ 262144 < size) ∧ e = .returned (.tuple #[.int .i64 0, .int .i64 1]) ∧ cs' = cs) ∨
     (1 ≤ size ∧ size ≤ 262144 ∧ allocC cs size = none ∧ e = .returned (.tuple #[.int .i64 0, .int .i64 8]) ∧ cs' = cs) ∨
     (∃ x, 1 ≤ size ∧ size ≤ 262144 ∧ allocC cs size = some (cs', x) ∧ e = .returned (.tuple #[.int .i64 (x : Nat), .int .i64 0])))
theorem palloc_at {cs : List Chunk} (hG : Good cs) {a b : Nat} {W : World} (hA : At W a b cs) (hT : Tab W) (hb : 0 < b) (size : Int) :
    Calls Tryd.prog 11 #[.pointer (some ⟨a, 0, none⟩), .int .i64 size] W (PAlloc cs size a b W) := by
  refine (alloc_at hA hG.wf hT hb size).mono ?_
  intro e W' h
  by_cases hs : size < 1 ∨ 262144 < size
  · unfold AllocPost at h
    rw [if_pos hs] at h
    obtain ⟨rfl, rfl⟩ := h
    exact ⟨fr_refl _ _, cs, hA, hG, rfl, .inl ⟨hs, rfl, rfl⟩⟩
  · have h := alloc_fn (by omega) (by omega) h
    cases hal : allocC cs size with
    | none =>
      rw [hal] at h
      obtain ⟨rfl, r, rfl⟩ := h
      exact ⟨fr_of_below (below_drewN (Below.refl _ _) r) (Nat.le_refl _) _, cs, hA.drewN r, hG, rfl, .inr (.inl ⟨by omega, by omega, hal, rfl, rfl⟩)⟩
    | some q =>
      obtain ⟨cs', x⟩ := q
      rw [hal] at h
      obtain ⟨rfl, hA', hg⟩ := h
      obtain ⟨g, l, _⟩ := allocC_put hG (by omega) (by omega) hal
      exact ⟨hg, cs', hA', g, l, .inr (.inr ⟨x, by omega, by omega, hal, rfl⟩)⟩

theorem ins_is {cs cs' : List Chunk} (hG : Good cs) {size : Int} (h1 : 1 ≤ size) (h2 : size ≤ 262144) {x : Nat} (hal : allocC cs size = some (cs', x)) {m : List PObj} (hi : Ins (objs cs) m ⟨x, size, roomOf size, false⟩) : m = objs cs' := by
  obtain ⟨g, l, p⟩ := allocC_put hG h1 h2 hal
  refine hi.put p ?_
  have ha := good_apart g
  unfold Apart at ha
  refine List.Pairwise.imp_of_mem ?_ ha
  intro u v hu hv h
  have := (obj_in g hu).1.fit
  have := (obj_in g hu).1.pos
  omega

/-- Behind a part of do: what stays. -/
structure DO (w0 w : World) (b : Nat) (v : Value) (N : Nat) (k x : Int) (g4 g5 g6 : Nat) (W : World) : Prop where
  below : Below w0.heap.size w0 W
  kept : Kept w W (fun i => i = b ∨ some i = v.ownBlock)
  b4 : W.heap[g4]? = some (.cells #[.int .i64 N, v] 57 (0, 0))
  b5 : W.heap[g5]? = some (.cells #[.int .u8 k, .int .i64 x] 61 (0, 0))
  b6 : W.heap[g6]? = some (.cells #[.int .i64 0, .slice none 0 0] 57 (0, 0))
theorem DO.step {w0 w : World} {b : Nat} {v : Value} {N : Nat} {k x : Int} {g4 g5 g6 : Nat} {W W' : World} (h : DO w0 w b v N k x g4 g5 g6 W) (hb : Below W.heap.size W W') : DO w0 w b v N k x g4 g5 g6 W' :=
  ⟨h.below.trans (hb.mono h.below.size), h.kept.below hb, (hb.block _ (blk_lt h.b4)).trans h.b4, (hb.block _ (blk_lt h.b5)).trans h.b5, (hb.block _ (blk_lt h.b6)).trans h.b6⟩
theorem DO.pool {w0 w : World} {a b : Nat} {v : Value} {N : Nat} {k x : Int} {g4 g5 g6 : Nat} {W W' : World} (h : DO w0 w b v N k x g4 g5 g6 W) (hb : w0.heap.size ≤ b) {cs : List Chunk} (hA : At W a b cs) (hg : W.grownBy W' (some b)) : DO w0 w b v N k x g4 g5 g6 W' := by
  have ne : ∀ {g t : Nat} {C : Array Value}, W.heap[g]? = some (.cells C t (0, 0)) → t ≠ 73 → W'.heap[g]? = some (.cells C t (0, 0)) := by
    intro g t C hg' ht
    rw [hg.block g (blk_lt hg') (fun e => by
      cases e
      have := hA.body
      rw [hg'] at this
      injection this with this
      injection this with _ this
      exact ht this)]
    exact hg'
  exact ⟨fr_below hg hb h.below.size |> h.below.trans, h.kept.of_grown hg (fun i e => .inl (.inl (by cases e; rfl))), ne h.b4 (by decide), ne h.b5 (by decide), ne h.b6 (by decide)⟩
theorem DO.ref {w0 w : World} {b : Nat} {v : Value} {N : Nat} {k x : Int} {g4 g5 g6 : Nat} {W W' : World} (h : DO w0 w b v N k x g4 g5 g6 W) {l : List PObj} (hR : RL W w0.heap.size v l) (hB : Below w0.heap.size w0 W') (hk : Kept W W' (fun i => some i = v.ownBlock)) : DO w0 w b v N k x g4 g5 g6 W' := by
  have ne : ∀ {g t : Nat} {C : Array Value}, W.heap[g]? = some (.cells C t (0, 0)) → t ≠ 109 → W'.heap[g]? = some (.cells C t (0, 0)) := by
    intro g t C hg' ht
    exact blk_kept hg' hk (hR.ne hg' ht)
  exact ⟨hB, h.kept.then_ hk (fun i hi => .inl (.inr hi)), ne h.b4 (by decide), ne h.b5 (by decide), ne h.b6 (by decide)⟩
end Go.Proofs.YtdgfnlagbdmniaaDoor.Pl
namespace Go.Proofs.YtdgfnlagbdmniaaDoor.Pl
open Go.RowKit Go.Proofs.YtdgfnlagbdmniaaDoor.PPoolRuns Go.Proofs.YtdgfnlagbdmniaaDoorW.PrintWords Go.Proofs.YtdgfnlagbdmniaaDoorW.PrintLast Go.Proofs.YtdgfnlagbdmniaaDoorW.PrintMore

def DoPost (w0 w : World) (a b : Nat) (v : Value) (N : Nat) (e : Ending) (w' : World) : Prop :=
  ∃ v' cs', e = .returned (.tuple #[.agg #[.int .i64 N, v'], .bool true]) ∧ At w' a b cs' ∧ Good cs' ∧ cs'.length = N ∧ RL w' w0.heap.size v' (objs cs') ∧ Below w0.heap.size w0 w' ∧ Kept w w' (fun i => i = b ∨ some i = v.ownBlock)

theorem At.set {W : World} {a b : Nat} {cs : List Chunk} (h : At W a b cs) {g t : Nat} {C : Array Value} (hg : W.heap[g]? = some (.cells C t (0, 0))) (h1 : t ≠ 68) (h2 : t ≠ 73) (j : Nat) (x : Value) : At (W.setCell ⟨g, j, none⟩ x) a b cs := by
  have ha : a ≠ g := by
    rintro rfl
    have := h.head
    rw [hg] at this; injection this with this; injection this with _ this; exact h1 this
  have hb : b ≠ g := by
    rintro rfl
    have := h.body
    rw [hg] at this; injection this with this; injection this with _ this; exact h2 this
  exact h.same (Below.heap_setCell _ _ _ _ ha) (Below.heap_setCell _ _ _ _ hb)

theorem do_end {w0 w W : World} {a b : Nat} {v v' : Value} {N : Nat} {k x : Int} {g4 g5 g6 : Nat} {cs' : List Chunk} (h : DO w0 w b v N k x g4 g5 g6 W) (h6 : w.heap.size ≤ g6) (h0 : w0.heap.size ≤ w.heap.size)
    (hA : At W a b cs') (hG : Good cs') (hl : cs'.length = N) (hR : RL W w0.heap.size v' (objs cs')) (p q : Value) :
    DoPost w0 w a b v N (.returned (.tuple #[.agg #[.int .i64 N, v'], .bool true])) ((W.setCell ⟨g6, 0, none⟩ p).setCell ⟨g6, 1, none⟩ q) := by
  have h6' := blk_set h.b6 0 p
  refine ⟨v', cs', rfl, (hA.set h.b6 (by decide) (by decide) 0 p).set h6' (by decide) (by decide) 1 q, hG, hl, (hR.set h.b6 (by decide) 0 p).set h6' (by decide) 1 q, ?_, ?_⟩
  · exact (h.below.setCell (Nat.le_trans h0 h6) _).setCell (Nat.le_trans h0 h6) _
  · exact (h.kept.setCell (.inr h6) _).setCell (.inr h6) _

theorem do_start {w0 w : World} (hB : Below w0.heap.size w0 w) (b : Nat) (v : Value) (N : Nat) (k x : Int) :
    DO w0 w b v N k x w.heap.size (w.heap.size + 1) (w.heap.size + 1 + 1) (((w.alloc (Obj.cells #[.int .i64 N, v] 57)).alloc (Obj.cells #[.int .u8 k, .int .i64 x] 61)).alloc (Obj.cells #[.int .i64 0, .slice none 0 0] 57)) := by
  refine ⟨((hB.alloc hB.size _).alloc (by have := hB.size; simp; omega) _).alloc (by have := hB.size; simp; omega) _, (((Kept.refl w _).alloc _).alloc _).alloc _, ?_, ?_, ?_⟩
  · rw [Below.heap_alloc _ _ _ (by simp; omega), Below.heap_alloc _ _ _ (by simp)]; exact (MapKept.heap_alloc _ _).1
  · rw [Below.heap_alloc _ _ _ (by simp)]; simpa using (MapKept.heap_alloc (w.alloc (Obj.cells #[.int .i64 N, v] 57)) (Obj.cells #[.int .u8 k, .int .i64 x] 61)).1
  · simpa using (MapKept.heap_alloc ((w.alloc (Obj.cells #[.int .i64 N, v] 57)).alloc (Obj.cells #[.int .u8 k, .int .i64 x] 61)) (Obj.cells #[.int .i64 0, .slice none 0 0] 57)).1

theorem DO.facts {w0 w : World} {b : Nat} {v : Value} {N : Nat} {k x : Int} {g4 g5 g6 : Nat} {W : World} (h : DO w0 w b v N k x g4 g5 g6 W) :
    W.cell? ⟨g4, 0, none⟩ = some (.int .i64 N) ∧ W.cell? ⟨g4, 1, none⟩ = some v ∧ W.cell? ⟨g5, 0, none⟩ = some (.int .u8 k) ∧ W.cell? ⟨g5, 1, none⟩ = some (.int .i64 x) ∧
    W.cell? ⟨g6, 0, none⟩ = some (.int .i64 0) ∧ W.cell? ⟨g6, 1, none⟩ = some (.slice none 0 0) ∧ W.frozen? ⟨g6, 0, none⟩ = false ∧ W.frozen? ⟨g6, 1, none⟩ = false :=
  ⟨cell_blk h.b4 0, cell_blk h.b4 1, cell_blk h.b5 0, cell_blk h.b5 1, cell_blk h.b6 0, cell_blk h.b6 1, frozen_blk h.b6 0, frozen_blk h.b6 1⟩

theorem At.kept2 {W W' : World} {a b : Nat} {cs : List Chunk} (h : At W a b cs) {base : Nat} {v : Value} {l : List PObj} (hR : RL W base v l) (hk : Kept W W' (fun k => some k = v.ownBlock)) : At W' a b cs :=
  h.same (hk.2 a h.lt_a (hR.ne h.head (by decide))) (hk.2 b h.lt_b (hR.ne h.body (by decide)))

set_option maxRecDepth 100000 in
set_option maxHeartbeats 4000000 in
theorem do_free {cs : List Chunk} (hG : Good cs) (hN : cs.length ≤ 256) {w0 w : World} (hB : Below w0.heap.size w0 w) {a b : Nat} (hA : At w a b cs) (hb : w0.heap.size ≤ b) {A : Option Addr} {n cap : Nat} (hR : RL w w0.heap.size (.slice A n cap) (objs cs)) (k x : Int) (hk : k.tmod 5 = 1) :
    Calls Tryd.prog 26 #[.pointer (some ⟨a, 0, none⟩), .agg #[.int .i64 cs.length, .slice A n cap], .agg #[.int .u8 k, .int .i64 x]] w (DoPost w0 w a b (.slice A n cap) cs.length) := by
  have HG := Lib.hid hG
  have HLN := Lib.hid hN
  have HB0 := Lib.hid hB.size
  have HBB := Lib.hid hb
  obtain ⟨N, hNN⟩ : ∃ N, N = cs.length := ⟨_, rfl⟩
  rw [← hNN]
  have HN := Lib.hid hNN; clear hNN hN hG
  obtain ⟨g4, hg4⟩ : ∃ g4, g4 = w.heap.size := ⟨_, rfl⟩
  obtain ⟨g5, hg5⟩ : ∃ g5, g5 = g4 + 1 := ⟨_, rfl⟩
  obtain ⟨g6, hg6⟩ : ∃ g6, g6 = g5 + 1 := ⟨_, rfl⟩
  have H6 : Hid (w.heap.size ≤ g6) := by show _ ≤ _; omega
  have HS := do_start hB b (.slice A n cap) N k x
  have hb3 : Below w.heap.size w (((w.alloc (Obj.cells #[.int .i64 N, .slice A n cap] 57)).alloc (Obj.cells #[.int .u8 k, .int .i64 x] 61)).alloc (Obj.cells #[.int .i64 0, .slice none 0 0] 57)) :=
    (((Below.refl _ _).alloc (Nat.le_refl _) _).alloc (by simp) _).alloc (by simp; omega) _
  have HA0 := Lib.hid (hA.below hb3 hA.lt_a hA.lt_b)
  have HR0 := Lib.hid (hR.below hb3)
  clear hb3 hA hR hB hb
  rw [← hg4, ← hg5, ← hg6] at HS
  have HS0 := Lib.hid HS; clear HS
  go_enter Tryd.func26, Tryd.ntmps26
  go_upto_region 1 with fail
  rw [← hg4, ← hg5, ← hg6]
  clear hg4 hg5 hg6
  generalize (((w.alloc (Obj.cells #[.int .i64 N, .slice A n cap] 57)).alloc (Obj.cells #[.int .u8 k, .int .i64 x] 61)).alloc (Obj.cells #[.int .i64 0, .slice none 0 0] 57)) = W0 at *
  obtain ⟨c0, c1, c2, c3, c4, c5, f4, f5⟩ := HS0.out.facts
  go_wp2_with fail
  refine (pfree_at HG.out HA0.out x).mono ?_
  rintro e W1 ⟨cs', rfl, hA1, hG1, hl1, ho1, hg1⟩
  have HS1 := Lib.hid (HS0.out.pool HBB.out HA0.out hg1)
  have HR1 := Lib.hid (HR0.out.pool HA0.out hg1)
  have HA1 := Lib.hid hA1; clear hA1
  have HG1 := Lib.hid hG1; clear hG1
  have HO1 := Lib.hid ho1; clear ho1
  have HL1 : Hid (cs'.length = N) := by show _ = _; rw [hl1, HN.out]
  have HRF := Lib.hid (rfree_at (good_fit HG.out HLN.out).1 HS1.out.below HR1.out (N : Int) x)
  clear hg1 hl1 c0 c1 c2 c3 c4 c5 f4 f5
  obtain ⟨c0, c1, c2, c3, c4, c5, f4, f5⟩ := HS1.out.facts
  generalize (if ((objs cs).filter fun o => decide ((o.at_ : Int) ≠ x)).length = (objs cs).length then (5 : Int) else 0) = err at *
  go_wp2_with fail
  refine HRF.out.mono ?_
  rintro e W2 ⟨v, rfl, hR2, hB2, hk2⟩
  obtain ⟨Av, lv, cv, rfl⟩ : ∃ Av lv cv, v = .slice Av lv cv := by
    obtain ⟨Av, cv, h⟩ := hR2.slice
    exact ⟨_, _, _, h⟩
  have HS2 := Lib.hid (HS1.out.ref HR1.out hB2 hk2)
  have HA2 := Lib.hid (HA1.out.kept2 HR1.out hk2)
  rw [← HO1.out] at hR2
  have HR2 := Lib.hid hR2; clear hR2
  clear hB2 hk2 c0 c1 c2 c3 c4 c5 f4 f5
  go_upto_region 9 with fail
  obtain ⟨X, hX⟩ : ∃ X, X = W2.heap.size := ⟨_, rfl⟩
  obtain ⟨W3, hW3⟩ : ∃ W3, W3 = W2.alloc (Obj.cells #[.int .i64 N, .slice Av lv cv] 57) := ⟨_, rfl⟩
  rw [← hW3, ← hX]
  have hb3 : Below W2.heap.size W2 W3 := by rw [hW3]; exact (Below.refl _ _).alloc (Nat.le_refl _) _
  have HS3 := Lib.hid (HS2.out.step hb3)
  have HA3 := Lib.hid (HA2.out.below hb3 HA2.out.lt_a HA2.out.lt_b)
  have HR3 := Lib.hid (HR2.out.below hb3)
  have hx : W3.heap[X]? = some (.cells #[.int .i64 N, .slice Av lv cv] 57 (0, 0)) := by rw [hW3, hX]; exact (MapKept.heap_alloc _ _).1
  have x0 : W3.cell? ⟨X, 0, none⟩ = some (.int .i64 N) := cell_blk hx 0
  have x1 : W3.cell? ⟨X, 1, none⟩ = some (.slice Av lv cv) := cell_blk hx 1
  obtain ⟨c0, c1, c2, c3, c4, c5, f4, f5⟩ := HS3.out.facts
  clear hb3 hx hW3 hX
  have v0 : ((W3.setCell ⟨g6, 0, none⟩ (.int .i64 N)).setCell ⟨g6, 1, none⟩ (.slice Av lv cv)).cell? ⟨g6, 0, none⟩ = some (.int .i64 N) := by
    rw [cell_blk (blk_set (blk_set HS3.out.b6 0 _) 1 _)]; rfl
  have v1 : ((W3.setCell ⟨g6, 0, none⟩ (.int .i64 N)).setCell ⟨g6, 1, none⟩ (.slice Av lv cv)).cell? ⟨g6, 1, none⟩ = some (.slice Av lv cv) := by
    rw [cell_blk (blk_set (blk_set HS3.out.b6 0 _) 1 _)]; rfl
  go_wp2_with fail
  exact bodyPost_ret (v := .tuple #[.agg #[.int .i64 N, .slice Av lv cv], .bool true]) (by simp [results, Tryd.results26, go_sem, v0, v1]) rfl
    (do_end HS3.out H6.out HB0.out HA3.out HG1.out HL1.out HR3.out _ _)
end Go.Proofs.YtdgfnlagbdmniaaDoor.Pl
namespace Go.Proofs.YtdgfnlagbdmniaaDoor.Pl
open Go.RowKit Go.Proofs.YtdgfnlagbdmniaaDoor.PPoolRuns Go.Proofs.YtdgfnlagbdmniaaDoorW.PrintWords Go.Proofs.YtdgfnlagbdmniaaDoorW.PrintLast Go.Proofs.YtdgfnlagbdmniaaDoorW.PrintMore

theorem both_alloc {cs : List Chunk} (hG : Good cs) (hN : cs.length ≤ 256) {a b : Nat} {W W1 : World} {e : Ending} {size : Int} (h : PAlloc cs size a b W e W1) :
    ∃ X E cs', e = .returned (.tuple #[.int .i64 X, .int .i64 E]) ∧ At W1 a b cs' ∧ Good cs' ∧ cs'.length = cs.length ∧ W.grownBy W1 (some b) ∧
      ∀ {base : Nat} {A : Option Addr} {n cap : Nat}, base ≤ W1.heap.size → RL W1 base (.slice A n cap) (objs cs) → Calls Tryd.prog 38 #[.agg #[.int .i64 cs.length, .slice A n cap], .int .i64 size] W1 fun e W' => ∃ v, e = .returned (.tuple #[.agg #[.int .i64 cs.length, v], .int .i64 X, .int .i64 E]) ∧ RL W' base v (objs cs') ∧ Below W1.heap.size W1 W' := by
  obtain ⟨hg, cs', hA, hG', hl, hc⟩ := h
  rcases hc with ⟨hs, rfl, rfl⟩ | ⟨h1, h2, hal, rfl, rfl⟩ | ⟨x, h1, h2, hal, rfl⟩
  · exact ⟨0, 1, _, rfl, hA, hG', hl, hg, fun hb hR => (ralloc_err _ _ _ _ size hs W1).mono fun _ _ h => ⟨_, h.1, hR.below h.2, h.2⟩⟩
  · refine ⟨0, 8, _, rfl, hA, hG', hl, hg, fun hb hR => (ralloc_at hG hN _ hR size h1 h2).mono fun _ _ h => ?_⟩
    obtain ⟨hb', h⟩ := h
    rw [hal] at h
    exact ⟨_, h, hR.below hb', hb'⟩
  · refine ⟨_, 0, _, rfl, hA, hG', hl, hg, fun hb hR => (ralloc_at hG hN _ hR size h1 h2).mono fun _ _ h => ?_⟩
    obtain ⟨hb', h⟩ := h
    rw [hal] at h
    obtain ⟨u, m, rfl, hr, hi⟩ := h
    have e := ins_is hG h1 h2 hal hi
    subst e
    exact ⟨u, rfl, RL.of (Kd.R_lower hr hb), hb'⟩

theorem both_mark {cs : List Chunk} (hG : Good cs) (hN : cs.length ≤ 256) {a b : Nat} {W : World} (hA : At W a b cs) (ad : Int) :
    Calls Tryd.prog 23 #[.pointer (some ⟨a, 0, none⟩), .int .i64 ad] W fun e W1 => ∃ F E cs', e = .returned (.tuple #[.bool F, .int .i64 E]) ∧ At W1 a b cs' ∧ Good cs' ∧ cs'.length = cs.length ∧ W.grownBy W1 (some b) ∧
      ∀ {w0 : World} {A : Option Addr} {n cap : Nat} (c : Int), Below w0.heap.size w0 W1 → RL W1 w0.heap.size (.slice A n cap) (objs cs) → Calls Tryd.prog 40 #[.agg #[.int .i64 c, .slice A n cap], .int .i64 ad] W1 fun e W' => ∃ v, e = .returned (.tuple #[.agg #[.int .i64 c, v], .bool F, .int .i64 E]) ∧ RL W' w0.heap.size v (objs cs') ∧ Below w0.heap.size w0 W' ∧ Kept W1 W' (fun k => some k = (Value.slice A n cap).ownBlock) := by
  have hap := good_apart hG
  have hok : ∀ x ∈ objs cs, OOk x := fun x hx => (obj_in hG hx).1
  refine (pmark_at hG hA ad).mono ?_
  rintro e W1 ⟨cs', hA1, hG1, hl1, hg1, hc⟩
  rcases hc with ⟨i, o, hi, hlo, rfl, he⟩ | ⟨hno, rfl, he⟩
  · refine ⟨_, _, cs', rfl, hA1, hG1, hl1, hg1, fun c hB hR => (rmark_at hG hN hB hR c ad).mono fun _ _ h => ?_⟩
    obtain ⟨v, l', hr, hb, hk, hc⟩ := h
    rcases hc with ⟨j, p, hj, hlp, rfl, rfl⟩ | ⟨hno, _⟩
    · obtain ⟨rfl, rfl⟩ := lies_uniq hap hok hi hj hlo hlp
      exact ⟨v, rfl, by rw [he]; exact hr, hb, hk⟩
    · exact absurd hlo (hno o (List.mem_of_getElem? hi))
  · refine ⟨_, _, cs', rfl, hA1, hG1, hl1, hg1, fun c hB hR => (rmark_at hG hN hB hR c ad).mono fun _ _ h => ?_⟩
    obtain ⟨v, l', hr, hb, hk, hc⟩ := h
    rcases hc with ⟨j, p, hj, hlp, _⟩ | ⟨_, rfl, rfl⟩
    · exact absurd hlp (hno p (List.mem_of_getElem? hj))
    · exact ⟨v, rfl, by rw [he]; exact hr, hb, hk⟩

set_option maxRecDepth 100000 in
set_option maxHeartbeats 4000000 in
theorem do_mark {cs : List Chunk} (hG : Good cs) (hN : cs.length ≤ 256) {w0 w : World} (hB : Below w0.heap.size w0 w) {a b : Nat} (hA : At w a b cs) (hb : w0.heap.size ≤ b) {A : Option Addr} {n cap : Nat} (hR : RL w w0.heap.size (.slice A n cap) (objs cs)) (k x : Int) (hk : k.tmod 5 = 2) :
    Calls Tryd.prog 26 #[.pointer (some ⟨a, 0, none⟩), .agg #[.int .i64 cs.length, .slice A n cap], .agg #[.int .u8 k, .int .i64 x]] w (DoPost w0 w a b (.slice A n cap) cs.length) := by
  have HG := Lib.hid hG
  have HLN := Lib.hid hN
  have HB0 := Lib.hid hB.size
  have HBB := Lib.hid hb
  obtain ⟨N, hNN⟩ : ∃ N, N = cs.length := ⟨_, rfl⟩
  rw [← hNN]
  have HN := Lib.hid hNN; clear hNN hN hG
  obtain ⟨g4, hg4⟩ : ∃ g4, g4 = w.heap.size := ⟨_, rfl⟩
  obtain ⟨g5, hg5⟩ : ∃ g5, g5 = g4 + 1 := ⟨_, rfl⟩
  obtain ⟨g6, hg6⟩ : ∃ g6, g6 = g5 + 1 := ⟨_, rfl⟩
  have H6 : Hid (w.heap.size ≤ g6) := by show _ ≤ _; omega
  have HS := do_start hB b (.slice A n cap) N k x
  have hb3 : Below w.heap.size w (((w.alloc (Obj.cells #[.int .i64 N, .slice A n cap] 57)).alloc (Obj.cells #[.int .u8 k, .int .i64 x] 61)).alloc (Obj.cells #[.int .i64 0, .slice none 0 0] 57)) :=
    (((Below.refl _ _).alloc (Nat.le_refl _) _).alloc (by simp) _).alloc (by simp; omega) _
  have HA0 := Lib.hid (hA.below hb3 hA.lt_a hA.lt_b)
  have HR0 := Lib.hid (hR.below hb3)
  clear hb3 hA hR hB hb
  rw [← hg4, ← hg5, ← hg6] at HS
  have HS0 := Lib.hid HS; clear HS
  go_enter Tryd.func26, Tryd.ntmps26
  go_upto_region 1 with fail
  rw [← hg4, ← hg5, ← hg6]
  clear hg4 hg5 hg6
  generalize (((w.alloc (Obj.cells #[.int .i64 N, .slice A n cap] 57)).alloc (Obj.cells #[.int .u8 k, .int .i64 x] 61)).alloc (Obj.cells #[.int .i64 0, .slice none 0 0] 57)) = W0 at *
  obtain ⟨c0, c1, c2, c3, c4, c5, f4, f5⟩ := HS0.out.facts
  go_wp2_with fail
  refine (both_mark HG.out HLN.out HA0.out x).mono ?_
  rintro e W1 ⟨F, E, cs', rfl, hA1, hG1, hl1, hg1, hrf⟩
  have HS1 := Lib.hid (HS0.out.pool HBB.out HA0.out hg1)
  have HR1 := Lib.hid (HR0.out.pool HA0.out hg1)
  have HA1 := Lib.hid hA1; clear hA1
  have HG1 := Lib.hid hG1; clear hG1
  have HL1 : Hid (cs'.length = N) := by show _ = _; rw [hl1, HN.out]
  have HRF := Lib.hid (hrf (N : Int) HS1.out.below HR1.out)
  clear hg1 hl1 hrf c0 c1 c2 c3 c4 c5 f4 f5
  obtain ⟨c0, c1, c2, c3, c4, c5, f4, f5⟩ := HS1.out.facts
  go_wp2_with fail
  refine HRF.out.mono ?_
  rintro e W2 ⟨v, rfl, hR2, hB2, hk2⟩
  obtain ⟨Av, lv, cv, rfl⟩ : ∃ Av lv cv, v = .slice Av lv cv := by
    obtain ⟨Av, cv, h⟩ := hR2.slice
    exact ⟨_, _, _, h⟩
  have HS2 := Lib.hid (HS1.out.ref HR1.out hB2 hk2)
  have HA2 := Lib.hid (HA1.out.kept2 HR1.out hk2)
  have HR2 := Lib.hid hR2; clear hR2
  clear hB2 hk2 c0 c1 c2 c3 c4 c5 f4 f5
  go_upto_region 13 with fail
  obtain ⟨X, hX⟩ : ∃ X, X = W2.heap.size := ⟨_, rfl⟩
  obtain ⟨W3, hW3⟩ : ∃ W3, W3 = W2.alloc (Obj.cells #[.int .i64 N, .slice Av lv cv] 57) := ⟨_, rfl⟩
  rw [← hW3, ← hX]
  have hb3 : Below W2.heap.size W2 W3 := by rw [hW3]; exact (Below.refl _ _).alloc (Nat.le_refl _) _
  have HS3 := Lib.hid (HS2.out.step hb3)
  have HA3 := Lib.hid (HA2.out.below hb3 HA2.out.lt_a HA2.out.lt_b)
  have HR3 := Lib.hid (HR2.out.below hb3)
  have hx : W3.heap[X]? = some (.cells #[.int .i64 N, .slice Av lv cv] 57 (0, 0)) := by rw [hW3, hX]; exact (MapKept.heap_alloc _ _).1
  have x0 : W3.cell? ⟨X, 0, none⟩ = some (.int .i64 N) := cell_blk hx 0
  have x1 : W3.cell? ⟨X, 1, none⟩ = some (.slice Av lv cv) := cell_blk hx 1
  obtain ⟨c0, c1, c2, c3, c4, c5, f4, f5⟩ := HS3.out.facts
  clear hb3 hx hW3 hX
  have v0 : ((W3.setCell ⟨g6, 0, none⟩ (.int .i64 N)).setCell ⟨g6, 1, none⟩ (.slice Av lv cv)).cell? ⟨g6, 0, none⟩ = some (.int .i64 N) := by
    rw [cell_blk (blk_set (blk_set HS3.out.b6 0 _) 1 _)]; rfl
  have v1 : ((W3.setCell ⟨g6, 0, none⟩ (.int .i64 N)).setCell ⟨g6, 1, none⟩ (.slice Av lv cv)).cell? ⟨g6, 1, none⟩ = some (.slice Av lv cv) := by
    rw [cell_blk (blk_set (blk_set HS3.out.b6 0 _) 1 _)]; rfl
  have hF : (F == F) = true := by simp
  go_wp2_with fail
  exact bodyPost_ret (v := .tuple #[.agg #[.int .i64 N, .slice Av lv cv], .bool true]) (by simp [results, Tryd.results26, go_sem, v0, v1]) rfl
    (do_end HS3.out H6.out HB0.out HA3.out HG1.out HL1.out HR3.out _ _)

set_option maxRecDepth 100000 in
set_option maxHeartbeats 4000000 in
theorem do_alloc {cs : List Chunk} (hG : Good cs) (hN : cs.length ≤ 256) {w0 w : World} (hB : Below w0.heap.size w0 w) {a b : Nat} (hA : At w a b cs) (hb : w0.heap.size ≤ b) (hT : Tab w) (hb0 : 0 < b) {A : Option Addr} {n cap : Nat} (hR : RL w w0.heap.size (.slice A n cap) (objs cs)) (k x : Int) (hk : k.tmod 5 = 0) :
    Calls Tryd.prog 26 #[.pointer (some ⟨a, 0, none⟩), .agg #[.int .i64 cs.length, .slice A n cap], .agg #[.int .u8 k, .int .i64 x]] w (DoPost w0 w a b (.slice A n cap) cs.length) := by
  have HG := Lib.hid hG
  have HLN := Lib.hid hN
  have HB0 := Lib.hid hB.size
  have HBB := Lib.hid hb
  obtain ⟨N, hNN⟩ : ∃ N, N = cs.length := ⟨_, rfl⟩
  rw [← hNN]
  have HN := Lib.hid hNN; clear hNN hN hG
  obtain ⟨g4, hg4⟩ : ∃ g4, g4 = w.heap.size := ⟨_, rfl⟩
  obtain ⟨g5, hg5⟩ : ∃ g5, g5 = g4 + 1 := ⟨_, rfl⟩
  obtain ⟨g6, hg6⟩ : ∃ g6, g6 = g5 + 1 := ⟨_, rfl⟩
  have H6 : Hid (w.heap.size ≤ g6) := by show _ ≤ _; omega
  have HS := do_start hB b (.slice A n cap) N k x
  have hb3 : Below w.heap.size w (((w.alloc (Obj.cells #[.int .i64 N, .slice A n cap] 57)).alloc (Obj.cells #[.int .u8 k, .int .i64 x] 61)).alloc (Obj.cells #[.int .i64 0, .slice none 0 0] 57)) :=
    (((Below.refl _ _).alloc (Nat.le_refl _) _).alloc (by simp) _).alloc (by simp; omega) _
  have HA0 := Lib.hid (hA.below hb3 hA.lt_a hA.lt_b)
  have HR0 := Lib.hid (hR.below hb3)
  have HT0 := Lib.hid (hT.below hb3 hT.lt); clear hT
  clear hb3 hA hR hB hb
  rw [← hg4, ← hg5, ← hg6] at HS
  have HS0 := Lib.hid HS; clear HS
  go_enter Tryd.func26, Tryd.ntmps26
  go_upto_region 1 with fail
  rw [← hg4, ← hg5, ← hg6]
  clear hg4 hg5 hg6
  generalize (((w.alloc (Obj.cells #[.int .i64 N, .slice A n cap] 57)).alloc (Obj.cells #[.int .u8 k, .int .i64 x] 61)).alloc (Obj.cells #[.int .i64 0, .slice none 0 0] 57)) = W0 at *
  obtain ⟨c0, c1, c2, c3, c4, c5, f4, f5⟩ := HS0.out.facts
  go_wp2_with fail
  refine (palloc_at HG.out HA0.out HT0.out hb0 x).mono ?_
  rintro e W1 hpa
  obtain ⟨X, E, cs', rfl, hA1, hG1, hl1, hg1, hrf⟩ := both_alloc HG.out HLN.out hpa
  clear hpa
  have HS1 := Lib.hid (HS0.out.pool HBB.out HA0.out hg1)
  have HR1 := Lib.hid (HR0.out.pool HA0.out hg1)
  have HA1 := Lib.hid hA1; clear hA1
  have HG1 := Lib.hid hG1; clear hG1
  have HL1 : Hid (cs'.length = N) := by show _ = _; rw [hl1, HN.out]
  have HRF := Lib.hid (hrf HS1.out.below.size HR1.out)
  rw [← HN.out] at HRF
  clear hg1 hl1 hrf c0 c1 c2 c3 c4 c5 f4 f5
  obtain ⟨c0, c1, c2, c3, c4, c5, f4, f5⟩ := HS1.out.facts
  go_wp2_with fail
  refine HRF.out.mono ?_
  rintro e W2 ⟨v, rfl, hR2, hb2⟩
  obtain ⟨Av, lv, cv, rfl⟩ : ∃ Av lv cv, v = .slice Av lv cv := by
    obtain ⟨Av, cv, h⟩ := hR2.slice
    exact ⟨_, _, _, h⟩
  have HS2 := Lib.hid (HS1.out.step hb2)
  have HA2 := Lib.hid (HA1.out.below hb2 HA1.out.lt_a HA1.out.lt_b)
  have HR2 := Lib.hid hR2; clear hR2
  clear hb2 c0 c1 c2 c3 c4 c5 f4 f5
  have hXX : (X == X) = true := by simp
  go_upto_region 5 with fail
  obtain ⟨Y, hX⟩ : ∃ Y, Y = W2.heap.size := ⟨_, rfl⟩
  obtain ⟨W3, hW3⟩ : ∃ W3, W3 = W2.alloc (Obj.cells #[.int .i64 N, .slice Av lv cv] 57) := ⟨_, rfl⟩
  rw [← hW3, ← hX]
  have hb3 : Below W2.heap.size W2 W3 := by rw [hW3]; exact (Below.refl _ _).alloc (Nat.le_refl _) _
  have HS3 := Lib.hid (HS2.out.step hb3)
  have HA3 := Lib.hid (HA2.out.below hb3 HA2.out.lt_a HA2.out.lt_b)
  have HR3 := Lib.hid (HR2.out.below hb3)
  have hx : W3.heap[Y]? = some (.cells #[.int .i64 N, .slice Av lv cv] 57 (0, 0)) := by rw [hW3, hX]; exact (MapKept.heap_alloc _ _).1
  have x0 : W3.cell? ⟨Y, 0, none⟩ = some (.int .i64 N) := cell_blk hx 0
  have x1 : W3.cell? ⟨Y, 1, none⟩ = some (.slice Av lv cv) := cell_blk hx 1
  obtain ⟨c0, c1, c2, c3, c4, c5, f4, f5⟩ := HS3.out.facts
  clear hb3 hx hW3 hX
  have v0 : ((W3.setCell ⟨g6, 0, none⟩ (.int .i64 N)).setCell ⟨g6, 1, none⟩ (.slice Av lv cv)).cell? ⟨g6, 0, none⟩ = some (.int .i64 N) := by
    rw [cell_blk (blk_set (blk_set HS3.out.b6 0 _) 1 _)]; rfl
  have v1 : ((W3.setCell ⟨g6, 0, none⟩ (.int .i64 N)).setCell ⟨g6, 1, none⟩ (.slice Av lv cv)).cell? ⟨g6, 1, none⟩ = some (.slice Av lv cv) := by
    rw [cell_blk (blk_set (blk_set HS3.out.b6 0 _) 1 _)]; rfl
  go_wp2_with fail
  exact bodyPost_ret (v := .tuple #[.agg #[.int .i64 N, .slice Av lv cv], .bool true]) (by simp [results, Tryd.results26, go_sem, v0, v1]) rfl
    (do_end HS3.out H6.out HB0.out HA3.out HG1.out HL1.out HR3.out _ _)
end Go.Proofs.YtdgfnlagbdmniaaDoor.Pl
