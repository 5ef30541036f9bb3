/- Sweep, plainly. -/
import Derived.Test.YtdgfnlagbdmniaaDoorMb
namespace Go.Proofs.YtdgfnlagbdmniaaDoor.Pl
open Go.RowKit

/-- The place of an object. -/
def placeOf (o : PObj) : Nat × Nat := (o.at_ / 1024, if 1024 ≤ o.room then 0 else o.at_ % 1024 / o.room)

theorem placeOf_pl {cs : List Chunk} (h : Good cs) {i s : Nat} {c : Chunk} (hp : IsPl cs i s c) : placeOf (objOf c i s) = (i, s) := by
  obtain ⟨hi, hp⟩ := hp
  rcases hp with ⟨hw, rfl⟩ | ⟨hw, hs, hb⟩
  · obtain ⟨size, many, m, _, _, _, rfl, _⟩ := pl_head h hi hw
    have e1 : objOf (headM size many m) i 0 = ⟨i * 1024, size, many * 1024, m⟩ := rfl
    rw [e1]
    unfold placeOf
    simp only
    rw [if_pos (by omega)]
    simp
  · have hso := pl_slots h hi hw
    have hsin := slot_in hso.cls hs
    have hz : 0 < 2 ^ c.cls := Nat.pow_pos (by decide)
    have hp16 : 2 ^ c.cls ≤ 2 ^ 4 := Nat.pow_le_pow_right (by decide) hso.cls
    rw [obj_slot hw]
    unfold placeOf
    simp only
    rw [if_neg (by omega)]
    generalize hzz : 32 * 2 ^ c.cls = z at *
    have h1 : (i * 1024 + s * z) / 1024 = i := by omega
    have h2 : (i * 1024 + s * z) % 1024 = s * z := by omega
    rw [h1, h2, Nat.mul_div_cancel _ (by omega)]

theorem pl_of {cs : List Chunk} (h : Good cs) {o : PObj} (ho : o ∈ objs cs) : ∃ c, IsPl cs (placeOf o).1 (placeOf o).2 c ∧ o = objOf c (placeOf o).1 (placeOf o).2 := by
  obtain ⟨i, s, c, hp, rfl⟩ := mem_objs.1 ho
  rw [placeOf_pl h hp]
  exact ⟨c, hp, rfl⟩

theorem places_objs {cs : List Chunk} (h : Good cs) : places cs = (objs cs).map placeOf := by
  unfold objs
  rw [List.map_map]
  conv => lhs; rw [← List.map_id (places cs)]
  apply List.map_congr_left
  intro p hp
  obtain ⟨c, hc⟩ := mem_places.1 hp
  have e : cs.getD p.1 Chunk.zero = c := by simp [List.getD, hc.1]
  simp only [Function.comp_def, e]
  rw [placeOf_pl h hc]
  rfl

def unmark (o : PObj) : PObj := { o with marked := false }
theorem placeOf_unmark (o : PObj) : placeOf (unmark o) = placeOf o := rfl
def clr (k : Nat) (l : List PObj) : List PObj := (l.take k).map unmark ++ l.drop k

theorem apart_nodup {l : List PObj} (h : Apart l) (hr : ∀ o ∈ l, 0 < o.room) : l.Nodup := by
  refine List.Pairwise.imp_of_mem ?_ h
  intro a b ha hb hab e
  subst e
  have := hr a ha
  omega
theorem good_apart {cs : List Chunk} (h : Good cs) : Apart (objs cs) := by
  have ha := (good_objs h 0).2
  rwa [← objs_eq] at ha
theorem good_room {cs : List Chunk} (h : Good cs) : ∀ o ∈ objs cs, 0 < o.room := fun o ho => by
  have ok := (obj_in h ho).1
  have := ok.fit; have := ok.pos; omega
theorem good_nodup {cs : List Chunk} (h : Good cs) : (objs cs).Nodup := apart_nodup (good_apart h) (good_room h)

theorem split_at {l A B : List PObj} {o : PObj} {k : Nat} (hn : l.Nodup) (hk : l[k]? = some o) (h : l = A ++ o :: B) : A.length = k := by
  obtain ⟨hlt, he⟩ := List.getElem?_eq_some_iff.1 hk
  have hA : A.length < l.length := by rw [h]; simp
  have e2 : l[A.length] = o := by
    have : l[A.length]? = some o := by rw [h]; simp
    exact (List.getElem?_eq_some_iff.1 this).2
  exact (List.getElem_inj (h₀ := hA) (h₁ := hlt) hn).1 (e2.trans he.symm)

/-- Only marks have gone. -/
structure Shape (cs cs' : List Chunk) : Prop where
  len : cs'.length = cs.length
  what : ∀ i, (cs'.getD i Chunk.zero).what = (cs.getD i Chunk.zero).what
  cls : ∀ i, (cs'.getD i Chunk.zero).cls = (cs.getD i Chunk.zero).cls
  taken : ∀ i, (cs'.getD i Chunk.zero).taken = (cs.getD i Chunk.zero).taken
theorem Shape.refl (cs : List Chunk) : Shape cs cs := ⟨rfl, fun _ => rfl, fun _ => rfl, fun _ => rfl⟩
theorem Shape.trans {a b c : List Chunk} (h : Shape a b) (k : Shape b c) : Shape a c :=
  ⟨k.len.trans h.len, fun i => (k.what i).trans (h.what i), fun i => (k.cls i).trans (h.cls i), fun i => (k.taken i).trans (h.taken i)⟩
theorem Shape.set {cs : List Chunk} {i : Nat} {c d : Chunk} (hi : cs[i]? = some c) (h1 : d.what = c.what) (h2 : d.cls = c.cls) (h3 : d.taken = c.taken) : Shape cs (cs.set i d) := by
  have hlt := (List.getElem?_eq_some_iff.1 hi).1
  have e : ∀ j, (cs.set i d).getD j Chunk.zero = if i = j then d else cs.getD j Chunk.zero := by
    intro j
    simp only [List.getD_eq_getElem?_getD, List.getElem?_set]
    by_cases hj : i = j
    · subst hj; simp [hlt]
    · simp [hj]
  have ec : cs.getD i Chunk.zero = c := by simp [List.getD, hi]
  refine ⟨by simp, fun j => ?_, fun j => ?_, fun j => ?_⟩ <;> rw [e j] <;> by_cases hj : i = j
  · subst hj; rw [if_pos rfl, ec, h1]
  · rw [if_neg hj]
  · subst hj; rw [if_pos rfl, ec, h2]
  · rw [if_neg hj]
  · subst hj; rw [if_pos rfl, ec, h3]
  · rw [if_neg hj]
theorem Shape.mark {cs : List Chunk} {i s : Nat} {c : Chunk} (hp : IsPl cs i s c) (m : Bool) : Shape cs (setMarkC cs i s c m) := by
  unfold setMarkC
  split
  · exact Shape.set hp.1 rfl rfl rfl
  · refine Shape.set hp.1 ?_ ?_ ?_ <;> (unfold markC; split <;> rfl)

/-- What Sweep has done behind k objects. -/
structure Swept (cs : List Chunk) (k : Nat) (cs' : List Chunk) : Prop where
  good : Good cs'
  shape : Shape cs cs'
  objs : objs cs' = clr k (objs cs)

theorem clr_get {l : List PObj} {k j : Nat} (hj : k ≤ j) : (clr k l)[j]? = l[j]? := by
  unfold clr
  by_cases hk : k ≤ l.length
  · rw [List.getElem?_append_right (by simp; omega)]
    simp only [List.length_map, List.length_take, Nat.min_eq_left hk, List.getElem?_drop]
    congr 1; omega
  · rw [List.drop_eq_nil_of_le (by omega), List.append_nil, List.getElem?_eq_none (by simp; omega), List.getElem?_eq_none (by omega)]
theorem clr_place (k : Nat) (l : List PObj) : (clr k l).map placeOf = l.map placeOf := by
  unfold clr
  rw [List.map_append, List.map_map]
  have : (placeOf ∘ unmark) = placeOf := rfl
  rw [this, ← List.map_append, List.take_append_drop]

theorem Swept.zero {cs : List Chunk} (h : Good cs) : Swept cs 0 cs := ⟨h, Shape.refl cs, by simp [clr]⟩
theorem Swept.places {cs cs' : List Chunk} (hg : Good cs) {k : Nat} (h : Swept cs k cs') : places cs' = places cs := by
  rw [places_objs h.good, places_objs hg, h.objs, clr_place]
theorem Swept.like {cs cs' : List Chunk} (hg : Good cs) {k : Nat} (h : Swept cs k cs') : Like cs cs' k := by
  refine ⟨h.shape.len, h.good.rd, h.shape.what, h.shape.cls, h.shape.taken, fun j p hj hp => ?_⟩
  have e1 : (Pl.objs cs')[j]? = some (objOf (cs'.getD p.1 Chunk.zero) p.1 p.2) := by
    unfold Pl.objs; rw [List.getElem?_map, h.places hg, hp]; rfl
  have e2 : (Pl.objs cs)[j]? = some (objOf (cs.getD p.1 Chunk.zero) p.1 p.2) := by
    unfold Pl.objs; rw [List.getElem?_map, hp]; rfl
  rw [h.objs, clr_get hj, e2] at e1
  exact (Option.some.inj e1).symm

theorem clr_succ {l : List PObj} {k : Nat} {o : PObj} (h : l[k]? = some o) : clr (k + 1) l = (l.take k).map unmark ++ unmark o :: l.drop (k + 1) := by
  unfold clr
  rw [List.take_add_one, h]; simp
theorem clr_split {l : List PObj} {k : Nat} {o : PObj} (h : l[k]? = some o) : clr k l = (l.take k).map unmark ++ o :: l.drop (k + 1) := by
  obtain ⟨hlt, he⟩ := List.getElem?_eq_some_iff.1 h
  unfold clr
  rw [List.drop_eq_getElem_cons hlt, he]

/-- The next object is not marked. -/
theorem Swept.skip {cs cs' : List Chunk} {k : Nat} (h : Swept cs k cs') {o : PObj} (ho : (Pl.objs cs)[k]? = some o) (hm : o.marked = false) : Swept cs (k + 1) cs' := by
  refine ⟨h.good, h.shape, ?_⟩
  rw [h.objs, clr_succ ho, clr_split ho]
  have : unmark o = o := by cases o; simp only at hm; subst hm; rfl
  rw [this]
/-- It is marked. -/
theorem Swept.mark {cs cs' : List Chunk} {k : Nat} (h : Swept cs k cs') {o : PObj} (ho : (Pl.objs cs)[k]? = some o) {c : Chunk} (hp : IsPl cs' (placeOf o).1 (placeOf o).2 c) (hc : o = objOf c (placeOf o).1 (placeOf o).2) :
    Swept cs (k + 1) (setMarkC cs' (placeOf o).1 (placeOf o).2 c false) := by
  obtain ⟨g, _, A, B, e1, e2⟩ := mark_put h.good hp false
  refine ⟨g, h.shape.trans (Shape.mark hp false), ?_⟩
  rw [← hc] at e1 e2
  have hk : (Pl.objs cs')[k]? = some o := by rw [h.objs, clr_get (Nat.le_refl _)]; exact ho
  have hA := split_at (good_nodup h.good) hk e1
  rw [h.objs, clr_split ho] at e1
  have hl : ((Pl.objs cs).take k).map unmark = A := by
    have hlt := (List.getElem?_eq_some_iff.1 ho).1
    have := List.append_inj_left e1 (by simp; omega)
    exact this
  have hr : (Pl.objs cs).drop (k + 1) = B := by
    rw [hl] at e1
    simpa using e1
  rw [e2, clr_succ ho, hl, hr]
  rfl
theorem Swept.at_ {cs cs' : List Chunk} {k : Nat} (h : Swept cs k cs') {o : PObj} (ho : (Pl.objs cs)[k]? = some o) : ∃ c, IsPl cs' (placeOf o).1 (placeOf o).2 c ∧ o = objOf c (placeOf o).1 (placeOf o).2 := by
  have hk : (Pl.objs cs')[k]? = some o := by rw [h.objs, clr_get (Nat.le_refl _)]; exact ho
  exact pl_of h.good (List.mem_of_getElem? hk)

/-! ### The removals -/
theorem apart_ext {l m : List PObj} (hl : Apart l) (hm : Apart m) (rl : ∀ o ∈ l, 0 < o.room) (rm : ∀ o ∈ m, 0 < o.room) (h : ∀ x, x ∈ l ↔ x ∈ m) : l = m := by
  have hp : List.Perm l m := (List.perm_ext_iff_of_nodup (apart_nodup hl rl) (apart_nodup hm rm)).2 h
  refine List.Perm.eq_of_pairwise (le := fun a b : PObj => a.at_ + a.room ≤ b.at_) ?_ hl hm hp
  intro a b ha hb h1 h2
  have := rl a ha
  omega

theorem put_out {l m : List PObj} {o : PObj} (h : Put l m o) (hn : m.Nodup) : ∀ x, x ∈ l ↔ x ∈ m ∧ x ≠ o := by
  obtain ⟨A, B, rfl, rfl⟩ := h
  intro x
  have h1 : o ∉ A ++ B := by
    unfold List.Nodup at hn
    obtain ⟨_, k2, k3⟩ := List.pairwise_append.1 hn
    intro h
    rcases List.mem_append.1 h with h | h
    · exact k3 o h o (by simp) rfl
    · exact (List.pairwise_cons.1 k2).1 o h rfl
  constructor
  · intro hx
    refine ⟨by simp at hx ⊢; rcases hx with h | h <;> simp [h], fun e => h1 (e ▸ hx)⟩
  · rintro ⟨hx, hne⟩
    simp at hx ⊢
    rcases hx with h | h | h
    · exact .inl h
    · exact absurd h hne
    · exact .inr h

/-- The objects G have been taken away. -/
structure Gone (cs : List Chunk) (G : List PObj) (cs' : List Chunk) : Prop where
  good : Good cs'
  len : cs'.length = cs.length
  mem : ∀ x, x ∈ objs cs' ↔ x ∈ objs cs ∧ x ∉ G
theorem Gone.zero {cs : List Chunk} (h : Good cs) : Gone cs [] cs := ⟨h, rfl, by simp⟩
theorem Gone.at_ {cs cs' : List Chunk} {G : List PObj} (h : Gone cs G cs') {o : PObj} (ho : o ∈ objs cs) (hG : o ∉ G) : ∃ c, IsPl cs' (placeOf o).1 (placeOf o).2 c ∧ o = objOf c (placeOf o).1 (placeOf o).2 :=
  pl_of h.good ((h.mem o).2 ⟨ho, hG⟩)
theorem Gone.step {cs cs' : List Chunk} {G : List PObj} (h : Gone cs G cs') {o : PObj} {c : Chunk} (hp : IsPl cs' (placeOf o).1 (placeOf o).2 c) (hc : o = objOf c (placeOf o).1 (placeOf o).2) :
    Gone cs (G ++ [o]) (removeC cs' (placeOf o).1 (placeOf o).2 c) := by
  obtain ⟨g, l, p⟩ := remove_put h.good hp
  refine ⟨g, l.trans h.len, fun x => ?_⟩
  rw [put_out p (good_nodup h.good), h.mem, ← hc]
  simp
  exact ⟨fun ⟨⟨a, b⟩, c⟩ => ⟨a, b, c⟩, fun ⟨a, b, c⟩ => ⟨⟨a, b⟩, c⟩⟩

def outs (l : List PObj) : List PObj := l.filter fun o => !o.marked
def kept (l : List PObj) : List PObj := (l.filter fun o => o.marked).map unmark

theorem apart_same {l : List PObj} (h : Apart l) (hr : ∀ o ∈ l, 0 < o.room) {x y : PObj} (hx : x ∈ l) (hy : y ∈ l) (he : x.at_ = y.at_) : x = y := by
  apply Classical.byContradiction
  intro hne
  have h1 := hr x hx
  have h2 := hr y hy
  rcases pair_any h hx hy hne with h | h <;> omega

/-- Behind the removals of all that was not marked. -/
theorem sweep_end {cs cs1 cs2 : List Chunk} (hg : Good cs) (hs : Swept cs (objs cs).length cs1) (hgo : Gone cs1 (outs (objs cs)) cs2) : objs cs2 = kept (objs cs) := by
  have h1 : objs cs1 = (objs cs).map unmark := by rw [hs.objs]; simp [clr]
  have ha := good_apart hg
  have hr := good_room hg
  have hk : Apart (kept (objs cs)) := by
    unfold kept Apart
    rw [List.pairwise_map]
    exact (List.Pairwise.filter _ ha).imp fun h => h
  have hkr : ∀ o ∈ kept (objs cs), 0 < o.room := by
    intro o ho
    obtain ⟨y, hy, rfl⟩ := List.mem_map.1 ho
    exact hr y (List.mem_filter.1 hy).1
  refine apart_ext (good_apart hgo.good) hk (good_room hgo.good) hkr fun x => ?_
  rw [hgo.mem, h1]
  constructor
  · rintro ⟨hx, hno⟩
    obtain ⟨y, hy, rfl⟩ := List.mem_map.1 hx
    refine List.mem_map.2 ⟨y, List.mem_filter.2 ⟨hy, ?_⟩, rfl⟩
    cases hm : y.marked with
    | true => rfl
    | false =>
      exfalso
      apply hno
      have e : unmark y = y := by cases y; simp only at hm; subst hm; rfl
      rw [e]
      exact List.mem_filter.2 ⟨hy, by simp [hm]⟩
  · intro hx
    obtain ⟨y, hy, rfl⟩ := List.mem_map.1 hx
    obtain ⟨hy1, hy2⟩ := List.mem_filter.1 hy
    refine ⟨List.mem_map.2 ⟨y, hy1, rfl⟩, fun hg => ?_⟩
    obtain ⟨hz1, _⟩ := List.mem_filter.1 hg
    have := apart_same ha hr hz1 hy1 rfl
    rw [← this] at hy2
    simp [unmark] at hy2
theorem outs_in {cs cs1 : List Chunk} (hs : Swept cs (objs cs).length cs1) {o : PObj} (ho : o ∈ outs (objs cs)) : o ∈ objs cs1 := by
  have h1 : objs cs1 = (objs cs).map unmark := by rw [hs.objs]; simp [clr]
  obtain ⟨h, hm⟩ := List.mem_filter.1 ho
  rw [h1]
  refine List.mem_map.2 ⟨o, h, ?_⟩
  simp at hm
  cases o; simp only at hm; subst hm; rfl
theorem outs_nodup {cs : List Chunk} (hg : Good cs) : (outs (objs cs)).Nodup := List.Pairwise.filter _ (good_nodup hg)
end Go.Proofs.YtdgfnlagbdmniaaDoor.Pl
