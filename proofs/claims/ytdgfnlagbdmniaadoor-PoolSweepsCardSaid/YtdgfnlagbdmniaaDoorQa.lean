/- PoolApart: the plain law and the walk. -/
import Derived.Test.YtdgfnlagbdmniaaDoorPy
namespace Go.Proofs.YtdgfnlagbdmniaaDoor.Pl
open Go.RowKit

theorem find_is {cs : List Chunk} (h : Good cs) {ad : Int} {e : Ending} (hf : FindPost cs ad e) {o : PObj} (ho : o ∈ objs cs) (h1 : (o.at_ : Int) ≤ ad) (h2 : ad < o.at_ + o.size) : e = .returned (.tuple #[o.val, .int .i64 0]) := by
  rcases hf with ⟨p, hp, a1, a2, rfl⟩ | ⟨hno, _⟩
  · have k1 := (obj_in h ho).1.fit
    have k2 := (obj_in h hp).1.fit
    rw [obj_uniq h ho hp h1 (by omega) a1 (by omega)]
  · exact absurd ⟨h1, h2⟩ (hno o ho)
theorem find_not {cs : List Chunk} (h : Good cs) {ad : Int} {e : Ending} (hf : FindPost cs ad e) {o : PObj} (ho : o ∈ objs cs) (h1 : o.at_ + o.size ≤ ad) (h2 : ad < o.at_ + o.room) :
    e = .returned (.tuple #[.agg #[.int .i64 0, .int .i64 0, .int .i64 0, .bool false], .int .i64 5]) := by
  rcases hf with ⟨p, hp, a1, a2, rfl⟩ | ⟨_, rfl⟩
  · have k1 := (obj_in h ho).1
    have k2 := (obj_in h hp).1.fit
    have := obj_uniq h ho hp (ad := ad) (by have := k1.pos; omega) h2 a1 (by omega)
    subst this
    omega
  · rfl

theorem obj_large {cs : List Chunk} (h : Good cs) {o : PObj} (ho : o ∈ objs cs) (h5 : cls o.size = 5) : o.at_ % 1024 = 0 := by
  obtain ⟨i, s, c, ⟨hi, hp⟩, rfl⟩ := mem_objs.1 ho
  rcases hp with ⟨hw, rfl⟩ | ⟨hw, hs, hb⟩
  · simp [objOf, hw]
  · have hso := pl_slots h hi hw
    obtain ⟨_, _, hc⟩ := hso.szs s hb
    rw [obj_slot hw] at h5
    simp only at h5
    have := hso.cls
    omega
theorem obj_share {cs : List Chunk} (h : Good cs) {o p : PObj} (ho : o ∈ objs cs) (hp : p ∈ objs cs) (h1 : p.at_ + p.room ≤ o.at_) (h2 : o.at_ / 1024 = (p.at_ + p.room - 1) / 1024) : cls o.size = cls p.size := by
  obtain ⟨i, s, c, ⟨hi, hq⟩, rfl⟩ := mem_objs.1 hp
  obtain ⟨i', s', c', ⟨hi', hq'⟩, rfl⟩ := mem_objs.1 ho
  rcases hq with ⟨hw, rfl⟩ | ⟨hw, hs, hb⟩
  · obtain ⟨size, many, m, _, _, _, rfl, _⟩ := pl_head h hi hw
    have e1 : objOf (headM size many m) i 0 = ⟨i * 1024, size, many * 1024, m⟩ := rfl
    rw [e1] at h1 h2
    simp only at h1 h2
    omega
  · have hso := pl_slots h hi hw
    obtain ⟨b1, b2, b3⟩ := slot_ok hso i s hs hb
    have hr : 0 < (objOf c i s).room := by have := b3.fit; have := b3.pos; omega
    obtain ⟨_, _, hz⟩ := hso.szs s hb
    rcases hq' with ⟨hw', rfl⟩ | ⟨hw', hs', hb'⟩
    · have e2 : (objOf c' i' 0).at_ = i' * 1024 := by simp [objOf, hw']
      rw [e2] at h1 h2
      have : i' = i := by omega
      subst this
      rw [hi] at hi'; cases hi'; omega
    · have hso' := pl_slots h hi' hw'
      obtain ⟨a1, a2, a3⟩ := slot_ok hso' i' s' hs' hb'
      have hr' : 0 < (objOf c' i' s').room := by have := a3.fit; have := a3.pos; omega
      have : i' = i := by omega
      subst this
      rw [hi] at hi'; cases hi'
      obtain ⟨_, _, hz'⟩ := hso.szs s' hb'
      rw [obj_slot hw, obj_slot hw]
      simp only
      omega

/-- What the loop keeps of the objects that have come. -/
structure Seen (l : List PObj) (k : Nat) (E La K : Int) : Prop where
  lo : -1 ≤ La ∧ La ≤ 1000000000
  nxt : ∀ o, l[k]? = some o → E ≤ o.at_ ∧ ((o.at_ : Int) / 1024 = La → (cls o.size : Int) = K)

theorem Seen.zero (l : List PObj) : Seen l 0 0 (-1) (-1) := ⟨by omega, fun o _ => ⟨by omega, fun h => by omega⟩⟩
theorem Seen.step {cs : List Chunk} (h : Good cs) (hl : cs.length ≤ 256) {k : Nat} {o : PObj} (ho : (objs cs)[k]? = some o) : Seen (objs cs) (k + 1) (o.at_ + o.room) (((o.at_ : Int) + o.room - 1) / 1024) (cls o.size) := by
  have hm := List.mem_of_getElem? ho
  obtain ⟨ok, hr⟩ := obj_in h hm
  have hpos : 0 < o.room := by have := ok.fit; have := ok.pos; omega
  refine ⟨by omega, fun q hq => ?_⟩
  have ha := (good_objs h 0).2
  rw [← objs_eq] at ha
  obtain ⟨l1, e1⟩ := List.getElem?_eq_some_iff.1 ho
  obtain ⟨l2, e2⟩ := List.getElem?_eq_some_iff.1 hq
  have hap := List.pairwise_iff_getElem.1 ha k (k + 1) l1 l2 (by omega)
  rw [e1, e2] at hap
  refine ⟨by omega, fun hd => ?_⟩
  have := obj_share h (List.mem_of_getElem? hq) hm hap (by omega)
  rw [this]
end Go.Proofs.YtdgfnlagbdmniaaDoor.Pl
