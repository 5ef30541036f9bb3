/- PoolRuns: the reference's functions, plainly. -/
/- PoolRuns: the reference's functions that make lists, plainly. -/
import Derived.Test.YtdgfnlagbdmniaaDoorRd
import Derived.Test.YtdgfnlagbdmniaaDoorRe
import Derived.Test.YtdgfnlagbdmniaaDoorNRb
namespace Go.Proofs.YtdgfnlagbdmniaaDoor.Pl
open Go.RowKit Go.Proofs.YtdgfnlagbdmniaaDoor.PPoolRuns Go.Proofs.YtdgfnlagbdmniaaDoorW.PrintWords Go.Proofs.YtdgfnlagbdmniaaDoorW.PrintLast Go.Proofs.YtdgfnlagbdmniaaDoorW.PrintMore

def toS (o : PObj) : S109 := ⟨o.at_, o.size, o.marked⟩
theorem rd_toS {l : List PObj} {i : Nat} {o : PObj} (h : l[i]? = some o) : rd_T109 (l.map toS) (i : Int) = toS o := by
  simp [rd_T109, List.getD, h]
theorem rd0 {l : List PObj} {i : Nat} {o : PObj} (h : l[i]? = some o) : (rd_T109 (l.map toS) (i : Int)).f0 = o.at_ := by rw [rd_toS h]; rfl
theorem rd1 {l : List PObj} {i : Nat} {o : PObj} (h : l[i]? = some o) : (rd_T109 (l.map toS) (i : Int)).f1 = o.size := by rw [rd_toS h]; rfl
theorem rd2 {l : List PObj} {i : Nat} {o : PObj} (h : l[i]? = some o) : (rd_T109 (l.map toS) (i : Int)).f2 = o.marked := by rw [rd_toS h]; rfl
theorem up_to {α : Type} {f : Nat → Option α} (hm : ∀ k, LeO (f k) (f (k + 1))) {r : α} {k k' : Nat} (hk : k ≤ k') (h : f k = some r) : f k' = some r := by
  induction k' with
  | zero => obtain rfl : k = 0 := by omega
            exact h
  | succ n ih =>
    by_cases e : k = n + 1
    · subst e; exact h
    · exact hm n r (ih (by omega))
theorem wrap_next (i : Nat) (h : i < 1000000) : wrap64 ((i : Int) + 1) = ((i + 1 : Nat) : Int) := by unfold wrap64; omega

theorem shl0 : shl .i64 32 0 = 32 := by decide
theorem shl1 : shl .i64 32 1 = 64 := by decide
theorem shl2 : shl .i64 32 2 = 128 := by decide
theorem shl3 : shl .i64 32 3 = 256 := by decide
theorem shl4 : shl .i64 32 4 = 512 := by decide
theorem w1 : wrap64 1 = 1 := by unfold wrap64; omega
theorem w2 : wrap64 2 = 2 := by unfold wrap64; omega
theorem w3 : wrap64 3 = 3 := by unfold wrap64; omega
theorem w4 : wrap64 4 = 4 := by unfold wrap64; omega
theorem w5 : wrap64 5 = 5 := by unfold wrap64; omega

theorem rclass_f (n : Int) (h1 : 1 ≤ n) (h2 : n ≤ 262144) {k : Nat} (hk : 8 ≤ k) : hackamoreref32_Class.f k n = some (((cls n : Nat) : Int), 0) := by
  refine up_to (hackamoreref32_Class.mono n) hk ?_
  unfold hackamoreref32_Class.f
  rw [if_neg (by omega), decide_eq_false (by omega)]
  unfold cls
  by_cases a0 : n ≤ 32
  · simp [hackamoreref32_Class.j0, hackamoreref32_Class.l0, shl0, a0, show ¬ (32 < n) by omega]
  by_cases a1 : n ≤ 64
  · simp [hackamoreref32_Class.j0, hackamoreref32_Class.l0, shl0, shl1, w1, a0, a1, show (32 < n) by omega, show ¬ (64 < n) by omega]
  by_cases a2 : n ≤ 128
  · simp [hackamoreref32_Class.j0, hackamoreref32_Class.l0, shl0, shl1, shl2, w1, w2, a0, a1, a2, show (32 < n) by omega, show (64 < n) by omega, show ¬ (128 < n) by omega]
  by_cases a3 : n ≤ 256
  · simp [hackamoreref32_Class.j0, hackamoreref32_Class.l0, shl0, shl1, shl2, shl3, w1, w2, w3, a0, a1, a2, a3, show (32 < n) by omega, show (64 < n) by omega, show (128 < n) by omega, show ¬ (256 < n) by omega]
  by_cases a4 : n ≤ 512
  · simp [hackamoreref32_Class.j0, hackamoreref32_Class.l0, shl0, shl1, shl2, shl3, shl4, w1, w2, w3, w4, a0, a1, a2, a3, a4, show (32 < n) by omega, show (64 < n) by omega, show (128 < n) by omega, show (256 < n) by omega, show ¬ (512 < n) by omega]
  · simp [hackamoreref32_Class.j0, hackamoreref32_Class.l0, shl0, shl1, shl2, shl3, shl4, w1, w2, w3, w4, w5, a0, a1, a2, a3, a4, show (32 < n) by omega, show (64 < n) by omega, show (128 < n) by omega, show (256 < n) by omega, show (512 < n) by omega]

theorem rroom_f (n : Int) (h1 : 1 ≤ n) (h2 : n ≤ 262144) {k : Nat} (hk : 8 ≤ k) : hackamoreref32_Room.f k n = some ((roomOf n : Nat) : Int) := by
  unfold hackamoreref32_Room.f
  rw [rclass_f n h1 h2 hk]
  rw [Option.bind_some]
  have h5 := cls_le n
  by_cases h : cls n = 5
  · rw [if_neg (by omega)]
    unfold roomOf
    rw [if_neg (by omega)]
    congr 1
    unfold wrap64
    have e : Int.tdiv ((n + 1023 + 9223372036854775808) % 18446744073709551616 - 9223372036854775808) 1024 = (n + 1023) / 1024 := by
      rw [show (n + 1023 + 9223372036854775808) % 18446744073709551616 - 9223372036854775808 = n + 1023 by omega, Int.tdiv_eq_ediv_of_nonneg (by omega)]
    rw [e]
    omega
  · rw [if_pos (by omega), if_pos (by omega)]
    unfold roomOf
    rw [if_pos (by omega)]
    generalize cls n = c at *
    obtain rfl | rfl | rfl | rfl | rfl : c = 0 ∨ c = 1 ∨ c = 2 ∨ c = 3 ∨ c = 4 := by omega
    all_goals decide

/-- An object of a pool. -/
def Fit (l : List PObj) : Prop := l.length ≤ 100000 ∧ ∀ o ∈ l, OOk o ∧ o.at_ + o.room ≤ 262144
def hits (ad : Int) (o : PObj) : Prop := (o.at_ : Int) ≤ ad ∧ ad < o.at_ + o.room

theorem holder_f (c : Int) (l : List PObj) (hf : Fit l) (ad : Int) : ∃ k r, hackamoreref32_holder.f k c (l.map toS) ad = some r ∧
    ((∃ (i : Nat) (o : PObj), l[i]? = some o ∧ hits ad o ∧ r = i) ∨ ((∀ o ∈ l, ¬ hits ad o) ∧ r = -1)) := by
  suffices H : ∀ d i, i + d = l.length → (∀ (j : Nat) (o : PObj), j < i → l[j]? = some o → ¬ hits ad o) → ∃ r, hackamoreref32_holder.l0 (d + 9) ad (i : Int) c (l.map toS) = some r ∧
    ((∃ (i : Nat) (o : PObj), l[i]? = some o ∧ hits ad o ∧ r = i) ∨ ((∀ o ∈ l, ¬ hits ad o) ∧ r = -1)) by
    obtain ⟨r, h, h'⟩ := H l.length 0 (by omega) (fun j o hj _ => by omega)
    rw [show ((0 : Nat) : Int) = 0 from rfl] at h
    exact ⟨l.length + 9, r, by unfold hackamoreref32_holder.f; exact h, h'⟩
  intro d
  induction d with
  | zero =>
    intro i hi hno
    refine ⟨-1, ?_, .inr ⟨fun o ho => ?_, rfl⟩⟩
    · unfold hackamoreref32_holder.l0
      rw [if_neg (by simp; omega)]
    · obtain ⟨j, hj⟩ := List.mem_iff_getElem?.1 ho
      exact hno j o (by have := (List.getElem?_eq_some_iff.1 hj).1; omega) hj
  | succ d ih =>
    intro i hi hno
    obtain ⟨o, ho⟩ : ∃ o, l[i]? = some o := ⟨l[i]'(by omega), by simp⟩
    obtain ⟨ok, hin⟩ := hf.2 o (List.mem_of_getElem? ho)
    have hl := hf.1
    have next : ¬ hits ad o → ∃ r, hackamoreref32_holder.l0 (d + 9) ad (wrap64 ((i : Int) + 1)) c (l.map toS) = some r ∧
        ((∃ (i : Nat) (o : PObj), l[i]? = some o ∧ hits ad o ∧ r = i) ∨ ((∀ o ∈ l, ¬ hits ad o) ∧ r = -1)) := by
      intro hn
      rw [wrap_next i (by omega)]
      refine ih (i + 1) (by omega) fun j p hj hp => ?_
      by_cases e : j = i
      · subst e; rw [ho] at hp; cases hp; exact hn
      · exact hno j p (by omega) hp
    rw [show d + 1 + 9 = (d + 9) + 1 by omega]
    unfold hackamoreref32_holder.l0
    rw [if_pos (by simp; omega), if_pos (by omega), rd0 ho, rd1 ho]
    by_cases h1 : ad ≥ (o.at_ : Int)
    · rw [if_pos h1, rroom_f o.size ok.pos ok.le (by omega)]
      rw [Option.bind_some]
      rw [← ok.room]
      have ew : wrap64 ((o.at_ : Int) + (o.room : Int)) = o.at_ + o.room := by unfold wrap64; omega
      rw [ew]
      by_cases h2 : ad < o.at_ + o.room
      · rw [if_pos h2]
        exact ⟨i, rfl, .inl ⟨i, o, ho, ⟨h1, h2⟩, rfl⟩⟩
      · rw [if_neg h2]
        exact next fun h => h2 h.2
    · rw [if_neg h1]
      exact next fun h => h1 h.1

def kindO (ch : Nat) (o : PObj) : Option Int :=
  if cls o.size < 5 ∧ o.at_ / 1024 = ch then some (cls o.size : Nat)
  else if cls o.size = 5 ∧ o.at_ / 1024 = ch then some 5
  else if cls o.size = 5 ∧ o.at_ / 1024 < ch ∧ ch * 1024 < o.at_ + o.room then some 6 else none
def KindR (l : List PObj) (ch : Nat) (r : Int) : Prop := (∃ o ∈ l, kindO ch o = some r) ∨ ((∀ o ∈ l, kindO ch o = none) ∧ r = -1)

theorem kind_f (c : Int) (l : List PObj) (hf : Fit l) (ch : Nat) (hch : ch ≤ 1000) : ∃ k r, hackamoreref32_kind.f k c (l.map toS) ch = some r ∧ KindR l ch r := by
  suffices H : ∀ d i, i + d = l.length → (∀ (j : Nat) (o : PObj), j < i → l[j]? = some o → kindO ch o = none) → ∃ r, hackamoreref32_kind.l0 (3 * d + 9) ch (i : Int) c (l.map toS) = some r ∧ KindR l ch r by
    obtain ⟨r, h, h'⟩ := H l.length 0 (by omega) (fun j o hj _ => by omega)
    rw [show ((0 : Nat) : Int) = 0 from rfl] at h
    exact ⟨3 * l.length + 9, r, by unfold hackamoreref32_kind.f; exact h, h'⟩
  intro d
  induction d with
  | zero =>
    intro i hi hno
    refine ⟨-1, ?_, .inr ⟨fun o ho => ?_, rfl⟩⟩
    · unfold hackamoreref32_kind.l0
      rw [if_neg (by simp; omega)]
    · obtain ⟨j, hj⟩ := List.mem_iff_getElem?.1 ho
      exact hno j o (by have := (List.getElem?_eq_some_iff.1 hj).1; omega) hj
  | succ d ih =>
    intro i hi hno
    obtain ⟨o, ho⟩ : ∃ o, l[i]? = some o := ⟨l[i]'(by omega), by simp⟩
    obtain ⟨ok, hin⟩ := hf.2 o (List.mem_of_getElem? ho)
    have hl := hf.1
    have hm := List.mem_of_getElem? ho
    have next : kindO ch o = none → ∃ r, hackamoreref32_kind.l0 (3 * d + 9) ch (wrap64 ((i : Int) + 1)) c (l.map toS) = some r ∧ KindR l ch r := by
      intro hn
      rw [wrap_next i (by omega)]
      refine ih (i + 1) (by omega) fun j p hj hp => ?_
      by_cases e : j = i
      · subst e; rw [ho] at hp; cases hp; exact hn
      · exact hno j p (by omega) hp
    rw [show 3 * (d + 1) + 9 = (3 * d + 9) + 1 + 1 + 1 by omega]
    unfold hackamoreref32_kind.l0
    rw [if_pos (by simp; omega), if_pos (by omega), rd0 ho, rd1 ho, rd2 ho]
    rw [rclass_f o.size ok.pos ok.le (by omega)]
    rw [Option.bind_some]
    have ed : wrap64 (Int.tdiv (o.at_ : Int) 1024) = ((o.at_ / 1024 : Nat) : Int) := by
      rw [Int.tdiv_eq_ediv_of_nonneg (by omega)]; unfold wrap64; omega
    rw [ed]
    have h5 := cls_le o.size
    have eb : ((((o.at_ / 1024 : Nat) : Int)) == (ch : Int)) = decide (o.at_ / 1024 = ch) := by
      by_cases e : o.at_ / 1024 = ch
      · simp [e]
      · have : ¬ (((o.at_ / 1024 : Nat) : Int) = (ch : Int)) := by omega
        rw [decide_eq_false e]; simpa using this
    rw [eb]
    have j2 : ∀ b : Bool, (b = true → cls o.size = 5 ∧ o.at_ / 1024 = ch) → (b = false → ¬ (cls o.size < 5 ∧ o.at_ / 1024 = ch) ∧ ¬ (cls o.size = 5 ∧ o.at_ / 1024 = ch)) →
        ∃ r, hackamoreref32_kind.j2 (3 * d + 9 + 1) ch i (cls o.size : Nat) b c (l.map toS) o.at_ o.size o.marked = some r ∧ KindR l ch r := by
      intro b hb hb'
      unfold hackamoreref32_kind.j2
      cases b with
      | true =>
        rw [if_pos rfl]
        obtain ⟨e1, e2⟩ := hb rfl
        exact ⟨5, rfl, .inl ⟨o, hm, by unfold kindO; rw [if_neg (by omega), if_pos ⟨e1, e2⟩]⟩⟩
      | false =>
        obtain ⟨n1, n2⟩ := hb' rfl
        rw [if_neg (by simp)]
        by_cases e5 : cls o.size = 5
        · rw [if_pos (by omega), ed]
          by_cases e6 : o.at_ / 1024 < ch
          · rw [if_pos (by omega), rroom_f o.size ok.pos ok.le (by omega)]
            rw [Option.bind_some]
            rw [← ok.room]
            have ew : wrap64 ((o.at_ : Int) + (o.room : Int)) = o.at_ + o.room := by unfold wrap64; omega
            have ew2 : wrap64 ((ch : Int) * 1024) = ch * 1024 := by unfold wrap64; omega
            rw [ew, ew2]
            by_cases e7 : ch * 1024 < o.at_ + o.room
            · rw [if_pos (by omega)]
              exact ⟨6, rfl, .inl ⟨o, hm, by unfold kindO; rw [if_neg n1, if_neg n2, if_pos ⟨e5, e6, e7⟩]⟩⟩
            · rw [if_neg (by omega)]
              exact next (by unfold kindO; rw [if_neg n1, if_neg n2, if_neg (by omega)])
          · rw [if_neg (by omega)]
            exact next (by unfold kindO; rw [if_neg n1, if_neg n2, if_neg (by omega)])
        · rw [if_neg (by omega)]
          exact next (by unfold kindO; rw [if_neg n1, if_neg n2, if_neg (by omega)])
    have j1 : ∀ b : Bool, (b = true → cls o.size < 5 ∧ o.at_ / 1024 = ch) → (b = false → ¬ (cls o.size < 5 ∧ o.at_ / 1024 = ch)) →
        ∃ r, hackamoreref32_kind.j1 (3 * d + 9 + 1 + 1) ch i (cls o.size : Nat) b c (l.map toS) o.at_ o.size o.marked = some r ∧ KindR l ch r := by
      intro b hb hb'
      unfold hackamoreref32_kind.j1
      cases b with
      | true =>
        rw [if_pos rfl]
        exact ⟨_, rfl, .inl ⟨o, hm, by unfold kindO; rw [if_pos (hb rfl)]⟩⟩
      | false =>
        have n1 := hb' rfl
        rw [if_neg (by simp)]
        by_cases e5 : cls o.size = 5
        · rw [if_pos (by omega), ed, eb]
          exact j2 _ (fun h => ⟨e5, by simpa using h⟩) (fun h => ⟨n1, by simp at h; omega⟩)
        · rw [if_neg (by omega)]
          exact j2 _ (fun h => by cases h) (fun _ => ⟨n1, by omega⟩)
    by_cases e5 : cls o.size < 5
    · rw [if_pos (by omega)]
      exact j1 _ (fun h => ⟨e5, by simpa using h⟩) (fun h => by simp at h; omega)
    · rw [if_neg (by omega)]
      exact j1 _ (fun h => by cases h) (fun _ => by omega)
end Go.Proofs.YtdgfnlagbdmniaaDoor.Pl
namespace Go.Proofs.YtdgfnlagbdmniaaDoor.Pl
open Go.RowKit Go.Proofs.YtdgfnlagbdmniaaDoor.PPoolRuns Go.Proofs.YtdgfnlagbdmniaaDoorW.PrintWords Go.Proofs.YtdgfnlagbdmniaaDoorW.PrintLast Go.Proofs.YtdgfnlagbdmniaaDoorW.PrintMore

theorem S_eta {l : List PObj} {i : Nat} {o : PObj} (h : l[i]? = some o) : (⟨(rd_T109 (l.map toS) (i : Int)).f0, (rd_T109 (l.map toS) (i : Int)).f1, (rd_T109 (l.map toS) (i : Int)).f2⟩ : S109) = toS o := by
  rw [rd_toS h]
theorem take_next {l : List PObj} {i : Nat} {o : PObj} (h : l[i]? = some o) : l.take (i + 1) = l.take i ++ [o] := by
  rw [List.take_add_one, h]; rfl
theorem drop_next {l : List PObj} {i : Nat} {o : PObj} (h : l[i]? = some o) : l.drop i = o :: l.drop (i + 1) := by
  obtain ⟨h1, h2⟩ := List.getElem?_eq_some_iff.1 h
  rw [List.drop_eq_getElem_cons h1, h2]

/-- The list with one more, in the order of addresses. -/
def Ins (l m : List PObj) (o : PObj) : Prop := ∃ A B, l = A ++ B ∧ m = A ++ o :: B ∧ (∀ a ∈ A, a.at_ ≤ o.at_) ∧ (∀ b, B.head? = some b → o.at_ < b.at_)

theorem put_tail (c : Int) (l : List PObj) (hl : l.length ≤ 100000) (x y : Int) (z : Bool) : ∀ d i (out : List S109), i + d = l.length → out.length + d ≤ 200002 →
    hackamoreref32_put.l0 (d + 1) out true (i : Int) c (l.map toS) x y z = some (c, out ++ (l.drop i).map toS) := by
  intro d
  induction d with
  | zero =>
    intro i out hi ho
    unfold hackamoreref32_put.l0
    rw [if_neg (by simp; omega), if_pos rfl, List.drop_of_length_le (by omega)]
    simp
  | succ d ih =>
    intro i out hi ho
    obtain ⟨o, ho'⟩ : ∃ o, l[i]? = some o := ⟨l[i]'(by omega), by simp⟩
    unfold hackamoreref32_put.l0
    rw [if_pos (by simp; omega), if_pos rfl, if_pos (by omega), if_pos (by omega), S_eta ho', wrap_next i (by omega), ih (i + 1) _ (by omega) (by simp; omega), drop_next ho']
    simp

theorem put_f (c : Int) (l : List PObj) (hl : l.length ≤ 100000) (o : PObj) : ∃ k m, hackamoreref32_put.f k c (l.map toS) o.at_ o.size o.marked = some (c, m.map toS) ∧ Ins l m o := by
  suffices H : ∀ d i, i + d = l.length → (∀ a ∈ l.take i, a.at_ ≤ o.at_) → ∃ m, hackamoreref32_put.l0 (d + 2) ((l.take i).map toS) false (i : Int) c (l.map toS) o.at_ o.size o.marked = some (c, m.map toS) ∧ Ins l m o by
    obtain ⟨m, h, h'⟩ := H l.length 0 (by omega) (by simp)
    rw [show ((0 : Nat) : Int) = 0 from rfl, List.take_zero, List.map_nil] at h
    exact ⟨l.length + 2, m, by unfold hackamoreref32_put.f; exact h, h'⟩
  intro d
  induction d with
  | zero =>
    intro i hi hle
    refine ⟨l ++ [o], ?_, l, [], by simp, rfl, ?_, by simp⟩
    · unfold hackamoreref32_put.l0
      rw [if_neg (by simp; omega), if_neg (by simp), if_pos (by simp; omega), List.take_of_length_le (by omega)]
      simp [toS]
    · rw [List.take_of_length_le (by omega)] at hle; exact hle
  | succ d ih =>
    intro i hi hle
    obtain ⟨p, hp⟩ : ∃ p, l[i]? = some p := ⟨l[i]'(by omega), by simp⟩
    rw [show d + 1 + 2 = (d + 2) + 1 by omega]
    unfold hackamoreref32_put.l0
    rw [if_pos (by simp; omega), if_neg (by simp), if_pos (by omega), rd0 hp, rd1 hp, rd2 hp, wrap_next i (by omega)]
    by_cases hgt : o.at_ < p.at_
    · refine ⟨l.take i ++ o :: l.drop i, ?_, l.take i, l.drop i, by simp, rfl, hle, ?_⟩
      · rw [if_pos (by omega), if_pos (by simp; omega), Option.bind_some, if_pos (by simp; omega),
          up_to (f := fun k => hackamoreref32_put.l0 k _ true ((i + 1 : Nat) : Int) c (l.map toS) o.at_ o.size o.marked) (fun k => hackamoreref32_put.mono_l k _ _ _ _ _ _ _ _) (k := d + 1) (by omega) (put_tail c l hl o.at_ o.size o.marked d (i + 1) _ (by omega) (by simp; omega)), drop_next hp]
        simp [toS]
      · intro b hb
        rw [drop_next hp] at hb
        cases hb; exact hgt
    · rw [if_neg (by omega), if_pos (by simp; omega)]
      have := ih (i + 1) (by omega) (fun a ha => by
        rw [take_next hp] at ha
        rcases List.mem_append.1 ha with h | h
        · exact hle a h
        · simp at h; subst h; omega)
      rw [take_next hp, List.map_append] at this
      exact this

theorem Ins.put {l m m' : List PObj} {o : PObj} (h : Ins l m o) (hp : Put l m' o) (ha : m'.Pairwise fun a b => a.at_ < b.at_) : m = m' := by
  obtain ⟨A, B, rfl, rfl, h1, h2⟩ := h
  obtain ⟨A', B', e, rfl⟩ := hp
  rw [List.pairwise_append] at ha
  obtain ⟨_, hb, hab⟩ := ha
  rw [List.pairwise_cons] at hb
  rcases List.append_eq_append_iff.1 e with ⟨C, rfl, rfl⟩ | ⟨C, rfl, rfl⟩
  · cases C with
    | nil => simp
    | cons x C =>
      have := hab x (by simp) o (by simp)
      have := h2 x rfl
      omega
  · cases C with
    | nil => simp
    | cons x C =>
      have := hb.1 x (by simp)
      have := h1 x (by simp)
      omega

theorem free_f (c : Int) (l : List PObj) (hl : l.length ≤ 100000) (ad : Int) : ∃ k, hackamoreref32_Free.f k c (l.map toS) ad =
    some (c, (l.filter fun o => decide ((o.at_ : Int) ≠ ad)).map toS, if (l.filter fun o => decide ((o.at_ : Int) ≠ ad)).length = l.length then 5 else 0) := by
  suffices H : ∀ d i, i + d = l.length → hackamoreref32_Free.l0 (d + 1) ad (((l.take i).filter fun o => decide ((o.at_ : Int) ≠ ad)).map toS) (i : Int) c (l.map toS) =
      some (c, (l.filter fun o => decide ((o.at_ : Int) ≠ ad)).map toS, if (l.filter fun o => decide ((o.at_ : Int) ≠ ad)).length = l.length then 5 else 0) by
    have h := H l.length 0 (by omega)
    rw [show ((0 : Nat) : Int) = 0 from rfl, List.take_zero, List.filter_nil, List.map_nil] at h
    exact ⟨l.length + 1, by unfold hackamoreref32_Free.f; exact h⟩
  intro d
  induction d with
  | zero =>
    intro i hi
    unfold hackamoreref32_Free.l0
    rw [if_neg (by simp; omega), List.take_of_length_le (by omega)]
    by_cases e : (l.filter fun o => decide ((o.at_ : Int) ≠ ad)).length = l.length
    · rw [if_pos (by simp only [List.length_map]; omega), if_pos e]
      rw [List.length_filter_eq_length_iff] at e
      rw [List.filter_eq_self.2 e]
    · rw [if_neg (by simp only [List.length_map]; omega), if_neg e]
  | succ d ih =>
    intro i hi
    obtain ⟨p, hp⟩ : ∃ p, l[i]? = some p := ⟨l[i]'(by omega), by simp⟩
    have hlen : ((l.take i).filter fun o => decide ((o.at_ : Int) ≠ ad)).length ≤ 100000 := Nat.le_trans (List.length_filter_le _ _) (by simp; omega)
    have hn := ih (i + 1) (by omega)
    unfold hackamoreref32_Free.l0
    rw [if_pos (by simp; omega), if_pos (by omega), S_eta hp, rd0 hp, wrap_next i (by omega)]
    rw [take_next hp, List.filter_append] at hn
    by_cases e : (p.at_ : Int) = ad
    · rw [if_pos e]
      have e1 : [p].filter (fun o => decide ((o.at_ : Int) ≠ ad)) = [] := by simp [e]
      rw [e1, List.append_nil] at hn
      exact hn
    · rw [if_neg e, if_pos (by simp only [List.length_map]; omega)]
      have e1 : [p].filter (fun o => decide ((o.at_ : Int) ≠ ad)) = [p] := by simp [e]
      rw [e1, List.map_append] at hn
      exact hn

def lies (ad : Int) (o : PObj) : Prop := (o.at_ : Int) ≤ ad ∧ ad < o.at_ + o.size

theorem find_f (c : Int) (l : List PObj) (hf : Fit l) (ha : Apart l) (ad : Int) : ∃ k r, hackamoreref32_Find.f k c (l.map toS) ad = some r ∧
    ((∃ (i : Nat) (o : PObj), l[i]? = some o ∧ lies ad o ∧ r = ((i : Int), 0)) ∨ ((∀ o ∈ l, ¬ lies ad o) ∧ r = (0, 5))) := by
  obtain ⟨k, r, h, h'⟩ := holder_f c l hf ad
  refine ⟨k, ?_⟩
  unfold hackamoreref32_Find.f
  rw [h, Option.bind_some]
  rcases h' with ⟨i, o, hi, hh, rfl⟩ | ⟨hn, rfl⟩
  · have hlt := (List.getElem?_eq_some_iff.1 hi).1
    obtain ⟨ok, hin⟩ := hf.2 o (List.mem_of_getElem? hi)
    rw [if_neg (by omega), if_pos (by omega), if_pos (by simp; omega), rd0 hi, rd1 hi]
    have ep := ok.pos
    have el := ok.le
    have ew : wrap64 ((o.at_ : Int) + o.size) = o.at_ + o.size := by unfold wrap64; omega
    rw [ew]
    by_cases hs : ad < o.at_ + o.size
    · rw [if_neg (by omega)]
      exact ⟨_, rfl, .inl ⟨i, o, hi, ⟨hh.1, hs⟩, rfl⟩⟩
    · rw [if_pos (by omega)]
      refine ⟨_, rfl, .inr ⟨fun p hp hip => ?_, rfl⟩⟩
      obtain ⟨okp, _⟩ := hf.2 p hp
      have := okp.fit
      by_cases e : o = p
      · subst e; exact hs hip.2
      · obtain ⟨a1, a2⟩ := hip
        obtain ⟨b1, b2⟩ := hh
        rcases pair_any ha (List.mem_of_getElem? hi) hp e with h | h <;> omega
  · rw [if_pos (by omega)]
    exact ⟨_, rfl, .inr ⟨fun p hp hip => hn p hp ⟨hip.1, by have := (hf.2 p hp).1.fit; have := hip.2; omega⟩, rfl⟩⟩

theorem mark_f (c : Int) (l : List PObj) (hf : Fit l) (ha : Apart l) (ad : Int) : ∃ k r, hackamoreref32_Mark.f k c (l.map toS) ad = some r ∧
    ((∃ (i : Nat) (o : PObj), l[i]? = some o ∧ lies ad o ∧ r = (c, (l.set i { o with marked := true }).map toS, !o.marked, 0)) ∨ ((∀ o ∈ l, ¬ lies ad o) ∧ r = (c, l.map toS, false, 5))) := by
  obtain ⟨k, r, h, h'⟩ := find_f c l hf ha ad
  refine ⟨k, ?_⟩
  have hl := hf.1
  unfold hackamoreref32_Mark.f
  rw [h, Option.bind_some]
  rcases h' with ⟨i, o, hi, hh, rfl⟩ | ⟨hn, rfl⟩
  · have hlt := (List.getElem?_eq_some_iff.1 hi).1
    rw [if_pos rfl, if_pos (by simp), if_pos (by simp; omega), Option.bind_some, if_pos (by simp; omega), Option.bind_some, List.nil_append, if_pos (by simp; omega)]
    refine ⟨_, rfl, .inl ⟨i, o, hi, hh, ?_⟩⟩
    simp only [Int.toNat_natCast]
    rw [rd0 hi, rd1 hi, rd2 hi, List.map_set]
    rfl
  · rw [if_neg (by simp)]
    exact ⟨_, rfl, .inr ⟨hn, rfl⟩⟩

theorem used_f (c : Int) (l : List PObj) (hf : Fit l) : ∃ k, hackamoreref32_Used.f k c (l.map toS) = some ((l.length : Int), sumSize l, sumRoom l) := by
  suffices H : ∀ d i, i + d = l.length → 0 ≤ sumSize (l.take i) → sumSize (l.take i) ≤ i * 262144 → 0 ≤ sumRoom (l.take i) → sumRoom (l.take i) ≤ i * 262144 →
      hackamoreref32_Used.l0 (d + 9) (sumSize (l.take i)) (sumRoom (l.take i)) (i : Int) c (l.map toS) = some ((l.length : Int), sumSize l, sumRoom l) by
    have h := H l.length 0 (by omega) (by simp [sumSize]) (by simp [sumSize]) (by simp [sumRoom]) (by simp [sumRoom])
    rw [show ((0 : Nat) : Int) = 0 from rfl, List.take_zero, show sumSize [] = 0 from rfl, show sumRoom [] = 0 from rfl] at h
    exact ⟨l.length + 9, by unfold hackamoreref32_Used.f; exact h⟩
  intro d
  induction d with
  | zero =>
    intro i hi _ _ _ _
    unfold hackamoreref32_Used.l0
    rw [if_neg (by simp; omega), List.take_of_length_le (by omega), List.length_map]
  | succ d ih =>
    intro i hi h1 h2 h3 h4
    obtain ⟨p, hp⟩ : ∃ p, l[i]? = some p := ⟨l[i]'(by omega), by simp⟩
    obtain ⟨ok, hin⟩ := hf.2 p (List.mem_of_getElem? hp)
    have hl := hf.1
    have ep := ok.pos
    have el := ok.le
    have e1 : sumSize (l.take (i + 1)) = sumSize (l.take i) + p.size := by rw [take_next hp]; simp [sumSize]
    have e2 : sumRoom (l.take (i + 1)) = sumRoom (l.take i) + p.room := by rw [take_next hp]; simp [sumRoom]
    rw [show d + 1 + 9 = (d + 9) + 1 by omega]
    unfold hackamoreref32_Used.l0
    rw [if_pos (by simp; omega), if_pos (by omega), rd1 hp, rroom_f p.size ok.pos ok.le (by omega), Option.bind_some, wrap_next i (by omega), ← ok.room]
    have w1 : wrap64 (sumSize (l.take i) + p.size) = sumSize (l.take (i + 1)) := by rw [e1]; unfold wrap64; omega
    have w2 : wrap64 (sumRoom (l.take i) + p.room) = sumRoom (l.take (i + 1)) := by rw [e2]; unfold wrap64; omega
    rw [w1, w2]
    exact ih (i + 1) (by omega) (by omega) (by omega) (by omega) (by omega)
end Go.Proofs.YtdgfnlagbdmniaaDoor.Pl
