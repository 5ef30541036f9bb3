/- Parts Ul, Um of the proof. -/
import Derived.Conc.SmallLaws
import Derived.Conc.TokenAlone
import Derived.Test.YtgbafpjeapkklaaG0
import Derived.Test.YtgbafpjeapkklaaG5
namespace Go.Proofs.Ytgbafpjeapkklaa.Mb
open Go.Conc Go.RowKit
set_option linter.unusedVariables false
set_option linter.unusedSimpArgs false
theorem wpList_len_run {P : Program} (w : World) {ops : Array Oper} {rest : List Oper} {o : Oper} {a : Act} {Q : Exit → Act → World → Prop} (hgd : o.guard = none) (s : Operand) (t : TypeId)
    (ho : o.op = .call { callee := .builtin .len, args := #[s], argTypes := #[t] }) (vs : Value) (hs : a.eval s = vs) (v' : Value) (w' : World) (hr : (Builtin.len_ #[t] o.type #[vs]).run P w = .ok v' w') (h : wpList P ops Q rest (a.put o.dst v') w') : wpList P ops Q (o :: rest) a w :=
  wpList_plain hgd fun _ hK => by
    unfold Oper.wp execOp
    simp only [ho, resolve, invoke, builtin, Sem.run_bind, Sem.run_pure, Result.andThen_ok, List.map_toArray, List.map_cons, List.map_nil, hs, hr]
    exact hK _ _ h
theorem wpList_mk_run {P : Program} (w : World) {ops : Array Oper} {rest : List Oper} {o : Oper} {a : Act} {Q : Exit → Act → World → Prop} (hgd : o.guard = none) (s : Operand) (t : TypeId)
    (ho : o.op = .makeChan t s) (vs : Value) (hs : a.eval s = vs) (v' : Value) (w' : World) (hr : (Instr.makeChan t vs).run P w = .ok v' w') (h : wpList P ops Q rest (a.put o.dst v') w') : wpList P ops Q (o :: rest) a w :=
  wpList_plain hgd fun _ hK => by
    unfold Oper.wp execOp
    simp only [ho, Sem.run_bind, Sem.run_pure, Result.andThen_ok, hs, hr]
    exact hK _ _ h
theorem bytes3 : ∃ i, Try.prog.info? 3 = some i ∧ i.bytes = 8 := by
  have h : (Try.prog.info? 3).map (·.bytes) = some 8 := by kernel_rfl
  obtain ⟨i, hi, hb⟩ := Option.map_eq_some_iff.1 h
  exact ⟨i, hi, hb⟩
theorem mk1000 (w : World) (n : Nat) (hn : n ≤ 1000) : (Instr.makeChan 84 (.int .i64 n)).run Try.prog w = .ok (.chan (some w.heap.size)) (w.alloc (.chan n #[] false 0 0 false)) := by
  obtain ⟨i, hi, hb⟩ := bytes3
  simpa using run_makeChan (P := Try.prog) (w := w) Try.underlying84 hi .i64 n (by omega) (by rw [hb]; omega)
theorem len_nil (w : World) : Calls Try.prog 38 #[.pointer none] w fun e w' => e = .returned (.int .i64 0) ∧ w' = w := by
  go_enter Try.func38, Try.ntmps38
  go_wp2_with fail
  go_ret
  exact ⟨rfl, by first | rfl | trivial⟩
theorem takeB_nil (w : World) : Calls Try.prog 30 #[.pointer none] w fun e w' => e = .returned (.tuple #[.int .i64 0, .bool false]) ∧ w' = w := by
  go_enter Try.func30, Try.ntmps30
  go_wp2_with fail
  refine bodyPost_ret (v := .tuple #[.int .i64 0, .bool false]) (by simp [results, Try.results30, go_sem]) rfl ⟨rfl, by first | rfl | trivial⟩
theorem takeB_none {p c cap s r : Nat} (w : World) (hp : w.cell? ⟨p, 0, none⟩ = some (.chan (some c))) (hc : w.heap[c]? = some (.chan cap #[] false s r false)) :
    Calls Try.prog 30 #[.pointer (some ⟨p, 0, none⟩)] w fun e w' => e = .returned (.tuple #[.int .i64 0, .bool false]) ∧ w' = w := by
  have HC := Lib.hid hc
  clear hc
  go_enter Try.func30, Try.ntmps30
  go_wp2_with fail
  refine (take_none w HC.out).mono ?_
  rintro e w' ⟨rfl, rfl⟩
  go_wp2_with fail
  refine bodyPost_ret (v := .tuple #[.int .i64 0, .bool false]) (by simp [results, Try.results30, go_sem]) rfl ⟨rfl, by first | rfl | trivial⟩
theorem takeB_some {p c cap s r : Nat} {x : Int} {l : List Int} (w : World) (hp : w.cell? ⟨p, 0, none⟩ = some (.chan (some c))) (hc : w.heap[c]? = some (.chan cap ((x :: l).map (Value.int .i64)).toArray false s r false)) :
    Calls Try.prog 30 #[.pointer (some ⟨p, 0, none⟩)] w fun e w' => e = .returned (.tuple #[.int .i64 x, .bool true]) ∧ w' = w.setChan c cap (l.map (Value.int .i64)).toArray false s (r + 1) false := by
  have HC := Lib.hid hc
  clear hc
  go_enter Try.func30, Try.ntmps30
  go_wp2_with fail
  refine (take_some w HC.out).mono ?_
  rintro e w' ⟨rfl, hw⟩
  have HW := Lib.hid hw
  clear hw hp
  go_wp2_with fail
  refine bodyPost_ret (v := .tuple #[.int .i64 x, .bool true]) (by simp [results, Try.results30, go_sem]) rfl ⟨rfl, HW.out⟩
theorem len_some {p c cap s r : Nat} {l : List Int} (w : World) (hp : w.cell? ⟨p, 0, none⟩ = some (.chan (some c))) (hc : w.heap[c]? = some (.chan cap (l.map (Value.int .i64)).toArray false s r false)) :
    Calls Try.prog 38 #[.pointer (some ⟨p, 0, none⟩)] w fun e w' => e = .returned (.int .i64 l.length) ∧ w' = w := by
  have HL : Hid ((Builtin.len_ #[84] 3 #[.chan (some c)]).run Try.prog w = .ok (.int .i64 l.length) w) := by
    have := run_len_chan (P := Try.prog) (w := w) 84 3 Try.underlying84 hc
    show _ = _
    rw [this]
    simp [goInt]
  clear hc
  go_enter Try.func38, Try.ntmps38
  go_wp2_with (refine wpList_len_run _ rfl _ _ rfl (.chan (some c)) rfl _ _ HL.out ?_)
  go_ret
  exact ⟨rfl, by first | rfl | trivial⟩
theorem newB_no {n : Int} (w : World) (hn : n < 1 ∨ 1000 < n) : Calls Try.prog 24 #[.int .i64 n] w fun e w' => e = .returned (.tuple #[.pointer none, .int .i64 1]) ∧ w' = w := by
  by_cases h1 : n < 1
  · have t1 : decide (n < 1) = true := decide_eq_true h1
    go_enter Try.func24, Try.ntmps24
    go_wp2_with fail
    refine bodyPost_ret (v := .tuple #[.pointer none, .int .i64 1]) (by simp [results, Try.results24, go_sem]) rfl ⟨rfl, by first | rfl | trivial⟩
  · have t1 : decide (n < 1) = false := decide_eq_false h1
    have t2 : decide (1000 < n) = true := decide_eq_true (by omega)
    go_enter Try.func24, Try.ntmps24
    go_wp2_with fail
    refine bodyPost_ret (v := .tuple #[.pointer none, .int .i64 1]) (by simp [results, Try.results24, go_sem]) rfl ⟨rfl, by first | rfl | trivial⟩
set_option maxRecDepth 100000 in
theorem newB_yes {n : Nat} (w : World) (h1 : 1 ≤ n) (h2 : n ≤ 1000) : Calls Try.prog 24 #[.int .i64 n] w fun e w' => e = .returned (.tuple #[.pointer (some ⟨w.heap.size + 1, 0, none⟩), .int .i64 0]) ∧ w' = (w.alloc (.chan n #[] false 0 0 false)).alloc (Obj.cells #[.chan (some w.heap.size)] 86) := by
  have HM := Lib.hid (mk1000 w n h2)
  have t1 : decide ((n : Int) < 1) = false := decide_eq_false (by omega)
  have t2 : decide (1000 < (n : Int)) = false := decide_eq_false (by omega)
  go_enter Try.func24, Try.ntmps24
  go_wp2_with (refine wpList_mk_run _ rfl _ _ rfl (.int .i64 n) rfl _ _ HM.out ?_)
  refine bodyPost_ret (v := .tuple #[.pointer (some ⟨w.heap.size + 1, 0, none⟩), .int .i64 0]) (by simp [results, Try.results24, go_sem]) rfl ⟨rfl, by first | rfl | trivial⟩
end Go.Proofs.Ytgbafpjeapkklaa.Mb
namespace Go.Proofs.Ytgbafpjeapkklaa.Mb
open Go.RowKit
set_option linter.unusedVariables false
set_option linter.unusedSimpArgs false
def chs (l : List Nat) : List Value := l.map fun c => .chan (some c)
theorem eqc (a b : Option Nat) (w : World) : (binOp .eql 84 (.chan a) (.chan b)).run Try.prog w = .ok (.bool (a == b)) w := by
  have h : (Op.equalIn 10000 84 (.chan a) (.chan b)).run Try.prog w = .ok (a == b) w := by
    unfold Op.equalIn
    simp [run_underlying Try.underlying84]
  simp [binOp, Op.equal, go_sem, Op.maxDepth, h]
theorem send_nil (w : World) (n : Int) : Calls Try.prog 29 #[.pointer none, .int .i64 n] w fun e w' => e = .returned (.int .i64 1) ∧ w' = w := by
  go_enter Try.func29, Try.ntmps29
  go_wp2_with fail
  go_ret
  exact ⟨rfl, by first | rfl | trivial⟩
theorem gindex_nil (w : World) (b : Value) (hb : b = .pointer none ∨ ∃ p, b = .pointer (some p)) : Calls Try.prog 36 #[.pointer none, b] w fun e w' => e = .returned (.int .i64 (-1)) ∧ w' = w := by
  rcases hb with rfl | ⟨p, rfl⟩
  · go_enter Try.func36, Try.ntmps36
    go_wp2_with fail
    go_ret
    exact ⟨rfl, by first | rfl | trivial⟩
  · go_enter Try.func36, Try.ntmps36
    go_wp2_with fail
    go_ret
    exact ⟨rfl, by first | rfl | trivial⟩
theorem gindex_bnil (w : World) (G : Nat) : Calls Try.prog 36 #[.pointer (some ⟨G, 0, none⟩), .pointer none] w fun e w' => e = .returned (.int .i64 (-1)) ∧ w' = w := by
  go_enter Try.func36, Try.ntmps36
  go_wp2_with fail
  go_ret
  exact ⟨rfl, by first | rfl | trivial⟩
set_option maxRecDepth 100000 in
set_option maxHeartbeats 4000000 in
theorem gindex {G B p c : Nat} {gv : Value} {l : List Nat} (w : World) (hl : l.length ≤ 64) (hG : w.cell? ⟨G, 0, none⟩ = some gv) (ho : w.ownsRow B 84 1 gv l.length (chs l)) (hp : w.cell? ⟨p, 0, none⟩ = some (.chan (some c))) :
    Calls Try.prog 36 #[.pointer (some ⟨G, 0, none⟩), .pointer (some ⟨p, 0, none⟩)] w fun e w' => e = .returned (.int .i64 (idx (fun x => x == c) l)) ∧ w' = w := by
  obtain ⟨q, cp, rfl⟩ := own1_slice ho
  have HN := Lib.hid hl
  have HO := Lib.hid ho
  have HG := Lib.hid hG
  have HP := Lib.hid hp
  clear ho hl
  have eqn : (binOp .eql 84 (.chan (some c)) (.chan none)).run Try.prog w = .ok (.bool false) w := eqc _ _ _
  go_enter Try.func36, Try.ntmps36
  go_wp2_with fail
  clear hG hp eqn
  go_loopw [25] (fun s wr => wr = w ∧ ∃ k : Nat, k ≤ l.length ∧ s = .int .i64 k ∧ (∀ (j : Nat) (x : Nat), j < k → l[j]? = some x → (x == c) = false)) (fun s _ => l.length - (intOf s).toNat)
  case atStart => exact ⟨rfl, 0, by omega, rfl, fun j o hj => by omega⟩
  case round =>
    obtain ⟨rfl, k, hk, rfl, hno⟩ := hrel
    have HNO := Lib.hid hno; clear hno
    have c1 := HG.out
    have c2 := HP.out
    by_cases hlt : k < l.length
    · have tl : decide ((k : Int) < (l.length : Int)) = true := decide_eq_true (by omega)
      have tl' : (k : Int) < (l.length : Int) := by omega
      obtain ⟨x, hx⟩ : ∃ x, l[k]? = some x := ⟨l[k]'hlt, by simp⟩
      obtain ⟨g2, cp2, e, _, _, ⟨_, hg2⟩, hxs⟩ := own_at HO.out (by omega)
      injection e with e _ e3
      subst e e3
      have c3 : wr.cell? ⟨g2, k, none⟩ = some (.chan (some x)) := hxs k _ (by simp [chs, hx])
      have HX := Lib.hid hx
      clear hx hxs hg2
      cases hn : (x == c) with
      | true =>
        have hany : Hid (idx (fun x => x == c) l = k) := idx_found HX.out hn (fun j y hj hy => HNO.out j y hj hy)
        have hxc : x = c := by simpa using hn
        subst hxc
        clear hn
        have eqt : (binOp .eql 84 (.chan (some x)) (.chan (some x))).run Try.prog wr = .ok (.bool true) wr := by rw [eqc]; simp
        go_wp2_with fail
        go_ret
        exact ⟨by rw [hany.out]; rfl, by first | rfl | trivial⟩
      | false =>
        have HF := Lib.hid hn
        have hne : ¬ x = c := by simpa using hn
        have eqf : (binOp .eql 84 (.chan (some x)) (.chan (some c))).run Try.prog wr = .ok (.bool false) wr := by rw [eqc]; simp [hne]
        clear hn
        go_wp2_with fail
        have ew : wrap64 ((k : Int) + 1) = ((k + 1 : Nat) : Int) := by have := HN.out; unfold wrap64; omega
        rw [ew]
        go_roundw
        case rel =>
          refine ⟨by first | rfl | trivial, k + 1, by omega, rfl, fun j o' hj ho' => ?_⟩
          by_cases e : j = k
          · subst e; rw [HX.out] at ho'; cases ho'; exact HF.out
          · exact HNO.out j o' (by omega) ho'
        case measure => exact meas_lt k l.length hlt
    · have tl : decide ((k : Int) < (l.length : Int)) = false := decide_eq_false (by omega)
      have hany : Hid (idx (fun x => x == c) l = -1) := by
        refine idx_none fun y hy => ?_
        obtain ⟨j, hj, e⟩ := List.getElem_of_mem hy
        exact HNO.out j y (by omega) (by rw [← e]; simp)
      go_wp2_with fail
      go_ret
      exact ⟨by rw [hany.out]; rfl, by first | rfl | trivial⟩
end Go.Proofs.Ytgbafpjeapkklaa.Mb
