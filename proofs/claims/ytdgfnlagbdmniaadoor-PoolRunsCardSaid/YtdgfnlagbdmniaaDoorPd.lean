/- The pool: Map. -/
import Derived.Test.YtdgfnlagbdmniaaDoorPc
import Derived.OwnWalk
import Derived.Lib.SlBytesConst
namespace Go.Proofs.YtdgfnlagbdmniaaDoor.Pl
open Go.RowKit

theorem info5 : (Tryd.prog.info? 5).map (fun i => (i.zero, i.size, i.bytes)) = some (some (.int .u8 0), 1, 1) := by kernel_rfl

theorem toArr (b : Nat) (w : World) : (Instr.arrayAt 77 (.slice (some ⟨b, 0, none⟩) 5 5)).run Tryd.prog w = .ok (.pointer (some ⟨b, 0, none⟩)) w := by
  simp [Instr.arrayAt, run_underlying Tryd.underlying77]

theorem cell_mark (w : World) (C : Array Value) (T : TypeId) (f : Nat × Nat) (j : Nat) : (w.alloc (.cells C T f)).cell? ⟨w.heap.size, j, none⟩ = C[j]? := by
  have : (w.alloc (.cells C T f)).heap[w.heap.size]? = some (.cells C T f) := by
    show (w.heap.push _)[_]? = _
    simp
  exact cell_blk this j


def ch (c : Chunk) : Nat := if c.what = 1 then 48 + c.cls else if c.what = 0 then 46 else if c.what = 2 then 76 else 108
def chars (cs : List Chunk) : List Value := cs.map fun c => .int .u8 (ch c)

theorem chars_snoc (cs : List Chunk) (k : Nat) (c : Chunk) (h : cs[k]? = some c) : chars (cs.take (k + 1)) = chars (cs.take k) ++ [.int .u8 (ch c)] := by
  have hlt := (List.getElem?_eq_some_iff.1 h).1
  have e := (List.getElem?_eq_some_iff.1 h).2
  rw [List.take_succ_eq_append_getElem hlt, chars, chars, List.map_append, e]; rfl

def digits : List Value := [.int .u8 48, .int .u8 49, .int .u8 50, .int .u8 51, .int .u8 52]
theorem digits_get (k : Nat) (hk : k ≤ 4) : digits[k]? = some (.int .u8 ((48 + k : Nat) : Int)) := by
  obtain rfl | rfl | rfl | rfl | rfl : k = 0 ∨ k = 1 ∨ k = 2 ∨ k = 3 ∨ k = 4 := by omega
  all_goals rfl


theorem idx0 (w : World) : (Instr.index 78 (.agg #[.int .u8 46, .int .u8 0, .int .u8 76, .int .u8 108]) (.int .i64 0)).run Tryd.prog w = .ok (.int .u8 46) w := by kernel_rfl
theorem idx2 (w : World) : (Instr.index 78 (.agg #[.int .u8 46, .int .u8 0, .int .u8 76, .int .u8 108]) (.int .i64 2)).run Tryd.prog w = .ok (.int .u8 76) w := by kernel_rfl
theorem idx3 (w : World) : (Instr.index 78 (.agg #[.int .u8 46, .int .u8 0, .int .u8 76, .int .u8 108]) (.int .i64 3)).run Tryd.prog w = .ok (.int .u8 108) w := by kernel_rfl
theorem idx78 (c : Chunk) (h : c.what ≤ 3) (h1 : c.what ≠ 1) (w : World) :
    (Instr.index 78 (.agg #[.int .u8 46, .int .u8 0, .int .u8 76, .int .u8 108]) (.int .i64 c.what)).run Tryd.prog w = .ok (.int .u8 (ch c)) w := by
  unfold ch
  obtain e | e | e : c.what = 0 ∨ c.what = 2 ∨ c.what = 3 := by omega
  · rw [e]; exact idx0 w
  · rw [e]; exact idx2 w
  · rw [e]; exact idx3 w

def mapStr (cs : List Chunk) : ByteArray := ⟨(cs.map fun c => UInt8.ofNat (ch c)).toArray⟩

theorem foldl_push (ns : List Int) : ∀ s : ByteArray, ns.foldl (fun r n => r.push (UInt8.ofNat n.toNat)) s = ⟨s.data ++ (ns.map fun n => UInt8.ofNat n.toNat).toArray⟩ := by
  induction ns with
  | nil => intro s; cases s; simp
  | cons n ns ih =>
    intro s
    rw [List.foldl_cons, ih]
    simp [ByteArray.push]

theorem map_string {w : World} {B : Nat} {v : Value} {n : Nat} (cs : List Chunk) (h : w.ownsRow B 5 1 v n (chars cs)) : (convert 76 9 v).run Tryd.prog w = .ok (.string (mapStr cs)) w := by
  have hn : cs.length = n := by have := h.1; simpa [chars] using this
  rcases h.2 with ⟨rfl, h0⟩ | ⟨g, cap, cur, rfl, hg⟩
  · obtain rfl : cs = [] := List.eq_nil_of_length_eq_zero (by omega)
    rw [run_convert_bytes_string w 76 9 5 none 0 0 Tryd.underlying76 Tryd.underlying5 Tryd.underlying9]; rfl
  · have hl : (loadCells ⟨g, 0, none⟩ n).run Tryd.prog w = .ok ((cs.map fun c => ((ch c : Nat) : Int)).map (Value.int .u8)).toArray w := by
      have := run_loadCells_list (P := Tryd.prog) w ⟨g, 0, none⟩ (chars cs) (h.cells rfl)
      rw [show (chars cs).length = n by simp [chars, hn]] at this
      rw [this]; simp [chars, Function.comp_def]
    rw [run_convert_bytes_string w 76 9 5 _ n cap Tryd.underlying76 Tryd.underlying5 Tryd.underlying9, run_bytesToString w _ n cap _ hl, foldl_push]
    simp [mapStr, Function.comp_def, ByteArray.empty, ByteArray.emptyWithCapacity]
    rfl

set_option maxRecDepth 100000 in
set_option maxHeartbeats 1000000 in
theorem map_walk {w : World} {a b : Nat} {cs : List Chunk} (h : At w a b cs) (hwf : ∀ c ∈ cs, c.what ≤ 3 ∧ c.cls ≤ 4) :
    Calls Tryd.prog 13 #[.pointer (some ⟨a, 0, none⟩)] w fun e w' => e = .returned (.string (mapStr cs)) ∧ Below w.heap.size w w' := by
  have hp := h.cell_p
  have hfew := h.few
  have hb' := h.lt_b
  have ha' := h.lt_a
  obtain ⟨i0, hi, hz0, hz1, hz2⟩ := info_parts info5
  have HI := Lib.hid hi; clear hi
  have HZ0 := Lib.hid hz0; clear hz0
  have HZ1 := Lib.hid hz1; clear hz1
  have HZ2 := Lib.hid hz2; clear hz2
  have h76 := fun (w : World) (C : Array Value) (n c : Nat) => Lib.run_convert_bytes_const (P := Tryd.prog) w 76 5 C n c Tryd.underlying76 Tryd.underlying5
  have h77 := toArr
  have hmk := cell_mark
  have HA := Lib.hid h; clear h
  have HW := Lib.hid hwf; clear hwf
  generalize hN : cs.length = N at *
  have HN := Lib.hid hN; clear hN
  go_enter Tryd.func13, Tryd.ntmps13
  go_wp2_with fail
  clear h76 h77 hmk
  obtain ⟨W0, hW0⟩ : ∃ W0, W0 = (w.alloc (Obj.cells #[Value.int IntKind.u8 48, Value.int IntKind.u8 49, Value.int IntKind.u8 50, Value.int IntKind.u8 51, Value.int IntKind.u8 52] 5 (5, 6))).alloc
      (Obj.cells #[Value.int IntKind.u8 48, Value.int IntKind.u8 49, Value.int IntKind.u8 50, Value.int IntKind.u8 51, Value.int IntKind.u8 52] 77) := ⟨_, rfl⟩
  rw [← hW0]
  have HA0 : Hid (At W0 a b cs) := by rw [hW0]; exact (HA.out.alloc _).alloc _
  have HB0 : Hid (Below w.heap.size w W0) := by rw [hW0]; exact ((Below.refl _ _).alloc (Nat.le_refl _) _).alloc (by simp) _
  have hsz : W0.heap.size = w.heap.size + 2 := by rw [hW0]; simp
  have HD : Hid (W0.heap[w.heap.size + 1]? = some (.cells digits.toArray 77 (0, 0))) := by
    rw [hW0]
    show ((w.heap.push _).push _)[_]? = _
    rw [Array.getElem?_push, if_pos (by simp)]; rfl
  have HSZ := Lib.hid hsz; clear hsz hW0
  clear hp
  go_loopw [3, 18] (fun v i wr => ∃ k : Nat, k ≤ N ∧ i = .int .i64 k ∧ wr.ownsRow W0.heap.size 5 1 v k (chars (cs.take k)) ∧ Below W0.heap.size W0 wr) (fun _ i _ => N - (intOf i).toNat)
  case atStart => exact ⟨0, by omega, rfl, World.ownsRow_nil _ _ _ _, Below.refl _ _⟩
  case round =>
    obtain ⟨k, hk, rfl, hown, hbel⟩ := hrel
    have HAr : Hid (At wr a b cs) := HA0.out.below hbel (HA0.out.lt_a) (HA0.out.lt_b)
    have hp := HAr.out.cell_p
    rw [HN.out] at hp
    have HOWN := Lib.hid hown; clear hown
    have HBEL := Lib.hid hbel; clear hbel
    by_cases hlt : k < N
    · obtain ⟨c, hc⟩ : ∃ c, cs[k]? = some c := ⟨cs[k]'(by rw [HN.out]; exact hlt), by simp⟩
      have hcw := HAr.out.what hc
      have hcc := HAr.out.cls hc
      have HS := Lib.hid (chars_snoc cs k c hc)
      obtain ⟨h3, h4⟩ := HW.out c (List.mem_of_getElem? hc)
      clear hc
      by_cases h1 : c.what = 1
      · have e1 : ((c.what : Int) == 1) = true := by simp; omega
        have HC : Hid (ch c = 48 + c.cls) := by show _ = _; simp [ch, h1]
        have hdig : wr.cell? ⟨w.heap.size + 1, c.cls, none⟩ = some (.int .u8 ((48 + c.cls : Nat) : Int)) := by
          rw [HBEL.out.cell (p := ⟨w.heap.size + 1, c.cls, none⟩) (by rw [HSZ.out]; exact Nat.lt_succ_self _), cell_blk HD.out, List.getElem?_toArray, digits_get _ h4]
        rw [← HC.out] at hdig
        clear h1
        generalize ch c = X at *
        go_wp2_with (at_builtin; refine wpList_append_own _ rfl _ _ 76 rfl W0.heap.size 5 i0 (.int .u8 0) 1 1 Tryd.underlying76 HI.out HZ0.out HZ1.out HZ2.out rfl (by decide) _ _ _ rfl (HOWN.out.alloc _) ⟨wr.heap.size, 0, none⟩ 1 1 [.int .u8 X] rfl rfl ?c1a ?c2a ?c3a ?c4a ?c5a ?_)
        case c1a => exact cell_one_new _ _ _
        case c2a => simp [Value.oneCell']
        case c3a => unfold maxLen; omega
        case c4a => omega
        case c5a => have := HBEL.out.size; simp; omega
        intro v1 w1 hown1 hgr _
        rw [← HS.out] at hown1
        have HO1 := Lib.hid hown1; clear hown1
        have HB1 : Hid (Below W0.heap.size W0 w1) := (HBEL.out.alloc HBEL.out.size _).grown hgr (by have := HBEL.out.size; simp; omega) (fun k hk => (HOWN.out.lt k hk).1)
        clear hgr
        go_wp2
        go_roundw
        case rel => exact ⟨k + 1, by omega, by go_num, HO1.out, HB1.out⟩
        case measure => simp [intOf]; omega
      · have e1 : ((c.what : Int) == 1) = false := by simp; omega
        have hidx := idx78 c h3 h1
        clear h1
        generalize ch c = X at *
        go_wp2_with (at_builtin; refine wpList_append_own _ rfl _ _ 76 rfl W0.heap.size 5 i0 (.int .u8 0) 1 1 Tryd.underlying76 HI.out HZ0.out HZ1.out HZ2.out rfl (by decide) _ _ _ rfl (HOWN.out.alloc _) ⟨wr.heap.size, 0, none⟩ 1 1 [.int .u8 X] rfl rfl ?c1b ?c2b ?c3b ?c4b ?c5b ?_)
        case c1b => exact cell_one_new _ _ _
        case c2b => simp [Value.oneCell']
        case c3b => unfold maxLen; omega
        case c4b => omega
        case c5b => have := HBEL.out.size; simp; omega
        intro v1 w1 hown1 hgr _
        rw [← HS.out] at hown1
        have HO1 := Lib.hid hown1; clear hown1
        have HB1 : Hid (Below W0.heap.size W0 w1) := (HBEL.out.alloc HBEL.out.size _).grown hgr (by have := HBEL.out.size; simp; omega) (fun k hk => (HOWN.out.lt k hk).1)
        clear hgr
        go_wp2
        go_roundw
        case rel => exact ⟨k + 1, by omega, by go_num, HO1.out, HB1.out⟩
        case measure => simp [intOf]; omega
    · obtain rfl : k = N := by omega
      have hstr := map_string (cs.take k) HOWN.out
      rw [List.take_of_length_le (by rw [HN.out]; exact Nat.le_refl _)] at hstr
      go_wp2
      go_ret
      exact ⟨rfl, HB0.out.trans (HBEL.out.mono (by rw [HSZ.out]; omega))⟩

set_option maxRecDepth 100000 in
theorem map_nil (w : World) : Calls Tryd.prog 13 #[.pointer none] w fun e w' => e = .returned (.string ⟨#[]⟩) ∧ w = w' := by
  go_enter Tryd.func13, Tryd.ntmps13
  go_wp2_with fail
  go_ret
  exact ⟨rfl, rfl⟩

end Go.Proofs.YtdgfnlagbdmniaaDoor.Pl
