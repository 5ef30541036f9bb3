/- PoolRuns: same. -/
import Derived.Test.YtdgfnlagbdmniaaDoorMe
import Derived.Deep.RegionHeld3
namespace Go.Proofs.YtdgfnlagbdmniaaDoor.Pl
open Go.RowKit Go.Proofs.YtdgfnlagbdmniaaDoor.PPoolRuns Go.Proofs.YtdgfnlagbdmniaaDoorW.PrintWords Go.Proofs.YtdgfnlagbdmniaaDoorW.PrintLast Go.Proofs.YtdgfnlagbdmniaaDoorW.PrintMore

/-- A pool, the reference's pool in a box, and what was before. -/
structure ST (w0 : World) (a b : Nat) (cs : List Chunk) (base : Nat) (ok : Nat → Prop) (g : Nat) (v : Value) (W : World) : Prop where
  at_ : At W a b cs
  r : k109.R 109 W base ok v ((objs cs).map toS)
  below : Below w0.heap.size w0 W
  box : W.heap[g]? = some (.cells #[.int .i64 cs.length, v] 57 (0, 0))
theorem ST.step {w0 : World} {a b : Nat} {cs : List Chunk} {base : Nat} {ok : Nat → Prop} {g : Nat} {v : Value} {W W' : World} (h : ST w0 a b cs base ok g v W) (hb : Below W.heap.size W W') : ST w0 a b cs base ok g v W' :=
  ⟨h.at_.below hb h.at_.lt_a h.at_.lt_b, Kd.R_below h.r hb, h.below.trans (hb.mono h.below.size), (hb.block g (blk_lt h.box)).trans h.box⟩

theorem rused_at {cs : List Chunk} (hG : Good cs) (hN : cs.length ≤ 256) {A : Option Addr} {n cap : Nat} {w : World} {base : Nat} {ok : Nat → Prop} (hR : k109.R 109 w base ok (.slice A n cap) ((objs cs).map toS)) (c : Int) :
    Calls Tryd.prog 44 #[.agg #[.int .i64 c, .slice A n cap]] w fun e W' => e = .returned (.tuple #[.int .i64 (objs cs).length, .int .i64 (sumSize (objs cs)), .int .i64 (sumRoom (objs cs))]) ∧ Below w.heap.size w W' := by
  obtain ⟨hl, hc, hC⟩ := Kd.R_reads' hR
  obtain ⟨f, h⟩ := used_f c (objs cs) (good_fit hG hN)
  subst hl
  exact hackamoreref32_Used.calls f c A cap _ _ _ _ w hC hc h

set_option maxRecDepth 100000 in
set_option maxHeartbeats 4000000 in
theorem same_at {cs : List Chunk} (hG : Good cs) (hN : cs.length ≤ 256) {a b : Nat} {w : World} (hA : At w a b cs) {A : Option Addr} {n cap : Nat} {base : Nat} {ok : Nat → Prop} (hR : k109.R 109 w base ok (.slice A n cap) ((objs cs).map toS)) :
    Calls Tryd.prog 27 #[.pointer (some ⟨a, 0, none⟩), .agg #[.int .i64 cs.length, .slice A n cap]] w fun e w' => e = .returned (.bool true) ∧ Below w.heap.size w w' := by
  obtain ⟨g, hg⟩ : ∃ g, g = w.heap.size := ⟨_, rfl⟩
  have HG := Lib.hid hG
  have HSM := Lib.hid (hG.small hN)
  have HFIT := Lib.hid (good_fit hG hN)
  have HL : Hid ((places cs).length ≤ 100000) := by have := (hG.small hN).1; show (places cs).length ≤ 100000; simpa [objs] using this
  have HM : Hid (∀ W, ST w a b cs base ok g (.slice A n cap) W → Calls Tryd.prog 13 #[.pointer (some ⟨a, 0, none⟩)] W fun e W' => e = .returned (.string (mapStr cs)) ∧ ST w a b cs base ok g (.slice A n cap) W') :=
    fun W h => (map_walk h.at_ HG.out.what).mono fun _ _ k => ⟨k.1, h.step k.2⟩
  have HRM : Hid (∀ W, ST w a b cs base ok g (.slice A n cap) W → Calls Tryd.prog 45 #[.agg #[.int .i64 cs.length, .slice A n cap]] W fun e W' => e = .returned (.string (mapStr cs)) ∧ ST w a b cs base ok g (.slice A n cap) W') :=
    fun W h => (rmap_at HG.out hN _ h.r).mono fun _ _ k => ⟨k.1, h.step k.2⟩
  have HOB : Hid (∀ W, ST w a b cs base ok g (.slice A n cap) W → Calls Tryd.prog 15 #[.pointer (some ⟨a, 0, none⟩)] W fun e W' => ∃ v, e = .returned v ∧ ObjS W' v (objs cs) ∧ ST w a b cs base ok g (.slice A n cap) W') :=
    fun W h => (objects_at h.at_ HG.out.rd HL.out).mono fun _ _ k => by
      obtain ⟨v, k1, k2, k3⟩ := k
      exact ⟨v, k1, objS_of k2, h.step k3⟩
  have HEQ : Hid (∀ W v, ST w a b cs base ok g (.slice A n cap) W → ObjS W v (objs cs) → Calls Tryd.prog 42 #[v, .slice A n cap] W fun e W' => e = .returned (.bool true) ∧ ST w a b cs base ok g (.slice A n cap) W') :=
    fun W v h hv => (requal_at (objs cs) HSM.out.1 (fun o ho => (HFIT.out.2 o ho).1) v _ W hv (R_refS h.r)).mono fun _ _ k => ⟨k.1, h.step k.2⟩
  have HUS : Hid (∀ W, ST w a b cs base ok g (.slice A n cap) W → Calls Tryd.prog 12 #[.pointer (some ⟨a, 0, none⟩)] W fun e W' => e = .returned (.tuple #[.int .i64 (objs cs).length, .int .i64 (sumSize (objs cs)), .int .i64 (sumRoom (objs cs))]) ∧ ST w a b cs base ok g (.slice A n cap) W') :=
    fun W h => (used_at h.at_ HG.out.rd HSM.out).mono fun _ _ k => ⟨k.1, h.step k.2⟩
  have HRU : Hid (∀ W, ST w a b cs base ok g (.slice A n cap) W → Calls Tryd.prog 44 #[.agg #[.int .i64 cs.length, .slice A n cap]] W fun e W' => e = .returned (.tuple #[.int .i64 (objs cs).length, .int .i64 (sumSize (objs cs)), .int .i64 (sumRoom (objs cs))]) ∧ ST w a b cs base ok g (.slice A n cap) W') :=
    fun W h => (rused_at HG.out hN h.r _).mono fun _ _ k => ⟨k.1, h.step k.2⟩
  have HBX : Hid (∀ W, ST w a b cs base ok g (.slice A n cap) W → W.cell? ⟨g, 0, none⟩ = some (.int .i64 cs.length) ∧ W.cell? ⟨g, 1, none⟩ = some (.slice A n cap)) :=
    fun W h => ⟨cell_blk h.box 0, cell_blk h.box 1⟩
  have HBL : Hid (∀ W, ST w a b cs base ok g (.slice A n cap) W → Below w.heap.size w W) := fun W h => h.below
  have HS0 : Hid (ST w a b cs base ok g (.slice A n cap) (w.alloc (Obj.cells #[.int .i64 cs.length, .slice A n cap] 57))) := by
    have hb : Below w.heap.size w (w.alloc (Obj.cells #[.int .i64 cs.length, .slice A n cap] 57)) := (Below.refl _ _).alloc (Nat.le_refl _) _
    exact ⟨hA.below hb hA.lt_a hA.lt_b, Kd.R_below hR hb, hb, by rw [hg]; exact (MapKept.heap_alloc _ _).1⟩
  have HDW : Hid (∀ W, ST w a b cs base ok g (.slice A n cap) W → ST w a b cs base ok g (.slice A n cap) W.drew) := fun W h => h.step (below_drewN (Below.refl _ _) 1)
  clear hA hR hG
  generalize ST w a b cs base ok g (.slice A n cap) = P at *
  generalize cs.length = N at *
  generalize mapStr cs = S at *
  generalize sumSize (objs cs) = X1 at *
  generalize sumRoom (objs cs) = X2 at *
  subst hg
  go_enter Tryd.func27, Tryd.ntmps27
  go_wp2_with fail
  generalize w.alloc (Obj.cells #[.int .i64 N, .slice A n cap] 57) = W0 at *
  refine (HUS.out _ HS0.out).mono ?_
  rintro e W1 ⟨rfl, h1⟩
  have HS1 := Lib.hid h1; clear h1
  obtain ⟨p0, p1⟩ := HBX.out _ HS1.out
  go_wp2_with fail
  refine (HRU.out _ HS1.out).mono ?_
  rintro e W2 ⟨rfl, h2⟩
  have HS2 := Lib.hid h2; clear h2 p0 p1
  obtain ⟨p0, p1⟩ := HBX.out _ HS2.out
  generalize (objs cs).length = X0 at *
  go_upto_region 3 with fail
  go_region_held3 (fun W' => W'.cell? ⟨w.heap.size, 0, none⟩ = some (.int .i64 N) ∧ W'.cell? ⟨w.heap.size, 1, none⟩ = some (.slice A n cap) ∧ P W')
    (first | exact ⟨p0, p1, HDW.out _ HS2.out⟩ | (refine ⟨?_, ?_, ?_⟩ <;> assumption))
    (first
      | (go_at_call 13; refine (HM.out _ (‹_ ∧ _ ∧ P _›).2.2).mono ?_; rintro e W' ⟨rfl, h⟩; obtain ⟨_, _⟩ := HBX.out _ h)
      | (go_at_call 45; refine (HRM.out _ (‹_ ∧ _ ∧ P _›).2.2).mono ?_; rintro e W' ⟨rfl, h⟩; obtain ⟨_, _⟩ := HBX.out _ h)
      | (go_at_call 15; refine (HOB.out _ (‹_ ∧ _ ∧ P _›).2.2).mono ?_; rintro e W' ⟨v, rfl, hv, h⟩; obtain ⟨_, _⟩ := HBX.out _ h)
      | (go_at_call 42; refine (HEQ.out _ _ (‹_ ∧ _ ∧ P _›).2.2 (by assumption)).mono ?_; rintro e W' ⟨rfl, h⟩; obtain ⟨_, _⟩ := HBX.out _ h))
  all_goals
    go_wp2
    go_ret
    exact ⟨rfl, HBL.out _ (by assumption)⟩
end Go.Proofs.YtdgfnlagbdmniaaDoor.Pl
