/-
  package journal by walks, first part: what a journal is in memory, and its short functions.
-/
import Derived.Laws.CopyOwn
import Derived.ArgAppend
import Derived.Below
import Derived.BigQuiet
import Derived.Deep.AppendLies
import Derived.Deep.CutBlock
import Derived.Deep.DeepCutAuto
import Derived.Deep.Draws
import Derived.Deep.LoopGhost
import Derived.Deep.OwnRows
import Derived.Deep.QuietTactic
import Derived.Deep.RegionHeld3
import Derived.Deep.WholeRow
import Derived.KernelRfl
import Derived.Laws.BitsLemmas
import Derived.Laws.BytesArg
import Derived.Laws.IdiomCopy
import Derived.Laws.MakeOwn
import Derived.Laws.OwnMore
import Derived.Laws.Rows
import Derived.Laws.Slices
import Derived.Lib.AppendStr
import Derived.Lib.ConvBytes
import Derived.Lib.Hide
import Derived.Maps.AppendAt
import Derived.OrdersHeld
import Derived.Outline
import Derived.OwnWalk
import Derived.RowKit
import Derived.RowKit3
import Derived.Tactics
import Derived.WalkKit
import Derived.WideLaws
import Derived.Test.YtglpelhbncdkmaaProg
import Derived.Test.YtglpelhbncdkmaaWApart
import Derived.Test.YtglpelhbncdkmaaWArr
import Derived.Test.YtglpelhbncdkmaaWAt
import Derived.Test.YtglpelhbncdkmaaWEqStruct
import Derived.Test.YtglpelhbncdkmaaWFoot
import Derived.Test.YtglpelhbncdkmaaWFootNe
import Derived.Test.YtglpelhbncdkmaaWFour
import Derived.Test.YtglpelhbncdkmaaWGuard
import Derived.Test.YtglpelhbncdkmaaWInv
import Derived.Test.YtglpelhbncdkmaaWInvWords
import Derived.Test.YtglpelhbncdkmaaWKept
import Derived.Test.YtglpelhbncdkmaaWLast
import Derived.Test.YtglpelhbncdkmaaWMore
import Derived.Test.YtglpelhbncdkmaaWN
import Derived.Test.YtglpelhbncdkmaaWNEv
import Derived.Test.YtglpelhbncdkmaaWQPut
import Derived.Test.YtglpelhbncdkmaaWRepsOne
import Derived.Test.YtglpelhbncdkmaaWShare
import Derived.Test.YtglpelhbncdkmaaWTab
import Derived.Test.YtglpelhbncdkmaaWWords
import Derived.Test.YtglpelhbncdkmaaWZeros
import Derived.Test.YtglpelhbncdkmaaXSlices

import Derived.Test.YtglpelhbncdkmaaXDiskAny
namespace Go.Proofs.Ytglpelhbncdkmaa.XJour
open Go.RowKit Go.Proofs.YtglpelhbncdkmaaW.PrintWords Go.Proofs.YtglpelhbncdkmaaW.PrintLast Go.Proofs.YtglpelhbncdkmaaW.PrintMore XDisk
set_option linter.unusedVariables false
set_option linter.unusedSimpArgs false
/-! ### what a journal is -/
structure Jr where
  slot : Int
  place : Int
  epoch : Int
  seq : Int
  next : Int
  op : Bool
  down : Bool
def JrAt (base : Nat) (w : World) (gj g : Nat) (j : Jr) : Prop :=
  w.heap[gj]? = some (.cells #[.pointer (some ⟨g, 0, none⟩), .int .i64 j.slot, .int .i64 j.place, .int .i64 j.epoch, .int .i64 j.seq, .int .i64 j.next, .bool j.op, .bool j.down] 55 (0, 0)) ∧ base ≤ gj
def jT (q : Nat) : Prop := dT q ∨ q = 55
/-- Nothing below base is written, and elsewhere blocks of a disk's types, and journals, alone. -/
structure KeepJ (base : Nat) (w w' : World) : Prop where
  os : w'.os = w.os
  tape : w'.tape = w.tape
  output : w'.output = w.output
  size : w.heap.size ≤ w'.heap.size
  block : ∀ i, i < w.heap.size → (i < base ∨ ∀ cells q, w.heap[i]? = some (.cells cells q (0, 0)) → ¬ jT q) → w'.heap[i]? = w.heap[i]?
theorem KeepJ.refl (base : Nat) (w : World) : KeepJ base w w := ⟨rfl, rfl, rfl, Nat.le_refl _, fun _ _ _ => rfl⟩
theorem KeepJ.trans {base : Nat} {w w1 w2 : World} (h : KeepJ base w w1) (k : KeepJ base w1 w2) : KeepJ base w w2 :=
  ⟨k.os.trans h.os, k.tape.trans h.tape, k.output.trans h.output, Nat.le_trans h.size k.size, fun i hi hc => by
    have e := h.block i hi hc
    exact (k.block i (Nat.lt_of_lt_of_le hi h.size) (hc.imp_right (fun hh cells q hq => hh cells q (e ▸ hq)))).trans e⟩
theorem KeepJ.of_keep {base : Nat} {w w' : World} (h : KeepD base w w') : KeepJ base w w' := ⟨h.os, h.tape, h.output, h.size, fun i hi hc => h.block i hi (hc.imp_right (fun hh cells q hq hd => hh cells q hq (.inl hd)))⟩
theorem KeepJ.of_below {base : Nat} {w w' : World} (h : Below w.heap.size w w') : KeepJ base w w' := .of_keep (KeepD.of_below h)
theorem KeepJ.set_ {base : Nat} {w : World} {g : Nat} {cells : Array Value} {q : Nat} (hg : w.heap[g]? = some (.cells cells q (0, 0))) (hq : jT q) (hb : base ≤ g) (j : Nat) (u : Value) : KeepJ base w (w.setCell ⟨g, j, none⟩ u) :=
  ⟨rfl, rfl, rfl, by simp, fun i hi hc => Below.heap_setCell w _ u i (fun e => by
    subst e
    rcases hc with hc | hc
    · exact absurd hb (Nat.not_le.2 hc)
    · exact hc cells q hg hq)⟩
theorem below_keepJ {base : Nat} {w0 w w' : World} (h : Below base w0 w) (hb : base ≤ w.heap.size) (k : KeepJ base w w') : Below base w0 w' :=
  h.trans ⟨k.os, k.tape, k.output, k.size, fun i hi => k.block i (Nat.lt_of_lt_of_le hi hb) (.inl hi)⟩
theorem R_keepJ {α : Type} {d : Kd α} {e base base' : Nat} {w w' : World} {ok : Nat → Prop} {v : Value} {xs : List α} (h : d.R e w base' ok v xs) (he : ∀ q, q ∈ e :: d.E → ¬ jT q) (k : KeepJ base w w') : d.R e w' base' ok v xs :=
  Kd.R_mono (Kd.R_move (Kd.R_bound h) (fun i hi => by
    obtain ⟨-, -, h4, q, hq, cells, hc⟩ := hi
    exact k.block i h4 (.inr (fun cells' q' hc' => by rw [hc] at hc'; injection hc' with hc'; injection hc' with _ h5 _; rw [← h5]; exact he q hq)))) (fun _ hk => hk.1)
theorem jr_keep {base : Nat} {w w' : World} {gj g : Nat} {j : Jr} (h : JrAt base w gj g j) (k : KeepD base w w') : JrAt base w' gj g j :=
  ⟨(k.block gj (blk_lt h.1) (.inr (fun cells q hq => by rw [h.1] at hq; injection hq with hq; injection hq with _ hq _; subst hq; unfold dT; decide))).trans h.1, h.2⟩
theorem jr_below {base : Nat} {w w' : World} {gj g : Nat} {j : Jr} (h : JrAt base w gj g j) (k : Below w.heap.size w w') : JrAt base w' gj g j := ⟨(k.block gj (blk_lt h.1)).trans h.1, h.2⟩
theorem jr_drewN {base : Nat} {w : World} {gj g : Nat} {j : Jr} (h : JrAt base w gj g j) (n : Nat) : JrAt base (w.drewN n) gj g j := h
/-- The cells of a journal. -/
theorem jr_cells {base : Nat} {w : World} {gj g : Nat} {j : Jr} (h : JrAt base w gj g j) : w.cell? ⟨gj, 0, none⟩ = some (.pointer (some ⟨g, 0, none⟩)) ∧ w.cell? ⟨gj, 1, none⟩ = some (.int .i64 j.slot) ∧ w.cell? ⟨gj, 2, none⟩ = some (.int .i64 j.place) ∧ w.cell? ⟨gj, 3, none⟩ = some (.int .i64 j.epoch) ∧ w.cell? ⟨gj, 4, none⟩ = some (.int .i64 j.seq) ∧ w.cell? ⟨gj, 5, none⟩ = some (.int .i64 j.next) ∧ w.cell? ⟨gj, 6, none⟩ = some (.bool j.op) ∧ w.cell? ⟨gj, 7, none⟩ = some (.bool j.down) := by
  refine ⟨?_, ?_, ?_, ?_, ?_, ?_, ?_, ?_⟩ <;> (rw [blk_cell h.1]; rfl)
theorem jr_frozen {base : Nat} {w : World} {gj g : Nat} {j : Jr} (h : JrAt base w gj g j) (i : Nat) : w.frozen? ⟨gj, i, none⟩ = false := blk_frozen h.1 _
theorem disk_setJ {base : Nat} {w : World} {gj g : Nat} {j : Jr} {s : St} (h : JrAt base w gj g j) (hd : DiskAt base w g s) (i : Nat) (u : Value) : DiskAt base (w.setCell ⟨gj, i, none⟩ u) g s := by
  obtain ⟨vg, vc, h1, h2, h3, h4⟩ := hd
  have hne : g ≠ gj := fun e => by
    subst e
    have := h.1; rw [h1] at this; injection this with this; injection this with _ h5 _; revert h5; decide
  exact ⟨vg, vc, (Below.heap_setCell w _ u g hne).trans h1, h2, Kd.R_set h3 h.1 (by intro q hq; simp [secK, Kd.arr, Kd.int, Kd.scalar] at hq; omega) _ _, Kd.R_set h4 h.1 (by intro q hq; simp [cacK, secK, Kd.pair, Kd.arr, Kd.int, Kd.scalar] at hq; omega) _ _⟩
/-! ### the short ones -/
theorem seq_nil (w : World) : Calls Try.prog 17 #[.pointer none] w fun e w' => e = .returned (.int .i64 0) ∧ w = w' := by
  go_enter Try.func17, Try.ntmps17
  go_wp2
  go_ret
  exact ⟨rfl, rfl⟩
theorem epoch_nil (w : World) : Calls Try.prog 18 #[.pointer none] w fun e w' => e = .returned (.int .i64 0) ∧ w = w' := by
  go_enter Try.func18, Try.ntmps18
  go_wp2
  go_ret
  exact ⟨rfl, rfl⟩
theorem room_nil (w : World) : Calls Try.prog 19 #[.pointer none] w fun e w' => e = .returned (.int .i64 0) ∧ w = w' := by
  go_enter Try.func19, Try.ntmps19
  go_wp2
  go_ret
  exact ⟨rfl, rfl⟩
theorem state_nil (w : World) : Calls Try.prog 29 #[.pointer none] w fun e w' => e = .returned (.int .i64 1) ∧ w = w' := by
  go_enter Try.func29, Try.ntmps29
  go_wp2
  go_ret
  exact ⟨rfl, rfl⟩
theorem commit_nil (w : World) : Calls Try.prog 11 #[.pointer none] w fun e w' => e = .returned (.int .i64 1) ∧ w = w' := by
  go_enter Try.func11, Try.ntmps11
  go_wp2_with (go_at_call 29; refine (state_nil _).mono ?_; rintro e w' ⟨rfl, rfl⟩)
  go_ret
  exact ⟨rfl, rfl⟩
theorem append_nil (v : Value) (w : World) : Calls Try.prog 12 #[.pointer none, v] w fun e w' => e = .returned (.int .i64 1) ∧ w = w' := by
  go_enter Try.func12, Try.ntmps12
  go_wp2_with (go_at_call 29; refine (state_nil _).mono ?_; rintro e w' ⟨rfl, rfl⟩)
  go_ret
  exact ⟨rfl, rfl⟩
theorem checkpoint_nil (v : Value) (w : World) : Calls Try.prog 10 #[.pointer none, v] w fun e w' => e = .returned (.int .i64 1) ∧ w = w' := by
  go_enter Try.func10, Try.ntmps10
  go_wp2_with (go_at_call 29; refine (state_nil _).mono ?_; rintro e w' ⟨rfl, rfl⟩)
  go_ret
  exact ⟨rfl, rfl⟩
theorem seq_walk (base gj g : Nat) (j : Jr) (w : World) (h : JrAt base w gj g j) : Calls Try.prog 17 #[.pointer (some ⟨gj, 0, none⟩)] w fun e w' => e = .returned (.int .i64 j.seq) ∧ w = w' := by
  obtain ⟨-, -, -, -, h4, -⟩ := jr_cells h
  clear h
  go_enter Try.func17, Try.ntmps17
  go_wp2
  go_ret
  exact ⟨rfl, rfl⟩
theorem epoch_walk (base gj g : Nat) (j : Jr) (w : World) (h : JrAt base w gj g j) : Calls Try.prog 18 #[.pointer (some ⟨gj, 0, none⟩)] w fun e w' => e = .returned (.int .i64 j.epoch) ∧ w = w' := by
  obtain ⟨-, -, -, h4, -⟩ := jr_cells h
  clear h
  go_enter Try.func18, Try.ntmps18
  go_wp2
  go_ret
  exact ⟨rfl, rfl⟩
theorem size_q (base g n : Nat) (s : St) (w : World) (hn : s.good.length = n) (h : DiskAt base w g s) : Calls Try.prog 20 #[.pointer (some ⟨g, 0, none⟩)] w fun e w' => e = .returned (.int .i64 (n : Nat)) ∧ w = w' := hn ▸ size_walk base g s w h
theorem room_walk (base gj g : Nat) (j : Jr) (s : St) (w : World) (h : JrAt base w gj g j) (hd : DiskAt base w g s) (h0 : 0 ≤ j.next ∧ j.next ≤ (s.good.length : Nat)) (hs : s.good.length ≤ 1024) : Calls Try.prog 19 #[.pointer (some ⟨gj, 0, none⟩)] w fun e w' => e = .returned (.int .i64 ((s.good.length : Nat) - j.next)) ∧ ∃ m, w' = w.drewN m := by
  obtain ⟨h0', -, -, -, -, h5, -⟩ := jr_cells h
  have HD := Aside0.mk hd
  clear h hd
  generalize hn : s.good.length = n at *
  have HN := Aside0.mk hn
  clear hn
  go_enter Try.func19, Try.ntmps19
  go_wp2_with fail
  go_quiet ((go_at_call 20; refine (size_q base g n s _ HN.out (disk_drewN HD.out _)).mono ?_; rintro e w1 ⟨rfl, rfl⟩; exact ⟨rfl, _, rfl⟩))
  go_wp2
  go_ret
  exact ⟨rfl, _, rfl⟩
def stateF (j : Jr) : Int := if j.down = true then 10 else if j.op = true then 0 else 9
theorem state_walk (base gj g : Nat) (j : Jr) (w : World) (h : JrAt base w gj g j) : Calls Try.prog 29 #[.pointer (some ⟨gj, 0, none⟩)] w fun e w' => e = .returned (.int .i64 (stateF j)) ∧ w = w' := by
  obtain ⟨-, -, -, -, -, -, h6, h7⟩ := jr_cells h
  clear h
  unfold stateF
  cases hdn : j.down with
  | true =>
    rw [hdn] at h7
    go_enter Try.func29, Try.ntmps29
    go_wp2
    go_ret
    exact ⟨rfl, rfl⟩
  | false =>
    rw [hdn] at h7
    cases hop : j.op with
    | true =>
      rw [hop] at h6
      go_enter Try.func29, Try.ntmps29
      go_wp2
      go_ret
      exact ⟨rfl, rfl⟩
    | false =>
      rw [hop] at h6
      go_enter Try.func29, Try.ntmps29
      go_wp2
      go_ret
      exact ⟨rfl, rfl⟩
/-! ### may -/
def mayF (s : St) (slot : Int) : Bool := decide (1 ≤ slot) && (decide (slot ≤ 1024) && decide (2 * slot < (s.good.length : Nat)))
theorem may_nil (slot : Int) (w : World) : Calls Try.prog 23 #[.pointer none, .int .i64 slot] w fun e w' => e = .returned (.bool false) ∧ w = w' := by
  go_enter Try.func23, Try.ntmps23
  go_wp2
  go_ret
  exact ⟨rfl, rfl⟩
theorem may_walk (base g : Nat) (s : St) (slot : Int) (w : World) (hd : DiskAt base w g s) : Calls Try.prog 23 #[.pointer (some ⟨g, 0, none⟩), .int .i64 slot] w fun e w' => e = .returned (.bool (mayF s slot)) ∧ w = w' := by
  have HD := Aside0.mk hd
  clear hd
  unfold mayF
  generalize hn : s.good.length = n at *
  have HN := Aside0.mk hn
  clear hn
  by_cases h1 : 1 ≤ slot
  · by_cases h2 : slot ≤ 1024
    · rw [decide_eq_true h1, decide_eq_true h2, Bool.true_and, Bool.true_and]
      have b1 : decide (1 ≤ slot) = true := decide_eq_true h1
      have b2 : decide (slot ≤ 1024) = true := decide_eq_true h2
      go_enter Try.func23, Try.ntmps23
      go_wp2_with (go_at_call 20; refine (size_walk base g s _ HD.out).mono ?_; rintro e w' ⟨rfl, rfl⟩; rw [HN.out])
      go_ret
      exact ⟨rfl, rfl⟩
    · rw [decide_eq_true h1, decide_eq_false h2, Bool.true_and, Bool.false_and]
      have b1 : decide (1 ≤ slot) = true := decide_eq_true h1
      have b2 : decide (slot ≤ 1024) = false := decide_eq_false h2
      go_enter Try.func23, Try.ntmps23
      go_wp2
      go_ret
      exact ⟨rfl, rfl⟩
  · rw [decide_eq_false h1, Bool.false_and]
    have b1 : decide (1 ≤ slot) = false := decide_eq_false h1
    go_enter Try.func23, Try.ntmps23
    go_wp2
    go_ret
    exact ⟨rfl, rfl⟩
end Go.Proofs.Ytglpelhbncdkmaa.XJour
