/-
  The reference's disk by walks: what it is in memory, burn and New.
-/
import Derived.Laws.CopyOwn
import Derived.ArgAppend
import Derived.Below
import Derived.BigQuiet
import Derived.Deep.AppendLies
import Derived.Deep.CutBlock
import Derived.Deep.DeepCutAuto
import Derived.Deep.Draws
import Derived.Deep.LoopGhost
import Derived.Deep.OwnRows
import Derived.Deep.QuietTactic
import Derived.Deep.RegionHeld3
import Derived.Deep.WholeRow
import Derived.KernelRfl
import Derived.Laws.BitsLemmas
import Derived.Laws.BytesArg
import Derived.Laws.IdiomCopy
import Derived.Laws.MakeOwn
import Derived.Laws.OwnMore
import Derived.Laws.Rows
import Derived.Laws.Slices
import Derived.Lib.AppendStr
import Derived.Lib.ConvBytes
import Derived.Lib.Hide
import Derived.Maps.AppendAt
import Derived.OrdersHeld
import Derived.Outline
import Derived.OwnWalk
import Derived.RowKit
import Derived.RowKit3
import Derived.Tactics
import Derived.WalkKit
import Derived.WideLaws
import Derived.Test.YtmpiljfpgfhljaaProg
import Derived.Test.YtmpiljfpgfhljaaWApart
import Derived.Test.YtmpiljfpgfhljaaWArr
import Derived.Test.YtmpiljfpgfhljaaWAt
import Derived.Test.YtmpiljfpgfhljaaWEqStruct
import Derived.Test.YtmpiljfpgfhljaaWFoot
import Derived.Test.YtmpiljfpgfhljaaWFootNe
import Derived.Test.YtmpiljfpgfhljaaWFour
import Derived.Test.YtmpiljfpgfhljaaWGuard
import Derived.Test.YtmpiljfpgfhljaaWInv
import Derived.Test.YtmpiljfpgfhljaaWInvWords
import Derived.Test.YtmpiljfpgfhljaaWKept
import Derived.Test.YtmpiljfpgfhljaaWLast
import Derived.Test.YtmpiljfpgfhljaaWMore
import Derived.Test.YtmpiljfpgfhljaaWN
import Derived.Test.YtmpiljfpgfhljaaWNEv
import Derived.Test.YtmpiljfpgfhljaaWQPut
import Derived.Test.YtmpiljfpgfhljaaWRepsOne
import Derived.Test.YtmpiljfpgfhljaaWShare
import Derived.Test.YtmpiljfpgfhljaaWTab
import Derived.Test.YtmpiljfpgfhljaaWWords
import Derived.Test.YtmpiljfpgfhljaaWZeros
import Derived.Test.YtmpiljfpgfhljaaXSlices

import Derived.StillTailTactics
import Derived.Test.YtmpiljfpgfhljaaXCm
import Derived.Test.YtmpiljfpgfhljaaXDiskMade
namespace Go.Proofs.Ytmpiljfpgfhljaa.XRefD
open Go.RowKit Go.Proofs.YtmpiljfpgfhljaaW.PrintWords Go.Proofs.YtmpiljfpgfhljaaW.PrintLast Go.Proofs.YtmpiljfpgfhljaaW.PrintMore XCm XDisk
set_option linter.unusedVariables false
set_option linter.unusedSimpArgs false
/-- The reference's disk: what is for good, what was written, the fuse. -/
structure Rf where
  good : List (List Int)
  log : List (Int × List Int)
  fuse : Int
def rowK : Kd (List Int) := Kd.slice 5 (Kd.int .u8)
def oneK : Kd (Int × List Int) := Kd.pair (Kd.int .i64) rowK
def RefAt (base : Nat) (w : World) (g : Nat) (s : Rf) : Prop :=
  ∃ vg vc, w.heap[g]? = some (.cells #[vg, vc, .int .i64 s.fuse] 45 (0, 0)) ∧ base ≤ g ∧
    rowK.R 29 w base (fun _ => True) vg s.good ∧ oneK.R 94 w base (fun _ => True) vc s.log
def rT (q : Nat) : Prop := q = 45 ∨ q = 29 ∨ q = 94
/-- Nothing below base is written, and elsewhere blocks of the reference's three types alone. -/
structure KeepR (base : Nat) (w w' : World) : Prop where
  os : w'.os = w.os
  tape : w'.tape = w.tape
  output : w'.output = w.output
  size : w.heap.size ≤ w'.heap.size
  block : ∀ i, i < w.heap.size → (i < base ∨ ∀ cells q, w.heap[i]? = some (.cells cells q (0, 0)) → ¬ rT q) → w'.heap[i]? = w.heap[i]?
theorem KeepR.refl (base : Nat) (w : World) : KeepR base w w := ⟨rfl, rfl, rfl, Nat.le_refl _, fun _ _ _ => rfl⟩
theorem KeepR.trans {base : Nat} {w w1 w2 : World} (h : KeepR base w w1) (k : KeepR base w1 w2) : KeepR base w w2 :=
  ⟨k.os.trans h.os, k.tape.trans h.tape, k.output.trans h.output, Nat.le_trans h.size k.size, fun i hi hc => by
    have e := h.block i hi hc
    exact (k.block i (Nat.lt_of_lt_of_le hi h.size) (hc.imp_right (fun hh cells q hq => hh cells q (e ▸ hq)))).trans e⟩
theorem KeepR.of_below {base : Nat} {w w' : World} (h : Below w.heap.size w w') : KeepR base w w' := ⟨h.os, h.tape, h.output, h.size, fun i hi _ => h.block i hi⟩
theorem KeepR.drewN {base : Nat} {w w' : World} (h : KeepR base w w') (n : Nat) : KeepR base w (w'.drewN n) := ⟨h.os, h.tape, h.output, h.size, h.block⟩
theorem KeepR.of_row {base : Nat} {w w' : World} {v : Value} {e : Nat} {α : Type} {d : Kd α} {ok : Nat → Prop} {xs : List α} (h : d.R e w base ok v xs) (he : rT e) (hg : w.grownBy w' v.ownBlock) : KeepR base w w' :=
  ⟨hg.os, hg.tape, hg.output, hg.size, fun i hi hc => hg.block i hi (fun e' => by
    obtain ⟨cells, hcc⟩ := own_typed h.2.choose_spec.1 i e'.symm
    rcases hc with hc | hc
    · have := Kd.R_base h i e'.symm; omega
    · exact hc cells e hcc he)⟩
theorem KeepR.set_ {base : Nat} {w : World} {g : Nat} {cells : Array Value} {q : Nat} (hg : w.heap[g]? = some (.cells cells q (0, 0))) (hq : rT q) (hb : base ≤ g) (j : Nat) (u : Value) : KeepR base w (w.setCell ⟨g, j, none⟩ u) :=
  ⟨rfl, rfl, rfl, by simp, fun i hi hc => Below.heap_setCell w _ u i (fun e => by
    subst e
    rcases hc with hc | hc
    · exact absurd hb (Nat.not_le.2 hc)
    · exact hc cells q hg hq)⟩
theorem KeepR.below {base : Nat} {w0 w w' : World} (h : Below base w0 w) (hb : base ≤ w.heap.size) (k : KeepR base w w') : Below base w0 w' :=
  h.trans ⟨k.os, k.tape, k.output, k.size, fun i hi => k.block i (Nat.lt_of_lt_of_le hi hb) (.inl hi)⟩
theorem R_keepR {α : Type} {d : Kd α} {e base base' : Nat} {w w' : World} {ok : Nat → Prop} {v : Value} {xs : List α} (h : d.R e w base' ok v xs) (he : ∀ q, q ∈ e :: d.E → ¬ rT q) (k : KeepR base w w') : d.R e w' base' ok v xs :=
  Kd.R_mono (Kd.R_move (Kd.R_bound h) (fun i hi => by
    obtain ⟨-, -, h4, q, hq, cells, hc⟩ := hi
    exact k.block i h4 (.inr (fun cells' q' hc' => by rw [hc] at hc'; injection hc' with hc'; injection hc' with _ h5 _; rw [← h5]; exact he q hq)))) (fun _ hk => hk.1)
theorem ref_below {base : Nat} {w w' : World} {g : Nat} {s : Rf} (h : RefAt base w g s) (k : Below w.heap.size w w') : RefAt base w' g s := by
  obtain ⟨vg, vc, h1, h2, h3, h4⟩ := h
  exact ⟨vg, vc, (k.block g (blk_lt h1)).trans h1, h2, Kd.R_below h3 k, Kd.R_below h4 k⟩
theorem ref_drewN {base : Nat} {w : World} {g : Nat} {s : Rf} (h : RefAt base w g s) (n : Nat) : RefAt base (w.drewN n) g s := by
  obtain ⟨vg, vc, h1, h2, h3, h4⟩ := h
  exact ⟨vg, vc, h1, h2, Kd.R_drewN h3 n, Kd.R_drewN h4 n⟩
/-- The program's disk writes none of it, nor it the program's. -/
theorem ref_keepD {base base' : Nat} {w w' : World} {g : Nat} {s : Rf} (h : RefAt base w g s) (k : KeepD base' w w') : RefAt base w' g s := by
  obtain ⟨vg, vc, h1, h2, h3, h4⟩ := h
  refine ⟨vg, vc, (k.block g (blk_lt h1) (.inr fun cells q hq => ?_)).trans h1, h2, R_keepD h3 (by intro q hq; simp [rowK, Kd.slice, Kd.int, Kd.scalar] at hq; unfold dT; omega) k, R_keepD h4 (by intro q hq; simp [oneK, rowK, Kd.pair, Kd.slice, Kd.int, Kd.scalar] at hq; unfold dT; omega) k⟩
  rw [h1] at hq
  injection hq with hq
  injection hq with _ h5 _
  rw [← h5]
  unfold dT
  decide
theorem disk_keepR {base base' : Nat} {w w' : World} {g : Nat} {s : St} (h : DiskAt base w g s) (k : KeepR base' w w') : DiskAt base w' g s := by
  obtain ⟨vg, vc, h1, h2, h3, h4⟩ := h
  refine ⟨vg, vc, (k.block g (blk_lt h1) (.inr fun cells q hq => ?_)).trans h1, h2, R_keepR h3 (by intro q hq; simp [secK, Kd.arr, Kd.int, Kd.scalar] at hq; unfold rT; omega) k, R_keepR h4 (by intro q hq; simp [cacK, secK, Kd.pair, Kd.arr, Kd.int, Kd.scalar] at hq; unfold rT; omega) k⟩
  rw [h1] at hq
  injection hq with hq
  injection hq with _ h5 _
  rw [← h5]
  unfold rT
  decide
/-- A cell of the disk's own block is written. -/
theorem ref_fuse {base : Nat} {w : World} {g : Nat} {s : Rf} (h : RefAt base w g s) (n : Int) : RefAt base (w.setCell ⟨g, 2, none⟩ (.int .i64 n)) g { s with fuse := n } ∧ KeepR base w (w.setCell ⟨g, 2, none⟩ (.int .i64 n)) := by
  obtain ⟨vg, vc, h1, h2, h3, h4⟩ := h
  exact ⟨⟨vg, vc, blk_set h1 2 _, h2, Kd.R_set h3 h1 (by intro q hq; simp [rowK, Kd.slice, Kd.int, Kd.scalar] at hq; omega) _ _, Kd.R_set h4 h1 (by intro q hq; simp [oneK, rowK, Kd.pair, Kd.slice, Kd.int, Kd.scalar] at hq; omega) _ _⟩, KeepR.set_ h1 (.inl rfl) h2 _ _⟩
def rBurn (s : Rf) : Bool × Rf := if s.fuse = 0 then (false, s) else if 0 < s.fuse then (true, { s with fuse := s.fuse - 1 }) else (true, s)
theorem rburn_walk (base g : Nat) (s : Rf) (w : World) (h : RefAt base w g s) (hf : s.fuse ≤ 9223372036854775807) :
    Calls Try.prog 55 #[.pointer (some ⟨g, 0, none⟩)] w fun e w' => e = .returned (.bool (rBurn s).1) ∧ RefAt base w' g (rBurn s).2 ∧ KeepR base w w' := by
  have HD := Aside0.mk (fun n => ref_fuse h n)
  have HH := Aside0.mk h
  obtain ⟨vg, vc, h1, -, -, -⟩ := h
  have hc2 : (w.cell? ⟨g, 2, none⟩) = some (.int .i64 s.fuse) := by rw [blk_cell h1]; rfl
  have hf2 : (w.frozen? ⟨g, 2, none⟩) = false := blk_frozen h1 _
  clear h1
  by_cases hz : s.fuse = 0
  · have hB : rBurn s = (false, s) := by unfold rBurn; rw [if_pos hz]
    rw [hB]
    rw [hz] at hc2
    clear hB hz hf
    go_enter Try.func55, Try.ntmps55
    go_wp2
    go_ret
    exact ⟨rfl, HH.out, KeepR.refl _ _⟩
  · by_cases hp : 0 < s.fuse
    · have hB : rBurn s = (true, { s with fuse := s.fuse - 1 }) := by unfold rBurn; rw [if_neg hz, if_pos hp]
      rw [hB]
      clear hB
      have hD := HD.out (s.fuse - 1)
      have HD1 := Aside0.mk hD
      clear HD HH hD
      generalize hq : s.fuse = q at *
      have hq0 : (q == 0) = false := by simpa using hz
      go_enter Try.func55, Try.ntmps55
      go_wp2
      go_ret
      exact ⟨rfl, HD1.out⟩
    · have hB : rBurn s = (true, s) := by unfold rBurn; rw [if_neg hz, if_neg hp]
      rw [hB]
      clear hB HD
      have hq0 : (s.fuse == 0) = false := by simpa using hz
      go_enter Try.func55, Try.ntmps55
      go_wp2
      go_ret
      exact ⟨rfl, HH.out, KeepR.refl _ _⟩
end Go.Proofs.Ytmpiljfpgfhljaa.XRefD
