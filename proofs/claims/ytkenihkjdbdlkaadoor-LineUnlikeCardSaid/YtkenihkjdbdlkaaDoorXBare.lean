/-
  text.bare, text.digit, text.escape (printed by wip/tools/mp.sh; picked out).
-/
import Derived.Laws.CopyOwn
import Derived.ArgAppend
import Derived.Below
import Derived.BigQuiet
import Derived.Deep.AppendLies
import Derived.Deep.CutBlock
import Derived.Deep.DeepCutAuto
import Derived.Deep.Draws
import Derived.Deep.LoopGhost
import Derived.Deep.OwnRows
import Derived.Deep.QuietTactic
import Derived.Deep.RegionHeld3
import Derived.Deep.WholeRow
import Derived.KernelRfl
import Derived.Laws.BitsLemmas
import Derived.Laws.BytesArg
import Derived.Laws.IdiomCopy
import Derived.Laws.MakeOwn
import Derived.Laws.OwnMore
import Derived.Laws.Rows
import Derived.Laws.Slices
import Derived.Lib.AppendStr
import Derived.Lib.ConvBytes
import Derived.Lib.Hide
import Derived.Maps.AppendAt
import Derived.OrdersHeld
import Derived.Outline
import Derived.OwnWalk
import Derived.RowKit
import Derived.RowKit3
import Derived.Tactics
import Derived.WalkKit
import Derived.WideLaws
import Derived.Test.YtkenihkjdbdlkaaDoorProg
import Derived.Test.YtkenihkjdbdlkaaDoorWApart
import Derived.Test.YtkenihkjdbdlkaaDoorWArr
import Derived.Test.YtkenihkjdbdlkaaDoorWAt
import Derived.Test.YtkenihkjdbdlkaaDoorWEqStruct
import Derived.Test.YtkenihkjdbdlkaaDoorWFoot
import Derived.Test.YtkenihkjdbdlkaaDoorWFootNe
import Derived.Test.YtkenihkjdbdlkaaDoorWFour
import Derived.Test.YtkenihkjdbdlkaaDoorWGuard
import Derived.Test.YtkenihkjdbdlkaaDoorWInv
import Derived.Test.YtkenihkjdbdlkaaDoorWInvWords
import Derived.Test.YtkenihkjdbdlkaaDoorWKept
import Derived.Test.YtkenihkjdbdlkaaDoorWLast
import Derived.Test.YtkenihkjdbdlkaaDoorWMore
import Derived.Test.YtkenihkjdbdlkaaDoorWN
import Derived.Test.YtkenihkjdbdlkaaDoorWNEv
import Derived.Test.YtkenihkjdbdlkaaDoorWQPut
import Derived.Test.YtkenihkjdbdlkaaDoorWRepsOne
import Derived.Test.YtkenihkjdbdlkaaDoorWShare
import Derived.Test.YtkenihkjdbdlkaaDoorWTab
import Derived.Test.YtkenihkjdbdlkaaDoorWWords
import Derived.Test.YtkenihkjdbdlkaaDoorWZeros
import Derived.Test.YtkenihkjdbdlkaaDoorShelf
import Derived.Test.YtkenihkjdbdlkaaDoorXTabs
namespace Go.Proofs.YtkenihkjdbdlkaaDoor.XBare
open Go.RowKit Go.Proofs.YtkenihkjdbdlkaaDoorW.PrintWords Go.Proofs.YtkenihkjdbdlkaaDoorW.PrintLast Go.Proofs.YtkenihkjdbdlkaaDoorW.PrintMore
set_option linter.unusedVariables false
set_option linter.unusedSimpArgs false
/-! ### text_bare: function 41 -/
def text_bare.f (a0 : Int) : Option (Bool) := if a0 > 32 then (if a0 ≤ 126 then (if a0 = 34 then (some false) else (if a0 = 92 then (some false) else (some (a0 != 35)))) else (some false)) else (some false)
set_option maxHeartbeats 8000000 in
set_option maxRecDepth 100000 in
theorem text_bare.calls (a0 : Int) (r : Bool) (w : World) (h : text_bare.f a0 = some r) :
    Calls Tryd.prog 41 #[.int .u8 a0] w fun e w' => e = .returned (.bool r) ∧ Drawn0 w w' := by
  have H : (if a0 > 32 then (if a0 ≤ 126 then (if a0 = 34 then (some false) else (if a0 = 92 then (some false) else (some (a0 != 35)))) else (some false)) else (some false)) = some r := h
  clear h
  by_cases c2 : a0 > 32
  · rw [if_pos c2] at H
    have c2b0 : decide (32 < a0) = true := decide_eq_true c2
    clear c2
    by_cases c3 : a0 ≤ 126
    · rw [if_pos c3] at H
      have c3b0 : decide (a0 ≤ 126) = true := decide_eq_true c3
      clear c3
      by_cases c4 : a0 = 34
      · rw [if_pos c4] at H
        have c4b0 : (a0 == 34) = true := beq_iff_eq.mpr c4
        have c4b1 : (a0 != 34) = false := bne_eq_false_iff_eq.mpr c4
        clear c4
        obtain rfl := Option.some.inj H
        go_enter Tryd.func41, Tryd.ntmps41
        go_wp2
        go_ret
        exact ⟨by first | rfl | (simp; done) | (simp [*]; done), by repeat (first | exact Drawn0.refl _ | apply Drawn0.step)⟩
      · rw [if_neg c4] at H
        have c4b0 : (a0 == 34) = false := beq_eq_false_iff_ne.mpr c4
        have c4b1 : (a0 != 34) = true := bne_iff_ne.mpr c4
        by_cases c5 : a0 = 92
        · rw [if_pos c5] at H
          have c5b0 : (a0 == 92) = true := beq_iff_eq.mpr c5
          have c5b1 : (a0 != 92) = false := bne_eq_false_iff_eq.mpr c5
          clear c5
          obtain rfl := Option.some.inj H
          go_enter Tryd.func41, Tryd.ntmps41
          go_wp2
          go_ret
          exact ⟨by first | rfl | (simp; done) | (simp [*]; done), by repeat (first | exact Drawn0.refl _ | apply Drawn0.step)⟩
        · rw [if_neg c5] at H
          have c5b0 : (a0 == 92) = false := beq_eq_false_iff_ne.mpr c5
          have c5b1 : (a0 != 92) = true := bne_iff_ne.mpr c5
          obtain rfl := Option.some.inj H
          go_enter Tryd.func41, Tryd.ntmps41
          go_wp2
          go_ret
          exact ⟨by first | rfl | (simp; done) | (simp [*]; done), by repeat (first | exact Drawn0.refl _ | apply Drawn0.step)⟩
    · rw [if_neg c3] at H
      have c3b0 : decide (a0 ≤ 126) = false := decide_eq_false c3
      clear c3
      obtain rfl := Option.some.inj H
      go_enter Tryd.func41, Tryd.ntmps41
      go_wp2
      go_ret
      exact ⟨by first | rfl | (simp; done) | (simp [*]; done), by repeat (first | exact Drawn0.refl _ | apply Drawn0.step)⟩
  · rw [if_neg c2] at H
    have c2b0 : decide (32 < a0) = false := decide_eq_false c2
    clear c2
    obtain rfl := Option.some.inj H
    go_enter Tryd.func41, Tryd.ntmps41
    go_wp2
    go_ret
    exact ⟨by first | rfl | (simp; done) | (simp [*]; done), by repeat (first | exact Drawn0.refl _ | apply Drawn0.step)⟩
/-! ### strings_IndexByte: function 65 -/
def strings_IndexByte.f (a0 : ByteArray) (a1 : Int) : Option (Int) := some (Lib.indexByte a0.data.toList a1.toNat.toUInt8)
theorem strings_IndexByte.calls (a0 : ByteArray) (a1 : Int) (r : Int) (w : World) (h : strings_IndexByte.f a0 a1 = some r) :
    Calls Tryd.prog 65 #[.string a0, .int .u8 a1] w fun e w' => e = .returned (.int .i64 r) ∧ Drawn0 w w' := by
  obtain rfl := Option.some.inj h
  exact (Tryd.strings_IndexByte a0 a1 w).mono fun e w' ⟨he, hw⟩ => ⟨he, by subst hw; exact ⟨0, rfl⟩⟩
/-! ### text_digit: function 56 -/
def text_digit.f (a0 : Int) : Option (Int) := (strings_IndexByte.f (⟨#[48, 49, 50, 51, 52, 53, 54, 55, 56, 57, 97, 98, 99, 100, 101, 102]⟩ : ByteArray) a0).bind fun t101 => (some t101)
set_option maxHeartbeats 8000000 in
set_option maxRecDepth 100000 in
theorem text_digit.calls (a0 : Int) (r : Int) (w : World) (h : text_digit.f a0 = some r) :
    Calls Tryd.prog 56 #[.int .u8 a0] w fun e w' => e = .returned (.int .i64 r) ∧ Drawn0 w w' := by
  have H : ((strings_IndexByte.f (⟨#[48, 49, 50, 51, 52, 53, 54, 55, 56, 57, 97, 98, 99, 100, 101, 102]⟩ : ByteArray) a0).bind fun t101 => (some t101)) = some r := h
  clear h
  replace H := Option.bind_eq_some_iff.mp H
  obtain ⟨t101, A20, H⟩ := H
  replace H : (some t101) = some r := H
  have A2 := Aside0.mk A20
  clear A20
  obtain rfl := Option.some.inj H
  go_enter Tryd.func56, Tryd.ntmps56
  go_wp2_with (first | ((with_reducible refine gate_callee (f := 65) rfl ?_); refine goesL_ (some 4) rfl rfl Tryd.func65 (by kernel_rfl) rfl #[.string (⟨#[48, 49, 50, 51, 52, 53, 54, 55, 56, 57, 97, 98, 99, 100, 101, 102]⟩ : ByteArray), .int .u8 a0] rfl (by (try simp only [List.map_toArray, List.map_cons, List.map_nil]); first | done | rfl | (simp only [List.length_drop, List.length_take]; rfl)) ?_; (with_reducible refine (strings_IndexByte.calls (⟨#[48, 49, 50, 51, 52, 53, 54, 55, 56, 57, 97, 98, 99, 100, 101, 102]⟩ : ByteArray) a0 t101 _ A2.out).mono ?_); rintro e w' ⟨rfl, ⟨nd, rfl⟩⟩; refine ⟨_, rfl, ?_⟩))
  go_ret
  exact ⟨by first | rfl | (simp; done) | (simp [*]; done), by repeat (first | exact Drawn0.refl _ | apply Drawn0.step)⟩
/-! ### text_escape: function 42 -/
mutual
def text_escape.j0 : Nat → ByteArray → Bool → Option (Int × Int)
  | 0, _, _ => none
  | k + 1, x0, x10 => if x10 = true then (if 0 < (x0.size : Int) then (some (bt x0 0, 1)) else (none)) else (if (x0.size : Int) < 3 then (some (0, 0)) else (if 0 < (x0.size : Int) then (if (bt x0 0) = 120 then (if 1 < (x0.size : Int) then ((text_digit.f (bt x0 1)).bind fun t102 => (if 2 < (x0.size : Int) then ((text_digit.f (bt x0 2)).bind fun t103 => (if t102 < 0 then (text_escape.j1 k t102 t103 true) else (text_escape.j1 k t102 t103 (decide (t103 < 0))))) else (none))) else (none)) else (some (0, 0))) else (none)))
def text_escape.j1 : Nat → Int → Int → Bool → Option (Int × Int)
  | 0, _, _, _ => none
  | k + 1, x4, x5, x41 => if x41 = true then (some (0, 0)) else (if ((Go.bits .or .i64 (wrap64 (x4 * 16)) x5) % 256) ≥ 32 then (if ((Go.bits .or .i64 (wrap64 (x4 * 16)) x5) % 256) ≤ 126 then (some (0, 0)) else (some ((Go.bits .or .i64 (wrap64 (x4 * 16)) x5) % 256, 3))) else (some ((Go.bits .or .i64 (wrap64 (x4 * 16)) x5) % 256, 3)))
end
def text_escape.f (k : Nat) (a0 : ByteArray) : Option (Int × Int) := if a0.toList = ([] : List UInt8) then (some (0, 0)) else (if 0 < (a0.size : Int) then (if (bt a0 0) = 34 then (text_escape.j0 k a0 true) else (text_escape.j0 k a0 ((bt a0 0) == 92))) else (none))
theorem text_escape.mono_l : ∀ k, (∀ y0 y1, LeO (text_escape.j0 k y0 y1) (text_escape.j0 (k + 1) y0 y1)) ∧ (∀ y0 y1 y2, LeO (text_escape.j1 k y0 y1 y2) (text_escape.j1 (k + 1) y0 y1 y2))
  | 0 => ⟨fun _ _ r h => by simp [text_escape.j0] at h, fun _ _ _ r h => by simp [text_escape.j1] at h⟩
  | k + 1 => by
    obtain ⟨ih0, ih1⟩ := text_escape.mono_l k
    refine ⟨?_, ?_⟩
    · intro y0 y1
      unfold text_escape.j0
      repeat' first
      | (with_reducible exact ih0 _ _)
      | (with_reducible exact ih1 _ _ _)
      | (with_reducible exact LeO.refl _)
      | (with_reducible exact LeO.none _)
      | (with_reducible refine LeO.ite ?_ ?_)
      | (with_reducible refine LeO.bind ?_ (fun _ => ?_))
      | exact ih0 _ _
      | exact ih1 _ _ _
      | exact LeO.none _
      | refine LeO.ite ?_ ?_
      | refine LeO.bind ?_ (fun _ => ?_)
    · intro y0 y1 y2
      unfold text_escape.j1
      repeat' first
      | (with_reducible exact ih0 _ _)
      | (with_reducible exact ih1 _ _ _)
      | (with_reducible exact LeO.refl _)
      | (with_reducible exact LeO.none _)
      | (with_reducible refine LeO.ite ?_ ?_)
      | (with_reducible refine LeO.bind ?_ (fun _ => ?_))
      | exact ih0 _ _
      | exact ih1 _ _ _
      | exact LeO.none _
      | refine LeO.ite ?_ ?_
      | refine LeO.bind ?_ (fun _ => ?_)
theorem text_escape.mono : ∀ a0 k, LeO (text_escape.f k a0) (text_escape.f (k + 1) a0) := by
  intro a0 k
  obtain ⟨ih0, ih1⟩ := text_escape.mono_l k
  unfold text_escape.f
  repeat' first
      | (with_reducible exact ih0 _ _)
      | (with_reducible exact ih1 _ _ _)
      | (with_reducible exact LeO.refl _)
      | (with_reducible exact LeO.none _)
      | (with_reducible refine LeO.ite ?_ ?_)
      | (with_reducible refine LeO.bind ?_ (fun _ => ?_))
      | exact ih0 _ _
      | exact ih1 _ _ _
      | exact LeO.none _
      | refine LeO.ite ?_ ?_
      | refine LeO.bind ?_ (fun _ => ?_)
set_option maxHeartbeats 8000000 in
set_option maxRecDepth 100000 in
theorem text_escape.calls (k : Nat) (a0 : ByteArray) (r1 : Int) (r2 : Int) (w : World) (h : text_escape.f k a0 = some (r1, r2)) :
    Calls Tryd.prog 42 #[.string a0] w fun e w' => e = .returned (.tuple #[.int .u8 r1, .int .i64 r2]) ∧ Drawn0 w w' := by
  have H : (if a0.toList = ([] : List UInt8) then (some (0, 0)) else (if 0 < (a0.size : Int) then (if (bt a0 0) = 34 then (text_escape.j0 k a0 true) else (text_escape.j0 k a0 ((bt a0 0) == 92))) else (none))) = some (r1, r2) := h
  clear h
  by_cases c2 : a0.toList = ([] : List UInt8)
  · rw [if_pos c2] at H
    have c2b0 : (a0.toList == ([] : List UInt8)) = true := beq_iff_eq.mpr c2
    have c2b1 : (a0.toList != ([] : List UInt8)) = false := bne_eq_false_iff_eq.mpr c2
    clear c2
    simp only [Option.some.injEq, Prod.mk.injEq] at H
    obtain ⟨rfl, rfl⟩ := H
    go_enter Tryd.func42, Tryd.ntmps42
    go_wp2
    repeat (go_quiet (fail); try go_wp2)
    go_ret2
    exact ⟨by first | rfl | (simp; done) | (simp [*]; done), by repeat (first | exact Drawn0.refl _ | apply Drawn0.step)⟩
  · rw [if_neg c2] at H
    have c2b0 : (a0.toList == ([] : List UInt8)) = false := beq_eq_false_iff_ne.mpr c2
    have c2b1 : (a0.toList != ([] : List UInt8)) = true := bne_iff_ne.mpr c2
    have HC3 := Aside0.mk H
    clear H
    go_enter Tryd.func42, Tryd.ntmps42
    go_upto_region 3 with (fail)
    repeat (go_quiet (fail); go_upto_region 3 with (fail))
    go_cut [10] (fun v10 wc => ∃ (kq : Nat) (x10_2 : Bool), v10 = .bool x10_2 ∧ Aside0 (text_escape.j0 kq a0 x10_2 = some (r1, r2)) ∧ Aside0 (kq ≤ k) ∧ Drawn0 w wc)
    case first =>
      have H := HC3.out
      clear HC3
      by_cases c4 : 0 < (a0.size : Int)
      · rw [if_pos c4] at H
        have c4b0 : decide (0 < (a0.size : Int)) = true := decide_eq_true c4
        have c4b1 : decide (0 < a0.size) = true := decide_eq_true (by omega)
        clear c4
        (first | rw [c4b0] | (simp only [i64_w, i32_w]; rw [c4b0]) | skip)
        by_cases c6 : (bt a0 0) = 34
        · rw [if_pos c6] at H
          have c6b0 : ((bt a0 0) == 34) = true := beq_iff_eq.mpr c6
          have c6b1 : ((bt a0 0) != 34) = false := bne_eq_false_iff_eq.mpr c6
          clear c6
          have H' := Aside0.mk H
          clear H
          have p5 : 0 ≤ (0 : Int) := (by omega)
          have q5 : 0 < a0.size := (by have : (0 : Int) < (a0.size : Int) := of_decide_eq_true (by first | (with_reducible assumption) | assumption); omega)
          have hx5 : ∀ h : 0 < a0.size, ((a0[0]'h).toNat : Int) = bt a0 0 := bt_at a0 0
          clear p5
          have qi5 : (0 < (a0.size : Int)) = True := eq_true (of_decide_eq_true (by first | (with_reducible assumption) | assumption))
          replace q5 := eq_true q5
          go_wp2
          repeat (go_quiet (fail); try go_wp2)
          go_meet
          case rel => exact ⟨_, (true), (by first | rfl | (simp; done) | (simp [*]; done)), H', ⟨by first | omega | exact Nat.le_refl _⟩, by repeat (first | exact Drawn0.refl _ | apply Drawn0.step)⟩
        · rw [if_neg c6] at H
          have c6b0 : ((bt a0 0) == 34) = false := beq_eq_false_iff_ne.mpr c6
          have c6b1 : ((bt a0 0) != 34) = true := bne_iff_ne.mpr c6
          have H' := Aside0.mk H
          clear H
          have p5 : 0 ≤ (0 : Int) := (by omega)
          have q5 : 0 < a0.size := (by have : (0 : Int) < (a0.size : Int) := of_decide_eq_true (by first | (with_reducible assumption) | assumption); omega)
          have hx5 : ∀ h : 0 < a0.size, ((a0[0]'h).toNat : Int) = bt a0 0 := bt_at a0 0
          clear p5
          have qi5 : (0 < (a0.size : Int)) = True := eq_true (of_decide_eq_true (by first | (with_reducible assumption) | assumption))
          replace q5 := eq_true q5
          have p7 : 0 ≤ (0 : Int) := (by omega)
          have q7 : 0 < a0.size := (by have : (0 : Int) < (a0.size : Int) := of_decide_eq_true (by first | (with_reducible assumption) | assumption); omega)
          have hx7 : ∀ h : 0 < a0.size, ((a0[0]'h).toNat : Int) = bt a0 0 := bt_at a0 0
          clear p7
          have qi7 : (0 < (a0.size : Int)) = True := eq_true (of_decide_eq_true (by first | (with_reducible assumption) | assumption))
          replace q7 := eq_true q7
          go_wp2
          repeat (go_quiet (fail); try go_wp2)
          go_meet
          case rel => exact ⟨_, (((bt a0 0) == 92)), (by first | rfl | (simp; done) | (simp [*]; done)), H', ⟨by first | omega | exact Nat.le_refl _⟩, by repeat (first | exact Drawn0.refl _ | apply Drawn0.step)⟩
      · rw [if_neg c4] at H
        exact absurd H (by simp)
    case rest =>
      clear HC3
      try clear c2
      try clear c2b0
      try clear c2b1
      try clear p2
      try clear c4
      try clear c4b0
      try clear c4b1
      try clear p5
      try clear q5
      try clear hx5
      try clear qi5
      try clear c6
      try clear c6b0
      try clear c6b1
      try clear p7
      try clear q7
      try clear hx7
      try clear qi7
      try clear p5
      try clear p7
      try clear q5
      try clear q7
      obtain ⟨kq, x10_2, rfl, HA, HJ2, ⟨mc2, rfl⟩⟩ := hcut
      cases kq with
      | zero => exact absurd HA.out (by simp [text_escape.j0])
      | succ kj2 =>
        have H := HA.out
        clear HA
        simp only [text_escape.j0] at H
        by_cases c8 : x10_2 = true
        · subst c8
          have H1 : (if 0 < (a0.size : Int) then (some (bt a0 0, 1)) else (none)) = some (r1, r2) := by rw [if_pos rfl] at H; exact H
          clear H
          have H := H1
          clear H1
          by_cases c9 : 0 < (a0.size : Int)
          · rw [if_pos c9] at H
            have c9b0 : decide (0 < (a0.size : Int)) = true := decide_eq_true c9
            have c9b1 : decide (0 < a0.size) = true := decide_eq_true (by omega)
            clear c9
            simp only [Option.some.injEq, Prod.mk.injEq] at H
            obtain ⟨rfl, rfl⟩ := H
            have p10 : 0 ≤ (0 : Int) := (by omega)
            have q10 : 0 < a0.size := (by have : (0 : Int) < (a0.size : Int) := of_decide_eq_true (by first | (with_reducible assumption) | assumption); omega)
            have hx10 : ∀ h : 0 < a0.size, ((a0[0]'h).toNat : Int) = bt a0 0 := bt_at a0 0
            clear p10
            have qi10 : (0 < (a0.size : Int)) = True := eq_true (of_decide_eq_true (by first | (with_reducible assumption) | assumption))
            replace q10 := eq_true q10
            go_wp2
            repeat (go_quiet (fail); try go_wp2)
            go_ret2
            exact ⟨by first | rfl | (simp; done) | (simp [*]; done), by repeat (first | exact Drawn0.refl _ | apply Drawn0.step)⟩
          · rw [if_neg c9] at H
            exact absurd H (by simp)
        · replace c8 := Bool.eq_false_iff.mpr c8
          subst c8
          have H1 : (if (a0.size : Int) < 3 then (some (0, 0)) else (if 0 < (a0.size : Int) then (if (bt a0 0) = 120 then (if 1 < (a0.size : Int) then ((text_digit.f (bt a0 1)).bind fun t102 => (if 2 < (a0.size : Int) then ((text_digit.f (bt a0 2)).bind fun t103 => (if t102 < 0 then (text_escape.j1 kj2 t102 t103 true) else (text_escape.j1 kj2 t102 t103 (decide (t103 < 0))))) else (none))) else (none)) else (some (0, 0))) else (none))) = some (r1, r2) := by rw [if_neg (show ¬ (false = true) by decide)] at H; exact H
          clear H
          have H := H1
          clear H1
          by_cases c11 : (a0.size : Int) < 3
          · rw [if_pos c11] at H
            have c11b0 : decide ((a0.size : Int) < 3) = true := decide_eq_true c11
            have c11b1 : decide (a0.size < 3) = true := decide_eq_true (by omega)
            clear c11
            simp only [Option.some.injEq, Prod.mk.injEq] at H
            obtain ⟨rfl, rfl⟩ := H
            go_wp2
            repeat (go_quiet (fail); try go_wp2)
            go_ret2
            exact ⟨by first | rfl | (simp; done) | (simp [*]; done), by repeat (first | exact Drawn0.refl _ | apply Drawn0.step)⟩
          · rw [if_neg c11] at H
            have c11b0 : decide ((a0.size : Int) < 3) = false := decide_eq_false c11
            have c11b1 : decide (a0.size < 3) = false := decide_eq_false (by omega)
            clear c11
            by_cases c12 : 0 < (a0.size : Int)
            · rw [if_pos c12] at H
              have c12b0 : decide (0 < (a0.size : Int)) = true := decide_eq_true c12
              have c12b1 : decide (0 < a0.size) = true := decide_eq_true (by omega)
              clear c12
              by_cases c14 : (bt a0 0) = 120
              · rw [if_pos c14] at H
                have c14b0 : ((bt a0 0) == 120) = true := beq_iff_eq.mpr c14
                have c14b1 : ((bt a0 0) != 120) = false := bne_eq_false_iff_eq.mpr c14
                clear c14
                by_cases c15 : 1 < (a0.size : Int)
                · rw [if_pos c15] at H
                  have c15b0 : decide (1 < (a0.size : Int)) = true := decide_eq_true c15
                  have c15b1 : decide (1 < a0.size) = true := decide_eq_true (by omega)
                  clear c15
                  replace H := Option.bind_eq_some_iff.mp H
                  obtain ⟨t102, A170, H⟩ := H
                  replace H : (if 2 < (a0.size : Int) then ((text_digit.f (bt a0 2)).bind fun t103 => (if t102 < 0 then (text_escape.j1 kj2 t102 t103 true) else (text_escape.j1 kj2 t102 t103 (decide (t103 < 0))))) else (none)) = some (r1, r2) := H
                  have A17 := Aside0.mk A170
                  clear A170
                  by_cases c18 : 2 < (a0.size : Int)
                  · rw [if_pos c18] at H
                    have c18b0 : decide (2 < (a0.size : Int)) = true := decide_eq_true c18
                    have c18b1 : decide (2 < a0.size) = true := decide_eq_true (by omega)
                    clear c18
                    replace H := Option.bind_eq_some_iff.mp H
                    obtain ⟨t103, A200, H⟩ := H
                    replace H : (if t102 < 0 then (text_escape.j1 kj2 t102 t103 true) else (text_escape.j1 kj2 t102 t103 (decide (t103 < 0)))) = some (r1, r2) := H
                    have A20 := Aside0.mk A200
                    clear A200
                    have HC21 := Aside0.mk H
                    clear H
                    have p13 : 0 ≤ (0 : Int) := (by omega)
                    have q13 : 0 < a0.size := (by have : (0 : Int) < (a0.size : Int) := of_decide_eq_true (by first | (with_reducible assumption) | assumption); omega)
                    have hx13 : ∀ h : 0 < a0.size, ((a0[0]'h).toNat : Int) = bt a0 0 := bt_at a0 0
                    clear p13
                    have qi13 : (0 < (a0.size : Int)) = True := eq_true (of_decide_eq_true (by first | (with_reducible assumption) | assumption))
                    replace q13 := eq_true q13
                    have p16 : 0 ≤ (1 : Int) := (by omega)
                    have q16 : 1 < a0.size := (by have : (1 : Int) < (a0.size : Int) := of_decide_eq_true (by first | (with_reducible assumption) | assumption); omega)
                    have hx16 : ∀ h : 1 < a0.size, ((a0[1]'h).toNat : Int) = bt a0 1 := bt_at a0 1
                    clear p16
                    have qi16 : (1 < (a0.size : Int)) = True := eq_true (of_decide_eq_true (by first | (with_reducible assumption) | assumption))
                    replace q16 := eq_true q16
                    go_upto_region 8 with (first | (go_at_call 56; (with_reducible refine (text_digit.calls (bt a0 1) t102 _ A17.out).mono ?_); rintro e w' ⟨rfl, ⟨nd, rfl⟩⟩; (try first | exact ⟨rfl, _, World.drewN_drewN _ _ _⟩ | exact ⟨rfl, _, Eq.trans (World.drewN_drewN _ _ _) (congrArg (World.drewN _) (Nat.add_assoc _ _ _))⟩); have p19 : 0 ≤ (2 : Int) := (by omega); have q19 : 2 < a0.size := (by have : (2 : Int) < (a0.size : Int) := of_decide_eq_true (by first | (with_reducible assumption) | assumption); omega); have hx19 : ∀ h : 2 < a0.size, ((a0[2]'h).toNat : Int) = bt a0 2 := bt_at a0 2; clear p19; have qi19 : (2 < (a0.size : Int)) = True := eq_true (of_decide_eq_true (by first | (with_reducible assumption) | assumption)); replace q19 := eq_true q19) | (go_at_call 56; (with_reducible refine (text_digit.calls (bt a0 2) t103 _ A20.out).mono ?_); rintro e w' ⟨rfl, ⟨nd, rfl⟩⟩; (try first | exact ⟨rfl, _, World.drewN_drewN _ _ _⟩ | exact ⟨rfl, _, Eq.trans (World.drewN_drewN _ _ _) (congrArg (World.drewN _) (Nat.add_assoc _ _ _))⟩)))
                    repeat (go_quiet (first | (go_at_call 56; (with_reducible refine (text_digit.calls (bt a0 1) t102 _ A17.out).mono ?_); rintro e w' ⟨rfl, ⟨nd, rfl⟩⟩; (try first | exact ⟨rfl, _, World.drewN_drewN _ _ _⟩ | exact ⟨rfl, _, Eq.trans (World.drewN_drewN _ _ _) (congrArg (World.drewN _) (Nat.add_assoc _ _ _))⟩); have p19 : 0 ≤ (2 : Int) := (by omega); have q19 : 2 < a0.size := (by have : (2 : Int) < (a0.size : Int) := of_decide_eq_true (by first | (with_reducible assumption) | assumption); omega); have hx19 : ∀ h : 2 < a0.size, ((a0[2]'h).toNat : Int) = bt a0 2 := bt_at a0 2; clear p19; have qi19 : (2 < (a0.size : Int)) = True := eq_true (of_decide_eq_true (by first | (with_reducible assumption) | assumption)); replace q19 := eq_true q19) | (go_at_call 56; (with_reducible refine (text_digit.calls (bt a0 2) t103 _ A20.out).mono ?_); rintro e w' ⟨rfl, ⟨nd, rfl⟩⟩; (try first | exact ⟨rfl, _, World.drewN_drewN _ _ _⟩ | exact ⟨rfl, _, Eq.trans (World.drewN_drewN _ _ _) (congrArg (World.drewN _) (Nat.add_assoc _ _ _))⟩))); go_upto_region 8 with (first | (go_at_call 56; (with_reducible refine (text_digit.calls (bt a0 1) t102 _ A17.out).mono ?_); rintro e w' ⟨rfl, ⟨nd, rfl⟩⟩; (try first | exact ⟨rfl, _, World.drewN_drewN _ _ _⟩ | exact ⟨rfl, _, Eq.trans (World.drewN_drewN _ _ _) (congrArg (World.drewN _) (Nat.add_assoc _ _ _))⟩); have p19 : 0 ≤ (2 : Int) := (by omega); have q19 : 2 < a0.size := (by have : (2 : Int) < (a0.size : Int) := of_decide_eq_true (by first | (with_reducible assumption) | assumption); omega); have hx19 : ∀ h : 2 < a0.size, ((a0[2]'h).toNat : Int) = bt a0 2 := bt_at a0 2; clear p19; have qi19 : (2 < (a0.size : Int)) = True := eq_true (of_decide_eq_true (by first | (with_reducible assumption) | assumption)); replace q19 := eq_true q19) | (go_at_call 56; (with_reducible refine (text_digit.calls (bt a0 2) t103 _ A20.out).mono ?_); rintro e w' ⟨rfl, ⟨nd, rfl⟩⟩; (try first | exact ⟨rfl, _, World.drewN_drewN _ _ _⟩ | exact ⟨rfl, _, Eq.trans (World.drewN_drewN _ _ _) (congrArg (World.drewN _) (Nat.add_assoc _ _ _))⟩))))
                    (try simp only [Act.put, List.setIfInBounds_toArray, List.set_cons_zero, List.set_cons_succ])
                    go_cut [41] (fun v41 wc => ∃ (kq : Nat) (x41_20 : Bool), v41 = .bool x41_20 ∧ Aside0 (text_escape.j1 kq t102 t103 x41_20 = some (r1, r2)) ∧ Aside0 (kq ≤ kj2) ∧ Drawn0 w wc)
                    case first =>
                      have H := HC21.out
                      clear HC21
                      by_cases c22 : t102 < 0
                      · rw [if_pos c22] at H
                        have c22b0 : decide (t102 < 0) = true := decide_eq_true c22
                        clear c22
                        (first | rw [c22b0] | (simp only [i64_w, i32_w]; rw [c22b0]) | skip)
                        have H' := Aside0.mk H
                        clear H
                        go_wp2
                        repeat (go_quiet (fail); try go_wp2)
                        go_meet
                        case rel => exact ⟨_, (true), (by first | rfl | (simp; done) | (simp [*]; done)), H', ⟨by have := HJ2.out; first | omega | exact Nat.le_refl _⟩, by repeat (first | exact Drawn0.refl _ | apply Drawn0.step)⟩
                      · rw [if_neg c22] at H
                        have c22b0 : decide (t102 < 0) = false := decide_eq_false c22
                        clear c22
                        (first | rw [c22b0] | (simp only [i64_w, i32_w]; rw [c22b0]) | skip)
                        have H' := Aside0.mk H
                        clear H
                        go_wp2
                        repeat (go_quiet (fail); try go_wp2)
                        go_meet
                        case rel => exact ⟨_, (decide (t103 < 0)), (by first | rfl | (simp; done) | (simp [*]; done)), H', ⟨by have := HJ2.out; first | omega | exact Nat.le_refl _⟩, by repeat (first | exact Drawn0.refl _ | apply Drawn0.step)⟩
                    case rest =>
                      clear HC21
                      try clear c1
                      try clear p1
                      try clear q1
                      try clear hx1
                      try clear qi1
                      try clear c2
                      try clear c2b0
                      try clear c2b1
                      try clear p2
                      try clear c4
                      try clear c4b0
                      try clear c4b1
                      try clear p5
                      try clear q5
                      try clear hx5
                      try clear qi5
                      try clear c6
                      try clear c6b0
                      try clear c6b1
                      try clear p7
                      try clear q7
                      try clear hx7
                      try clear qi7
                      try clear c8
                      try clear c9
                      try clear c9b0
                      try clear c9b1
                      try clear p10
                      try clear q10
                      try clear hx10
                      try clear qi10
                      try clear c11
                      try clear c11b0
                      try clear c11b1
                      try clear c12
                      try clear c12b0
                      try clear c12b1
                      try clear p13
                      try clear q13
                      try clear hx13
                      try clear qi13
                      try clear c14
                      try clear c14b0
                      try clear c14b1
                      try clear c15
                      try clear c15b0
                      try clear c15b1
                      try clear p16
                      try clear q16
                      try clear hx16
                      try clear qi16
                      try clear c18
                      try clear c18b0
                      try clear c18b1
                      try clear p19
                      try clear q19
                      try clear hx19
                      try clear qi19
                      try clear c22
                      try clear c22b0
                      try clear p10
                      try clear p13
                      try clear p16
                      try clear p19
                      try clear p2
                      try clear p5
                      try clear p7
                      try clear q10
                      try clear q13
                      try clear q16
                      try clear q19
                      try clear q5
                      try clear q7
                      obtain ⟨kq, x41_20, rfl, HA, HJ20, ⟨mc20, rfl⟩⟩ := hcut
                      cases kq with
                      | zero => exact absurd HA.out (by simp [text_escape.j1])
                      | succ kj20 =>
                        have H := HA.out
                        clear HA
                        simp only [text_escape.j1] at H
                        by_cases c23 : x41_20 = true
                        · subst c23
                          have H1 : (some (0, 0)) = some (r1, r2) := by rw [if_pos rfl] at H; exact H
                          clear H
                          have H := H1
                          clear H1
                          simp only [Option.some.injEq, Prod.mk.injEq] at H
                          obtain ⟨rfl, rfl⟩ := H
                          go_wp2
                          repeat (go_quiet (fail); try go_wp2)
                          go_ret2
                          exact ⟨by first | rfl | (simp; done) | (simp [*]; done), by repeat (first | exact Drawn0.refl _ | apply Drawn0.step)⟩
                        · replace c23 := Bool.eq_false_iff.mpr c23
                          subst c23
                          have H1 : (if ((Go.bits .or .i64 (wrap64 (t102 * 16)) t103) % 256) ≥ 32 then (if ((Go.bits .or .i64 (wrap64 (t102 * 16)) t103) % 256) ≤ 126 then (some (0, 0)) else (some ((Go.bits .or .i64 (wrap64 (t102 * 16)) t103) % 256, 3))) else (some ((Go.bits .or .i64 (wrap64 (t102 * 16)) t103) % 256, 3))) = some (r1, r2) := by rw [if_neg (show ¬ (false = true) by decide)] at H; exact H
                          clear H
                          have H := H1
                          clear H1
                          by_cases c24 : ((Go.bits .or .i64 (wrap64 (t102 * 16)) t103) % 256) ≥ 32
                          · rw [if_pos c24] at H
                            have c24b0 : decide (32 ≤ ((Go.bits .or .i64 (wrap64 (t102 * 16)) t103) % 256)) = true := decide_eq_true c24
                            clear c24
                            by_cases c25 : ((Go.bits .or .i64 (wrap64 (t102 * 16)) t103) % 256) ≤ 126
                            · rw [if_pos c25] at H
                              have c25b0 : decide (((Go.bits .or .i64 (wrap64 (t102 * 16)) t103) % 256) ≤ 126) = true := decide_eq_true c25
                              clear c25
                              simp only [Option.some.injEq, Prod.mk.injEq] at H
                              obtain ⟨rfl, rfl⟩ := H
                              go_wp2
                              repeat (go_quiet (fail); try go_wp2)
                              go_ret2
                              exact ⟨by first | rfl | (simp; done) | (simp [*]; done), by repeat (first | exact Drawn0.refl _ | apply Drawn0.step)⟩
                            · rw [if_neg c25] at H
                              have c25b0 : decide (((Go.bits .or .i64 (wrap64 (t102 * 16)) t103) % 256) ≤ 126) = false := decide_eq_false c25
                              clear c25
                              simp only [Option.some.injEq, Prod.mk.injEq] at H
                              obtain ⟨rfl, rfl⟩ := H
                              go_wp2
                              repeat (go_quiet (fail); try go_wp2)
                              go_ret2
                              exact ⟨by first | rfl | (simp; done) | (simp [*]; done), by repeat (first | exact Drawn0.refl _ | apply Drawn0.step)⟩
                          · rw [if_neg c24] at H
                            have c24b0 : decide (32 ≤ ((Go.bits .or .i64 (wrap64 (t102 * 16)) t103) % 256)) = false := decide_eq_false c24
                            clear c24
                            simp only [Option.some.injEq, Prod.mk.injEq] at H
                            obtain ⟨rfl, rfl⟩ := H
                            go_wp2
                            repeat (go_quiet (fail); try go_wp2)
                            go_ret2
                            exact ⟨by first | rfl | (simp; done) | (simp [*]; done), by repeat (first | exact Drawn0.refl _ | apply Drawn0.step)⟩
                  · rw [if_neg c18] at H
                    exact absurd H (by simp)
                · rw [if_neg c15] at H
                  exact absurd H (by simp)
              · rw [if_neg c14] at H
                have c14b0 : ((bt a0 0) == 120) = false := beq_eq_false_iff_ne.mpr c14
                have c14b1 : ((bt a0 0) != 120) = true := bne_iff_ne.mpr c14
                simp only [Option.some.injEq, Prod.mk.injEq] at H
                obtain ⟨rfl, rfl⟩ := H
                have p13 : 0 ≤ (0 : Int) := (by omega)
                have q13 : 0 < a0.size := (by have : (0 : Int) < (a0.size : Int) := of_decide_eq_true (by first | (with_reducible assumption) | assumption); omega)
                have hx13 : ∀ h : 0 < a0.size, ((a0[0]'h).toNat : Int) = bt a0 0 := bt_at a0 0
                clear p13
                have qi13 : (0 < (a0.size : Int)) = True := eq_true (of_decide_eq_true (by first | (with_reducible assumption) | assumption))
                replace q13 := eq_true q13
                go_wp2
                repeat (go_quiet (fail); try go_wp2)
                go_ret2
                exact ⟨by first | rfl | (simp; done) | (simp [*]; done), by repeat (first | exact Drawn0.refl _ | apply Drawn0.step)⟩
            · rw [if_neg c12] at H
              exact absurd H (by simp)
end Go.Proofs.YtkenihkjdbdlkaaDoor.XBare
