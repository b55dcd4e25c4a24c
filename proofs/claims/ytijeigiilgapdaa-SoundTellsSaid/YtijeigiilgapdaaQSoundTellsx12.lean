/- Written by a program of this session (wip/tools/mp.sh): functions as Lean functions, with proofs that the calls come to what they say. Lean checks it. -/
import Derived.Test.YtijeigiilgapdaaQSoundTellsx0
import Derived.Test.YtijeigiilgapdaaXWd
namespace Go.Proofs.Ytijeigiilgapdaa.QSoundTells
open Go.RowKit Go.Proofs.YtijeigiilgapdaaW.PrintWords Go.Proofs.YtijeigiilgapdaaW.PrintLast Go.Proofs.YtijeigiilgapdaaW.PrintMore
attribute [local go_sem] max2_int min2_int max_two min_two max_three min_three max_four min_four   -- for this text's walks alone
set_option linter.unusedVariables false
set_option linter.unusedSimpArgs false

/-! ### prebendref01_Fits: function 47 -/
def prebendref01_Fits.f (a0 : Int) : Option (Bool) := if a0 ≥ (-1152921504606846976) then (some (decide (a0 ≤ 1152921504606846976))) else (some false)
set_option maxHeartbeats 8000000 in
set_option maxRecDepth 100000 in
theorem prebendref01_Fits.calls (a0 : Int) (r : Bool) (w : World) (h : prebendref01_Fits.f a0 = some r) :
  Calls Try.prog 47 #[.int .i64 a0] w fun e w' => e = .returned (.bool r) ∧ Drawn0 w w' := by
 have H : (if a0 ≥ (-1152921504606846976) then (some (decide (a0 ≤ 1152921504606846976))) else (some false)) = some r := h; clear h
 by_cases c2 : a0 ≥ (-1152921504606846976)
 ·rw [if_pos c2] at H
  have c2b0 := decide_eq_true c2; clear c2; obtain rfl := Option.some.inj H
  go_enter Try.func47, Try.ntmps47
  go_wp2; go_ret; exact ⟨sx, by repeat (first | exact Drawn0.refl _ | apply Drawn0.step)⟩
 ·rw [if_neg c2] at H
  have c2b0 := decide_eq_false c2; clear c2; obtain rfl := Option.some.inj H
  go_enter Try.func47, Try.ntmps47
  go_wp2; go_ret; exact ⟨sx, by repeat (first | exact Drawn0.refl _ | apply Drawn0.step)⟩

/-! ### prebendref01_Add: function 27 -/
def prebendref01_Add.l0 : Nat → List Int → Int → Int → Option (Int × Int)
 | 0, _, _, _ => none
 | k + 1, x0, x4, x5 => if x5 < (x0.length : Int) then (if 0 ≤ x5 then ((prebendref01_Fits.f (rd x0 x5)).bind fun t283 => (if t283 = true then (if (rd x0 x5) > 0 then (if x4 > (wrap64 (1152921504606846976 - (rd x0 x5))) then (some (0, 2)) else (if (rd x0 x5) < 0 then (if x4 < (wrap64 ((-1152921504606846976) - (rd x0 x5))) then (some (0, 2)) else (prebendref01_Add.l0 k x0 (wrap64 (x4 + (rd x0 x5))) (wrap64 (x5 + 1)))) else (prebendref01_Add.l0 k x0 (wrap64 (x4 + (rd x0 x5))) (wrap64 (x5 + 1))))) else (if (rd x0 x5) < 0 then (if x4 < (wrap64 ((-1152921504606846976) - (rd x0 x5))) then (some (0, 2)) else (prebendref01_Add.l0 k x0 (wrap64 (x4 + (rd x0 x5))) (wrap64 (x5 + 1)))) else (prebendref01_Add.l0 k x0 (wrap64 (x4 + (rd x0 x5))) (wrap64 (x5 + 1))))) else (some (0, 2)))) else (none)) else (some (x4, 0))
def prebendref01_Add.f (k : Nat) (l0 : List Int) : Option (Int × Int) := prebendref01_Add.l0 k l0 0 0
theorem prebendref01_Add.mono_l : ∀ k, (∀ y0 y1 y2, LeO (prebendref01_Add.l0 k y0 y1 y2) (prebendref01_Add.l0 (k + 1) y0 y1 y2))
 | 0 => fun _ _ _ r h => by simp [prebendref01_Add.l0] at h
 | k + 1 => by
  have ih0 := prebendref01_Add.mono_l k
  ·intro y0 y1 y2
   unfold prebendref01_Add.l0
   exact lo
theorem prebendref01_Add.mono : ∀ a0 k, LeO (prebendref01_Add.f k a0) (prebendref01_Add.f (k + 1) a0) := by
 intro a0 k; have ih0 := prebendref01_Add.mono_l k; unfold prebendref01_Add.f
 exact lo
set_option maxHeartbeats 8000000 in
set_option maxRecDepth 100000 in
theorem prebendref01_Add.calls (k : Nat) (A0 : Option Addr) (c0 : Nat) (l0 : List Int) (r1 : Int) (r2 : Int) (w : World) (hr0 : Kd.C (Kd.int .i64) w A0 l0.length l0) (hc0 : l0.length ≤ c0) (h : prebendref01_Add.f k l0 = some (r1, r2)) :
  Calls Try.prog 27 #[.slice A0 l0.length c0] w fun e w' => e = .returned (.tuple #[.int .i64 r1, .int .i64 r2]) ∧ Drawn0 w w' := by
 have HR0 := am hr0; have HC0 := am hc0; clear hr0 hc0; have H : (prebendref01_Add.l0 k l0 0 0) = some (r1, r2) := h; clear h; have H' := am H; clear H
 go_enter Try.func27, Try.ntmps27
 go_wp2
 go_loopg [4, 5] k (fun kq v4 v5 w' => ∃ (x4_1 : Int) (x5_1 : Int), v4 = .int .i64 x4_1 ∧ v5 = .int .i64 x5_1 ∧ Aside0 (prebendref01_Add.l0 kq l0 x4_1 x5_1 = some (r1, r2)) ∧ Aside0 (kq ≤ k) ∧ Drawn0 w w')
 case atStart => exact ⟨(0), (0), sx, sx, H', ⟨Nat.le_refl _⟩, by repeat (first | exact Drawn0.refl _ | apply Drawn0.step)⟩
 case round =>
  clear H'; obtain ⟨x4_1, x5_1, rfl, rfl, HA, HK1, ⟨m1, rfl⟩⟩ := hrel
  cases gk with
  | zero => exact absurd HA.out (by simp [prebendref01_Add.l0])
  | succ k1 =>
   have H := HA.out; clear HA; simp only [prebendref01_Add.l0] at H
   by_cases c2 : x5_1 < (l0.length : Int)
   ·rw [if_pos c2] at H
    have c2b0 := decide_eq_true c2; clear c2
    by_cases c3 : 0 ≤ x5_1
    ·rw [if_pos c3] at H
     have c3b0 := decide_eq_true c3; clear c3; replace H := Option.bind_eq_some_iff.mp H; obtain ⟨t283, A40, H⟩ := H; have A4 := am A40; clear A40
     by_cases c5 : t283 = true
     ·subst c5
      rw [if_pos rfl] at H
      by_cases c6 : (rd l0 x5_1) > 0
      ·rw [if_pos c6] at H
       have c6b0 := decide_eq_true c6; clear c6
       by_cases c7 : x4_1 > (wrap64 (1152921504606846976 - (rd l0 x5_1)))
       ·rw [if_pos c7] at H
        have c7b0 := decide_eq_true c7; clear c7; simp only [Option.some.injEq, Prod.mk.injEq] at H; obtain ⟨rfl, rfl⟩ := H; have p282 : 0 ≤ (x5_1 : Int) := of_decide_eq_true (by assumption); have q282 : x5_1 < (l0.length : Int) := of_decide_eq_true (by assumption); obtain ⟨ad282, e282, hx282_0⟩ := Kd.at_int HR0.out x5_1 p282 q282; cases e282; replace p282 := eq_true p282; replace q282 := eq_true q282; go_wp2_with (first | (refine gl (some 16) Try.func47 #[.int .i64 (rd l0 x5_1)] ?_; (with_reducible refine (prebendref01_Fits.calls (rd l0 x5_1) true _ A4.out).mono ?_); rintro e w' ⟨rfl, ⟨nd, rfl⟩⟩; refine ⟨_, rfl, ?_⟩; have p284 : 0 ≤ (x5_1 : Int) := of_decide_eq_true (by assumption); have q284 : x5_1 < (l0.length : Int) := of_decide_eq_true (by assumption); obtain ⟨ad284, e284, hx284_0⟩ := Kd.at_int HR0.out x5_1 p284 q284; obtain rfl : ad282 = ad284 := (by injection e284); replace p284 := eq_true p284; replace q284 := eq_true q284; have p285 : 0 ≤ (x5_1 : Int) := of_decide_eq_true (by assumption); have q285 : x5_1 < (l0.length : Int) := of_decide_eq_true (by assumption); obtain ⟨ad285, e285, hx285_0⟩ := Kd.at_int HR0.out x5_1 p285 q285; obtain rfl : ad282 = ad285 := (by injection e285); replace p285 := eq_true p285; replace q285 := eq_true q285))
        go_ret2
        exact ⟨sx, by repeat (first | exact Drawn0.refl _ | apply Drawn0.step)⟩
       ·rw [if_neg c7] at H
        have c7b0 := decide_eq_false c7; clear c7
        by_cases c8 : (rd l0 x5_1) < 0
        ·rw [if_pos c8] at H
         have c8b0 := decide_eq_true c8; clear c8
         by_cases c9 : x4_1 < (wrap64 ((-1152921504606846976) - (rd l0 x5_1)))
         ·rw [if_pos c9] at H
          have c9b0 := decide_eq_true c9; clear c9; simp only [Option.some.injEq, Prod.mk.injEq] at H; obtain ⟨rfl, rfl⟩ := H; have p282 : 0 ≤ (x5_1 : Int) := of_decide_eq_true (by assumption); have q282 : x5_1 < (l0.length : Int) := of_decide_eq_true (by assumption); obtain ⟨ad282, e282, hx282_0⟩ := Kd.at_int HR0.out x5_1 p282 q282; cases e282; replace p282 := eq_true p282; replace q282 := eq_true q282; go_wp2_with (first | (refine gl (some 16) Try.func47 #[.int .i64 (rd l0 x5_1)] ?_; (with_reducible refine (prebendref01_Fits.calls (rd l0 x5_1) true _ A4.out).mono ?_); rintro e w' ⟨rfl, ⟨nd, rfl⟩⟩; refine ⟨_, rfl, ?_⟩; have p284 : 0 ≤ (x5_1 : Int) := of_decide_eq_true (by assumption); have q284 : x5_1 < (l0.length : Int) := of_decide_eq_true (by assumption); obtain ⟨ad284, e284, hx284_0⟩ := Kd.at_int HR0.out x5_1 p284 q284; obtain rfl : ad282 = ad284 := (by injection e284); replace p284 := eq_true p284; replace q284 := eq_true q284; have p285 : 0 ≤ (x5_1 : Int) := of_decide_eq_true (by assumption); have q285 : x5_1 < (l0.length : Int) := of_decide_eq_true (by assumption); obtain ⟨ad285, e285, hx285_0⟩ := Kd.at_int HR0.out x5_1 p285 q285; obtain rfl : ad282 = ad285 := (by injection e285); replace p285 := eq_true p285; replace q285 := eq_true q285; have p286 : 0 ≤ (x5_1 : Int) := of_decide_eq_true (by assumption); have q286 : x5_1 < (l0.length : Int) := of_decide_eq_true (by assumption); obtain ⟨ad286, e286, hx286_0⟩ := Kd.at_int HR0.out x5_1 p286 q286; obtain rfl : ad282 = ad286 := (by injection e286); replace p286 := eq_true p286; replace q286 := eq_true q286; have p287 : 0 ≤ (x5_1 : Int) := of_decide_eq_true (by assumption); have q287 : x5_1 < (l0.length : Int) := of_decide_eq_true (by assumption); obtain ⟨ad287, e287, hx287_0⟩ := Kd.at_int HR0.out x5_1 p287 q287; obtain rfl : ad282 = ad287 := (by injection e287); replace p287 := eq_true p287; replace q287 := eq_true q287))
          go_ret2
          exact ⟨sx, by repeat (first | exact Drawn0.refl _ | apply Drawn0.step)⟩
         ·rw [if_neg c9] at H
          have c9b0 := decide_eq_false c9; clear c9; have H' := am H; clear H; have p282 : 0 ≤ (x5_1 : Int) := of_decide_eq_true (by assumption); have q282 : x5_1 < (l0.length : Int) := of_decide_eq_true (by assumption); obtain ⟨ad282, e282, hx282_0⟩ := Kd.at_int HR0.out x5_1 p282 q282; cases e282; replace p282 := eq_true p282; replace q282 := eq_true q282; go_wp2_with (first | (refine gl (some 16) Try.func47 #[.int .i64 (rd l0 x5_1)] ?_; (with_reducible refine (prebendref01_Fits.calls (rd l0 x5_1) true _ A4.out).mono ?_); rintro e w' ⟨rfl, ⟨nd, rfl⟩⟩; refine ⟨_, rfl, ?_⟩; have p284 : 0 ≤ (x5_1 : Int) := of_decide_eq_true (by assumption); have q284 : x5_1 < (l0.length : Int) := of_decide_eq_true (by assumption); obtain ⟨ad284, e284, hx284_0⟩ := Kd.at_int HR0.out x5_1 p284 q284; obtain rfl : ad282 = ad284 := (by injection e284); replace p284 := eq_true p284; replace q284 := eq_true q284; have p285 : 0 ≤ (x5_1 : Int) := of_decide_eq_true (by assumption); have q285 : x5_1 < (l0.length : Int) := of_decide_eq_true (by assumption); obtain ⟨ad285, e285, hx285_0⟩ := Kd.at_int HR0.out x5_1 p285 q285; obtain rfl : ad282 = ad285 := (by injection e285); replace p285 := eq_true p285; replace q285 := eq_true q285; have p286 : 0 ≤ (x5_1 : Int) := of_decide_eq_true (by assumption); have q286 : x5_1 < (l0.length : Int) := of_decide_eq_true (by assumption); obtain ⟨ad286, e286, hx286_0⟩ := Kd.at_int HR0.out x5_1 p286 q286; obtain rfl : ad282 = ad286 := (by injection e286); replace p286 := eq_true p286; replace q286 := eq_true q286; have p287 : 0 ≤ (x5_1 : Int) := of_decide_eq_true (by assumption); have q287 : x5_1 < (l0.length : Int) := of_decide_eq_true (by assumption); obtain ⟨ad287, e287, hx287_0⟩ := Kd.at_int HR0.out x5_1 p287 q287; obtain rfl : ad282 = ad287 := (by injection e287); replace p287 := eq_true p287; replace q287 := eq_true q287; have p288 : 0 ≤ (x5_1 : Int) := of_decide_eq_true (by assumption); have q288 : x5_1 < (l0.length : Int) := of_decide_eq_true (by assumption); obtain ⟨ad288, e288, hx288_0⟩ := Kd.at_int HR0.out x5_1 p288 q288; obtain rfl : ad282 = ad288 := (by injection e288); replace p288 := eq_true p288; replace q288 := eq_true q288))
          go_roundg k1
          case measure => have := HK1.out; omega
          case rel => exact ⟨(wrap64 (x4_1 + (rd l0 x5_1))), (wrap64 (x5_1 + 1)), sx, sx, H', ⟨by have := HK1.out; omega⟩, by repeat (first | exact Drawn0.refl _ | apply Drawn0.step)⟩
        ·rw [if_neg c8] at H
         have c8b0 := decide_eq_false c8; clear c8; have H' := am H; clear H; have p282 : 0 ≤ (x5_1 : Int) := of_decide_eq_true (by assumption); have q282 : x5_1 < (l0.length : Int) := of_decide_eq_true (by assumption); obtain ⟨ad282, e282, hx282_0⟩ := Kd.at_int HR0.out x5_1 p282 q282; cases e282; replace p282 := eq_true p282; replace q282 := eq_true q282; go_wp2_with (first | (refine gl (some 16) Try.func47 #[.int .i64 (rd l0 x5_1)] ?_; (with_reducible refine (prebendref01_Fits.calls (rd l0 x5_1) true _ A4.out).mono ?_); rintro e w' ⟨rfl, ⟨nd, rfl⟩⟩; refine ⟨_, rfl, ?_⟩; have p284 : 0 ≤ (x5_1 : Int) := of_decide_eq_true (by assumption); have q284 : x5_1 < (l0.length : Int) := of_decide_eq_true (by assumption); obtain ⟨ad284, e284, hx284_0⟩ := Kd.at_int HR0.out x5_1 p284 q284; obtain rfl : ad282 = ad284 := (by injection e284); replace p284 := eq_true p284; replace q284 := eq_true q284; have p285 : 0 ≤ (x5_1 : Int) := of_decide_eq_true (by assumption); have q285 : x5_1 < (l0.length : Int) := of_decide_eq_true (by assumption); obtain ⟨ad285, e285, hx285_0⟩ := Kd.at_int HR0.out x5_1 p285 q285; obtain rfl : ad282 = ad285 := (by injection e285); replace p285 := eq_true p285; replace q285 := eq_true q285; have p286 : 0 ≤ (x5_1 : Int) := of_decide_eq_true (by assumption); have q286 : x5_1 < (l0.length : Int) := of_decide_eq_true (by assumption); obtain ⟨ad286, e286, hx286_0⟩ := Kd.at_int HR0.out x5_1 p286 q286; obtain rfl : ad282 = ad286 := (by injection e286); replace p286 := eq_true p286; replace q286 := eq_true q286; have p289 : 0 ≤ (x5_1 : Int) := of_decide_eq_true (by assumption); have q289 : x5_1 < (l0.length : Int) := of_decide_eq_true (by assumption); obtain ⟨ad289, e289, hx289_0⟩ := Kd.at_int HR0.out x5_1 p289 q289; obtain rfl : ad282 = ad289 := (by injection e289); replace p289 := eq_true p289; replace q289 := eq_true q289))
         go_roundg k1
         case measure => have := HK1.out; omega
         case rel => exact ⟨(wrap64 (x4_1 + (rd l0 x5_1))), (wrap64 (x5_1 + 1)), sx, sx, H', ⟨by have := HK1.out; omega⟩, by repeat (first | exact Drawn0.refl _ | apply Drawn0.step)⟩
      ·rw [if_neg c6] at H
       have c6b0 := decide_eq_false c6; clear c6
       by_cases c10 : (rd l0 x5_1) < 0
       ·rw [if_pos c10] at H
        have c10b0 := decide_eq_true c10; clear c10
        by_cases c11 : x4_1 < (wrap64 ((-1152921504606846976) - (rd l0 x5_1)))
        ·rw [if_pos c11] at H
         have c11b0 := decide_eq_true c11; clear c11; simp only [Option.some.injEq, Prod.mk.injEq] at H; obtain ⟨rfl, rfl⟩ := H; have p282 : 0 ≤ (x5_1 : Int) := of_decide_eq_true (by assumption); have q282 : x5_1 < (l0.length : Int) := of_decide_eq_true (by assumption); obtain ⟨ad282, e282, hx282_0⟩ := Kd.at_int HR0.out x5_1 p282 q282; cases e282; replace p282 := eq_true p282; replace q282 := eq_true q282; go_wp2_with (first | (refine gl (some 16) Try.func47 #[.int .i64 (rd l0 x5_1)] ?_; (with_reducible refine (prebendref01_Fits.calls (rd l0 x5_1) true _ A4.out).mono ?_); rintro e w' ⟨rfl, ⟨nd, rfl⟩⟩; refine ⟨_, rfl, ?_⟩; have p284 : 0 ≤ (x5_1 : Int) := of_decide_eq_true (by assumption); have q284 : x5_1 < (l0.length : Int) := of_decide_eq_true (by assumption); obtain ⟨ad284, e284, hx284_0⟩ := Kd.at_int HR0.out x5_1 p284 q284; obtain rfl : ad282 = ad284 := (by injection e284); replace p284 := eq_true p284; replace q284 := eq_true q284; have p290 : 0 ≤ (x5_1 : Int) := of_decide_eq_true (by assumption); have q290 : x5_1 < (l0.length : Int) := of_decide_eq_true (by assumption); obtain ⟨ad290, e290, hx290_0⟩ := Kd.at_int HR0.out x5_1 p290 q290; obtain rfl : ad282 = ad290 := (by injection e290); replace p290 := eq_true p290; replace q290 := eq_true q290; have p291 : 0 ≤ (x5_1 : Int) := of_decide_eq_true (by assumption); have q291 : x5_1 < (l0.length : Int) := of_decide_eq_true (by assumption); obtain ⟨ad291, e291, hx291_0⟩ := Kd.at_int HR0.out x5_1 p291 q291; obtain rfl : ad282 = ad291 := (by injection e291); replace p291 := eq_true p291; replace q291 := eq_true q291))
         go_ret2
         exact ⟨sx, by repeat (first | exact Drawn0.refl _ | apply Drawn0.step)⟩
        ·rw [if_neg c11] at H
         have c11b0 := decide_eq_false c11; clear c11; have H' := am H; clear H; have p282 : 0 ≤ (x5_1 : Int) := of_decide_eq_true (by assumption); have q282 : x5_1 < (l0.length : Int) := of_decide_eq_true (by assumption); obtain ⟨ad282, e282, hx282_0⟩ := Kd.at_int HR0.out x5_1 p282 q282; cases e282; replace p282 := eq_true p282; replace q282 := eq_true q282; go_wp2_with (first | (refine gl (some 16) Try.func47 #[.int .i64 (rd l0 x5_1)] ?_; (with_reducible refine (prebendref01_Fits.calls (rd l0 x5_1) true _ A4.out).mono ?_); rintro e w' ⟨rfl, ⟨nd, rfl⟩⟩; refine ⟨_, rfl, ?_⟩; have p284 : 0 ≤ (x5_1 : Int) := of_decide_eq_true (by assumption); have q284 : x5_1 < (l0.length : Int) := of_decide_eq_true (by assumption); obtain ⟨ad284, e284, hx284_0⟩ := Kd.at_int HR0.out x5_1 p284 q284; obtain rfl : ad282 = ad284 := (by injection e284); replace p284 := eq_true p284; replace q284 := eq_true q284; have p290 : 0 ≤ (x5_1 : Int) := of_decide_eq_true (by assumption); have q290 : x5_1 < (l0.length : Int) := of_decide_eq_true (by assumption); obtain ⟨ad290, e290, hx290_0⟩ := Kd.at_int HR0.out x5_1 p290 q290; obtain rfl : ad282 = ad290 := (by injection e290); replace p290 := eq_true p290; replace q290 := eq_true q290; have p291 : 0 ≤ (x5_1 : Int) := of_decide_eq_true (by assumption); have q291 : x5_1 < (l0.length : Int) := of_decide_eq_true (by assumption); obtain ⟨ad291, e291, hx291_0⟩ := Kd.at_int HR0.out x5_1 p291 q291; obtain rfl : ad282 = ad291 := (by injection e291); replace p291 := eq_true p291; replace q291 := eq_true q291; have p292 : 0 ≤ (x5_1 : Int) := of_decide_eq_true (by assumption); have q292 : x5_1 < (l0.length : Int) := of_decide_eq_true (by assumption); obtain ⟨ad292, e292, hx292_0⟩ := Kd.at_int HR0.out x5_1 p292 q292; obtain rfl : ad282 = ad292 := (by injection e292); replace p292 := eq_true p292; replace q292 := eq_true q292))
         go_roundg k1
         case measure => have := HK1.out; omega
         case rel => exact ⟨(wrap64 (x4_1 + (rd l0 x5_1))), (wrap64 (x5_1 + 1)), sx, sx, H', ⟨by have := HK1.out; omega⟩, by repeat (first | exact Drawn0.refl _ | apply Drawn0.step)⟩
       ·rw [if_neg c10] at H
        have c10b0 := decide_eq_false c10; clear c10; have H' := am H; clear H; have p282 : 0 ≤ (x5_1 : Int) := of_decide_eq_true (by assumption); have q282 : x5_1 < (l0.length : Int) := of_decide_eq_true (by assumption); obtain ⟨ad282, e282, hx282_0⟩ := Kd.at_int HR0.out x5_1 p282 q282; cases e282; replace p282 := eq_true p282; replace q282 := eq_true q282; go_wp2_with (first | (refine gl (some 16) Try.func47 #[.int .i64 (rd l0 x5_1)] ?_; (with_reducible refine (prebendref01_Fits.calls (rd l0 x5_1) true _ A4.out).mono ?_); rintro e w' ⟨rfl, ⟨nd, rfl⟩⟩; refine ⟨_, rfl, ?_⟩; have p284 : 0 ≤ (x5_1 : Int) := of_decide_eq_true (by assumption); have q284 : x5_1 < (l0.length : Int) := of_decide_eq_true (by assumption); obtain ⟨ad284, e284, hx284_0⟩ := Kd.at_int HR0.out x5_1 p284 q284; obtain rfl : ad282 = ad284 := (by injection e284); replace p284 := eq_true p284; replace q284 := eq_true q284; have p290 : 0 ≤ (x5_1 : Int) := of_decide_eq_true (by assumption); have q290 : x5_1 < (l0.length : Int) := of_decide_eq_true (by assumption); obtain ⟨ad290, e290, hx290_0⟩ := Kd.at_int HR0.out x5_1 p290 q290; obtain rfl : ad282 = ad290 := (by injection e290); replace p290 := eq_true p290; replace q290 := eq_true q290; have p293 : 0 ≤ (x5_1 : Int) := of_decide_eq_true (by assumption); have q293 : x5_1 < (l0.length : Int) := of_decide_eq_true (by assumption); obtain ⟨ad293, e293, hx293_0⟩ := Kd.at_int HR0.out x5_1 p293 q293; obtain rfl : ad282 = ad293 := (by injection e293); replace p293 := eq_true p293; replace q293 := eq_true q293))
        go_roundg k1
        case measure => have := HK1.out; omega
        case rel => exact ⟨(wrap64 (x4_1 + (rd l0 x5_1))), (wrap64 (x5_1 + 1)), sx, sx, H', ⟨by have := HK1.out; omega⟩, by repeat (first | exact Drawn0.refl _ | apply Drawn0.step)⟩
     ·replace c5 := Bool.eq_false_iff.mpr c5
      subst c5; rw [if_neg (show ¬ (false = true) by decide)] at H; simp only [Option.some.injEq, Prod.mk.injEq] at H; obtain ⟨rfl, rfl⟩ := H; have p282 : 0 ≤ (x5_1 : Int) := of_decide_eq_true (by assumption); have q282 : x5_1 < (l0.length : Int) := of_decide_eq_true (by assumption); obtain ⟨ad282, e282, hx282_0⟩ := Kd.at_int HR0.out x5_1 p282 q282; cases e282; replace p282 := eq_true p282; replace q282 := eq_true q282; go_wp2_with (first | (refine gl (some 16) Try.func47 #[.int .i64 (rd l0 x5_1)] ?_; (with_reducible refine (prebendref01_Fits.calls (rd l0 x5_1) false _ A4.out).mono ?_); rintro e w' ⟨rfl, ⟨nd, rfl⟩⟩; refine ⟨_, rfl, ?_⟩))
      go_ret2
      exact ⟨sx, by repeat (first | exact Drawn0.refl _ | apply Drawn0.step)⟩
    ·rw [if_neg c3] at H
     exact absurd H (by simp)
   ·rw [if_neg c2] at H
    have c2b0 := decide_eq_false c2; clear c2; simp only [Option.some.injEq, Prod.mk.injEq] at H; obtain ⟨rfl, rfl⟩ := H; go_wp2
    go_ret2
    exact ⟨sx, by repeat (first | exact Drawn0.refl _ | apply Drawn0.step)⟩

/-! ### prebendref08_Good: function 28 -/
mutual
def prebendref08_Good.l0 : Nat → List (S34) → Int → Option (Bool)
 | 0, _, _ => none
 | k + 1, x0, x3 => if x3 < (x0.length : Int) then (if 0 ≤ x3 then (if (((rd_T34 x0 x3).f0).size : Int) < 1 then (prebendref08_Good.j1 k x0 x3 true ((rd_T34 x0 x3).f0) ((rd_T34 x0 x3).f1) ((rd_T34 x0 x3).f2)) else (if (((rd_T34 x0 x3).f0).size : Int) > 16 then (prebendref08_Good.j1 k x0 x3 true ((rd_T34 x0 x3).f0) ((rd_T34 x0 x3).f1) ((rd_T34 x0 x3).f2)) else (if ((rd_T34 x0 x3).f1) < (-1) then (prebendref08_Good.j1 k x0 x3 true ((rd_T34 x0 x3).f0) ((rd_T34 x0 x3).f1) ((rd_T34 x0 x3).f2)) else (if ((rd_T34 x0 x3).f1) > (wrap64 (x3 - 1)) then (prebendref08_Good.j1 k x0 x3 true ((rd_T34 x0 x3).f0) ((rd_T34 x0 x3).f1) ((rd_T34 x0 x3).f2)) else (if ((rd_T34 x0 x3).f2) < 0 then (prebendref08_Good.j1 k x0 x3 true ((rd_T34 x0 x3).f0) ((rd_T34 x0 x3).f1) ((rd_T34 x0 x3).f2)) else (prebendref08_Good.j1 k x0 x3 (decide (((rd_T34 x0 x3).f2) > 1152921504606846976)) ((rd_T34 x0 x3).f0) ((rd_T34 x0 x3).f1) ((rd_T34 x0 x3).f2))))))) else (none)) else (some (decide ((x0.length : Int) ≤ 8)))
def prebendref08_Good.j1 : Nat → List (S34) → Int → Bool → ByteArray → Int → Int → Option (Bool)
 | 0, _, _, _, _, _, _ => none
 | k + 1, x0, x3, x47, x296000, x296001, x296002 => if x47 = true then (some false) else (prebendref08_Good.l1 k x0 x3 0 x296000 x296001 x296002)
def prebendref08_Good.l1 : Nat → List (S34) → Int → Int → ByteArray → Int → Int → Option (Bool)
 | 0, _, _, _, _, _, _ => none
 | k + 1, x0, x3, x5, x296000, x296001, x296002 => if x5 < x3 then (if 0 ≤ x5 then (if x5 < (x0.length : Int) then (if ((rd_T34 x0 x5).f0).toList = x296000.toList then (some false) else (prebendref08_Good.l1 k x0 x3 (wrap64 (x5 + 1)) x296000 x296001 x296002)) else (none)) else (none)) else (prebendref08_Good.l0 k x0 (wrap64 (x3 + 1)))
end
def prebendref08_Good.f (k : Nat) (l0 : List (S34)) : Option (Bool) := prebendref08_Good.l0 k l0 0
theorem prebendref08_Good.mono_l : ∀ k, (∀ y0 y1, LeO (prebendref08_Good.l0 k y0 y1) (prebendref08_Good.l0 (k + 1) y0 y1)) ∧ (∀ y0 y1 y2 y3 y4 y5, LeO (prebendref08_Good.j1 k y0 y1 y2 y3 y4 y5) (prebendref08_Good.j1 (k + 1) y0 y1 y2 y3 y4 y5)) ∧ (∀ y0 y1 y2 y3 y4 y5, LeO (prebendref08_Good.l1 k y0 y1 y2 y3 y4 y5) (prebendref08_Good.l1 (k + 1) y0 y1 y2 y3 y4 y5))
 | 0 => ⟨fun _ _ r h => by simp [prebendref08_Good.l0] at h, fun _ _ _ _ _ _ r h => by simp [prebendref08_Good.j1] at h, fun _ _ _ _ _ _ r h => by simp [prebendref08_Good.l1] at h⟩
 | k + 1 => by
  obtain ⟨ih0, ih1, ih2⟩ := prebendref08_Good.mono_l k; refine ⟨?_, ?_, ?_⟩
  ·intro y0 y1
   unfold prebendref08_Good.l0
   exact lo
  ·intro y0 y1 y2 y3 y4 y5
   unfold prebendref08_Good.j1
   exact lo
  ·intro y0 y1 y2 y3 y4 y5
   unfold prebendref08_Good.l1
   exact lo
theorem prebendref08_Good.mono : ∀ a0 k, LeO (prebendref08_Good.f k a0) (prebendref08_Good.f (k + 1) a0) := by
 intro a0 k; obtain ⟨ih0, ih1, ih2⟩ := prebendref08_Good.mono_l k; unfold prebendref08_Good.f
 exact lo
set_option maxHeartbeats 8000000 in
set_option maxRecDepth 100000 in
theorem prebendref08_Good.calls (k : Nat) (A0 : Option Addr) (c0 : Nat) (l0 : List (S34)) (r : Bool) (w : World) (hr0 : Kd.C k34 w A0 l0.length l0) (hc0 : l0.length ≤ c0) (h : prebendref08_Good.f k l0 = some r) :
  Calls Try.prog 28 #[.slice A0 l0.length c0] w fun e w' => e = .returned (.bool r) ∧ Below w.heap.size w w' := by
 have hu34 := Try.underlying34; have HR0 := am hr0; have HC0 := am hc0; clear hr0 hc0; have HB := am (Below.refl w.heap.size w); have H : (prebendref08_Good.l0 k l0 0) = some r := h; clear h; have H' := am H; clear H
 go_enter Try.func28, Try.ntmps28
 go_wp2
 repeat (go_quiet (fail); try go_wp2)
 go_loopg [3] k (fun kq v3 w' => ∃ (x3_1 : Int), v3 = .int .i64 x3_1 ∧ Aside0 (prebendref08_Good.l0 kq l0 x3_1 = some r) ∧ Aside0 (kq ≤ k) ∧ Aside0 (Below w.heap.size w w'))
 case atStart => exact ⟨(0), sx, H', ⟨Nat.le_refl _⟩, ⟨HB.out⟩⟩
 case round =>
  clear H'; obtain ⟨x3_1, rfl, HA, HK1, HB⟩ := hrel
  cases gk with
  | zero => exact absurd HA.out (by simp [prebendref08_Good.l0])
  | succ k1 =>
   have H := HA.out; clear HA; simp only [prebendref08_Good.l0] at H
   by_cases c2 : x3_1 < (l0.length : Int)
   ·rw [if_pos c2] at H
    have c2b0 := decide_eq_true c2; clear c2
    by_cases c3 : 0 ≤ x3_1
    ·rw [if_pos c3] at H
     have c3b0 := decide_eq_true c3; clear c3; have HC4 := am H; clear H; have p294 : 0 ≤ (x3_1 : Int) := of_decide_eq_true (by assumption); have q294 : x3_1 < (l0.length : Int) := of_decide_eq_true (by assumption); obtain ⟨ad294, e294, hx294_0, hx294_1, hx294_2⟩ := at_T34 HR0.out x3_1 p294 q294; cases e294; replace hx294_0 := cb HB.out hx294_0; replace hx294_1 := cb HB.out hx294_1; replace hx294_2 := cb HB.out hx294_2; replace p294 := eq_true p294; replace q294 := eq_true q294
     go_upto_region 5 with (first | ((with_reducible refine gate_dst (N := 4) rfl ?_); (try (refine gate_guard (by rfl) ?_; dsimp only)); refine be (N := 4) (cs := #[.string (⟨#[]⟩ : ByteArray), .int .i64 0, .int .i64 0]) (t := 34) ?_; intro gb295 hg w5 hbox hb; have BK295 := am (hbox); have GW295 := am ((by rw [hg]; exact (below_size HB.out) : w.heap.size ≤ gb295)); have GE295 := am ((by rw [hg]; exact (below_size HB.out) : w.heap.size ≤ gb295)); replace HB := am (below_step HB.out hb); clear hb hbox hg; obtain ⟨_, _, _⟩ := c3 BK295.out; obtain ⟨_, _, _⟩ := f3 BK295.out))
     repeat (go_quiet (first | ((with_reducible refine gate_dst (N := 4) rfl ?_); (try (refine gate_guard (by rfl) ?_; dsimp only)); refine be (N := 4) (cs := #[.string (⟨#[]⟩ : ByteArray), .int .i64 0, .int .i64 0]) (t := 34) ?_; intro gb295 hg w5 hbox hb; have BK295 := am (hbox); have GW295 := am ((by rw [hg]; exact (below_size HB.out) : w.heap.size ≤ gb295)); have GE295 := am ((by rw [hg]; exact (below_size HB.out) : w.heap.size ≤ gb295)); replace HB := am (below_step HB.out hb); clear hb hbox hg; obtain ⟨_, _, _⟩ := c3 BK295.out; obtain ⟨_, _, _⟩ := f3 BK295.out)); go_upto_region 5 with (first | ((with_reducible refine gate_dst (N := 4) rfl ?_); (try (refine gate_guard (by rfl) ?_; dsimp only)); refine be (N := 4) (cs := #[.string (⟨#[]⟩ : ByteArray), .int .i64 0, .int .i64 0]) (t := 34) ?_; intro gb295 hg w5 hbox hb; have BK295 := am (hbox); have GW295 := am ((by rw [hg]; exact (below_size HB.out) : w.heap.size ≤ gb295)); have GE295 := am ((by rw [hg]; exact (below_size HB.out) : w.heap.size ≤ gb295)); replace HB := am (below_step HB.out hb); clear hb hbox hg; obtain ⟨_, _, _⟩ := c3 BK295.out; obtain ⟨_, _, _⟩ := f3 BK295.out)))
     (try simp only [Act.put, List.setIfInBounds_toArray, List.set_cons_zero, List.set_cons_succ])
     go_cut [47] (fun v47 wc => ∃ (kq : Nat) (x47_3 : Bool), v47 = .bool x47_3 ∧ Aside0 (prebendref08_Good.j1 kq l0 x3_1 x47_3 ((rd_T34 l0 x3_1).f0) ((rd_T34 l0 x3_1).f1) ((rd_T34 l0 x3_1).f2) = some r) ∧ Aside0 (kq ≤ k1) ∧ Aside0 (wc.heap[gb295]? = some (.cells #[.string ((rd_T34 l0 x3_1).f0), .int .i64 ((rd_T34 l0 x3_1).f1), .int .i64 ((rd_T34 l0 x3_1).f2)] 34 (0, 0))) ∧ Aside0 (Below w.heap.size w wc))
     case first =>
      have H := HC4.out; clear HC4
      by_cases c7 : (((rd_T34 l0 x3_1).f0).size : Int) < 1
      ·rw [if_pos c7] at H
       have c7b0 := decide_eq_true c7; have c7b1 : decide (((rd_T34 l0 x3_1).f0).size < 1) = true := decide_eq_true (by omega); clear c7
       (first | rw [c7b0] | (simp only [i64_w, i32_w]; rw [c7b0]) | skip)
       have H' := am H; clear H; obtain ⟨_, _, _⟩ := c3 BK295.out; go_wp2
       repeat (go_quiet (fail); try go_wp2)
       go_meet
       case rel => exact ⟨_, (true), sx, H', ⟨by have := HK1.out; first | omega | exact Nat.le_refl _⟩, ⟨by (with_reducible repeat first | apply kn | apply kd | apply ka); refine bp (.int .i64 0) rfl ?_; simp only [List.set]; (with_reducible repeat first | apply kn | apply kd | apply ka); refine bp (.int .i64 0) rfl ?_; simp only [List.set]; (with_reducible repeat first | apply kn | apply kd | apply ka); refine blk_put (cs := #[.string (⟨#[]⟩ : ByteArray), .int .i64 0, .int .i64 0]) ?_ 0 _ rfl; (with_reducible repeat first | apply kn | apply kd | apply ka); exact BK295.out⟩, ⟨bx⟩⟩
      ·rw [if_neg c7] at H
       have c7b0 := decide_eq_false c7; have c7b1 : decide (((rd_T34 l0 x3_1).f0).size < 1) = false := decide_eq_false (by omega); clear c7
       (first | rw [c7b0] | (simp only [i64_w, i32_w]; rw [c7b0]) | skip)
       by_cases c9 : (((rd_T34 l0 x3_1).f0).size : Int) > 16
       ·rw [if_pos c9] at H
        have c9b0 := decide_eq_true c9; have c9b1 : decide (16 < ((rd_T34 l0 x3_1).f0).size) = true := decide_eq_true (by omega); clear c9; have H' := am H; clear H; obtain ⟨_, _, _⟩ := c3 BK295.out; go_wp2
        repeat (go_quiet (fail); try go_wp2)
        go_meet
        case rel => exact ⟨_, (true), sx, H', ⟨by have := HK1.out; first | omega | exact Nat.le_refl _⟩, ⟨by (with_reducible repeat first | apply kn | apply kd | apply ka); refine bp (.int .i64 0) rfl ?_; simp only [List.set]; (with_reducible repeat first | apply kn | apply kd | apply ka); refine bp (.int .i64 0) rfl ?_; simp only [List.set]; (with_reducible repeat first | apply kn | apply kd | apply ka); refine blk_put (cs := #[.string (⟨#[]⟩ : ByteArray), .int .i64 0, .int .i64 0]) ?_ 0 _ rfl; (with_reducible repeat first | apply kn | apply kd | apply ka); exact BK295.out⟩, ⟨bx⟩⟩
       ·rw [if_neg c9] at H
        have c9b0 := decide_eq_false c9; have c9b1 : decide (16 < ((rd_T34 l0 x3_1).f0).size) = false := decide_eq_false (by omega); clear c9
        by_cases c11 : ((rd_T34 l0 x3_1).f1) < (-1)
        ·rw [if_pos c11] at H
         have c11b0 := decide_eq_true c11; clear c11; have H' := am H; clear H; obtain ⟨_, _, _⟩ := c3 BK295.out; go_wp2
         repeat (go_quiet (fail); try go_wp2)
         go_meet
         case rel => exact ⟨_, (true), sx, H', ⟨by have := HK1.out; first | omega | exact Nat.le_refl _⟩, ⟨by (with_reducible repeat first | apply kn | apply kd | apply ka); refine bp (.int .i64 0) rfl ?_; simp only [List.set]; (with_reducible repeat first | apply kn | apply kd | apply ka); refine bp (.int .i64 0) rfl ?_; simp only [List.set]; (with_reducible repeat first | apply kn | apply kd | apply ka); refine blk_put (cs := #[.string (⟨#[]⟩ : ByteArray), .int .i64 0, .int .i64 0]) ?_ 0 _ rfl; (with_reducible repeat first | apply kn | apply kd | apply ka); exact BK295.out⟩, ⟨bx⟩⟩
        ·rw [if_neg c11] at H
         have c11b0 := decide_eq_false c11; clear c11
         by_cases c13 : ((rd_T34 l0 x3_1).f1) > (wrap64 (x3_1 - 1))
         ·rw [if_pos c13] at H
          have c13b0 := decide_eq_true c13; clear c13; have H' := am H; clear H; obtain ⟨_, _, _⟩ := c3 BK295.out; go_wp2
          repeat (go_quiet (fail); try go_wp2)
          go_meet
          case rel => exact ⟨_, (true), sx, H', ⟨by have := HK1.out; first | omega | exact Nat.le_refl _⟩, ⟨by (with_reducible repeat first | apply kn | apply kd | apply ka); refine bp (.int .i64 0) rfl ?_; simp only [List.set]; (with_reducible repeat first | apply kn | apply kd | apply ka); refine bp (.int .i64 0) rfl ?_; simp only [List.set]; (with_reducible repeat first | apply kn | apply kd | apply ka); refine blk_put (cs := #[.string (⟨#[]⟩ : ByteArray), .int .i64 0, .int .i64 0]) ?_ 0 _ rfl; (with_reducible repeat first | apply kn | apply kd | apply ka); exact BK295.out⟩, ⟨bx⟩⟩
         ·rw [if_neg c13] at H
          have c13b0 := decide_eq_false c13; clear c13
          by_cases c15 : ((rd_T34 l0 x3_1).f2) < 0
          ·rw [if_pos c15] at H
           have c15b0 := decide_eq_true c15; clear c15; have H' := am H; clear H; obtain ⟨_, _, _⟩ := c3 BK295.out; go_wp2
           repeat (go_quiet (fail); try go_wp2)
           go_meet
           case rel => exact ⟨_, (true), sx, H', ⟨by have := HK1.out; first | omega | exact Nat.le_refl _⟩, ⟨by (with_reducible repeat first | apply kn | apply kd | apply ka); refine bp (.int .i64 0) rfl ?_; simp only [List.set]; (with_reducible repeat first | apply kn | apply kd | apply ka); refine bp (.int .i64 0) rfl ?_; simp only [List.set]; (with_reducible repeat first | apply kn | apply kd | apply ka); refine blk_put (cs := #[.string (⟨#[]⟩ : ByteArray), .int .i64 0, .int .i64 0]) ?_ 0 _ rfl; (with_reducible repeat first | apply kn | apply kd | apply ka); exact BK295.out⟩, ⟨bx⟩⟩
          ·rw [if_neg c15] at H
           have c15b0 := decide_eq_false c15; clear c15; have H' := am H; clear H; obtain ⟨_, _, _⟩ := c3 BK295.out; go_wp2
           repeat (go_quiet (fail); try go_wp2)
           go_meet
           case rel => exact ⟨_, (decide (((rd_T34 l0 x3_1).f2) > 1152921504606846976)), sx, H', ⟨by have := HK1.out; first | omega | exact Nat.le_refl _⟩, ⟨by (with_reducible repeat first | apply kn | apply kd | apply ka); refine bp (.int .i64 0) rfl ?_; simp only [List.set]; (with_reducible repeat first | apply kn | apply kd | apply ka); refine bp (.int .i64 0) rfl ?_; simp only [List.set]; (with_reducible repeat first | apply kn | apply kd | apply ka); refine blk_put (cs := #[.string (⟨#[]⟩ : ByteArray), .int .i64 0, .int .i64 0]) ?_ 0 _ rfl; (with_reducible repeat first | apply kn | apply kd | apply ka); exact BK295.out⟩, ⟨bx⟩⟩
     case rest =>
      clear HC4
      try clear c2
      try clear c2b0
      try clear c3
      try clear c3b0
      try clear _ _ _
      try clear hx294_0
      try clear hx294_1
      try clear hx294_2
      try clear p294
      try clear q294
      obtain ⟨kq, x47_3, rfl, HA, HJ3, BK295, HB⟩ := hcut
      cases kq with
      | zero => exact absurd HA.out (by simp [prebendref08_Good.j1])
      | succ kj3 =>
       have H := HA.out; clear HA; simp only [prebendref08_Good.j1] at H
       by_cases c18 : x47_3 = true
       ·subst c18
        rw [if_pos rfl] at H; obtain rfl := Option.some.inj H; go_wp2
        repeat (go_quiet (fail); try go_wp2)
        go_ret; exact ⟨by first | rfl | (simp [*, errW_none, errW_some] <;> rfl), HB.out⟩
       ·replace c18 := Bool.eq_false_iff.mpr c18
        subst c18
        rw [if_neg (show ¬ (false = true) by decide)] at H
        have H' := am H
        clear H
        go_wp2
        repeat (go_quiet (fail); try go_wp2)
        go_loopg [5] kj3 (fun kq v5 w' => ∃ (x5_3 : Int), v5 = .int .i64 x5_3 ∧ Aside0 (prebendref08_Good.l1 kq l0 x3_1 x5_3 ((rd_T34 l0 x3_1).f0) ((rd_T34 l0 x3_1).f1) ((rd_T34 l0 x3_1).f2) = some r) ∧ Aside0 (kq ≤ kj3) ∧ Aside0 (w'.heap[gb295]? = some (.cells #[.string ((rd_T34 l0 x3_1).f0), .int .i64 ((rd_T34 l0 x3_1).f1), .int .i64 ((rd_T34 l0 x3_1).f2)] 34 (0, 0))) ∧ Aside0 (Below w.heap.size w w'))
        case atStart => exact ⟨(0), sx, H', ⟨Nat.le_refl _⟩, ⟨BK295.out⟩, ⟨HB.out⟩⟩
        case round =>
         clear H'
         try clear c2
         try clear c2b0
         try clear c3
         try clear c3b0
         try clear c18
         try clear _ _ _
         try clear hx294_0
         try clear hx294_1
         try clear hx294_2
         try clear p294
         try clear q294
         obtain ⟨x5_3, rfl, HA, HK3, BK295, HB⟩ := hrel
         cases gk with
         | zero => exact absurd HA.out (by simp [prebendref08_Good.l1])
         | succ k3 =>
          have H := HA.out
          clear HA
          simp only [prebendref08_Good.l1] at H
          by_cases c19 : x5_3 < x3_1
          ·rw [if_pos c19] at H
           have c19b0 := decide_eq_true c19; clear c19
           by_cases c20 : 0 ≤ x5_3
           ·rw [if_pos c20] at H
            have c20b0 := decide_eq_true c20; clear c20
            by_cases c21 : x5_3 < (l0.length : Int)
            ·rw [if_pos c21] at H
             have c21b0 := decide_eq_true c21; clear c21
             by_cases c22 : ((rd_T34 l0 x5_3).f0).toList = ((rd_T34 l0 x3_1).f0).toList
             ·rw [if_pos c22] at H
              have c22b0 := beq_iff_eq.mpr c22; have c22b1 := bne_eq_false_iff_eq.mpr c22; clear c22; obtain rfl := Option.some.inj H; have p296 : 0 ≤ (x5_3 : Int) := of_decide_eq_true (by assumption); have q296 : x5_3 < (l0.length : Int) := of_decide_eq_true (by assumption); obtain ⟨ad296, e296, hx296_0, hx296_1, hx296_2⟩ := at_T34 HR0.out x5_3 p296 q296; obtain rfl : ad294 = ad296 := (by injection e296); replace hx296_0 := cb HB.out hx296_0; replace hx296_1 := cb HB.out hx296_1; replace hx296_2 := cb HB.out hx296_2; replace p296 := eq_true p296; replace q296 := eq_true q296; obtain ⟨_, _, _⟩ := c3 BK295.out; go_wp2
              repeat (go_quiet (fail); try go_wp2)
              go_ret; exact ⟨by first | rfl | (simp [*, errW_none, errW_some] <;> rfl), bx⟩
             ·rw [if_neg c22] at H
              have c22b0 := beq_eq_false_iff_ne.mpr c22; have c22b1 := bne_iff_ne.mpr c22; have H' := am H; clear H; have p296 : 0 ≤ (x5_3 : Int) := of_decide_eq_true (by assumption); have q296 : x5_3 < (l0.length : Int) := of_decide_eq_true (by assumption); obtain ⟨ad296, e296, hx296_0, hx296_1, hx296_2⟩ := at_T34 HR0.out x5_3 p296 q296; obtain rfl : ad294 = ad296 := (by injection e296); replace hx296_0 := cb HB.out hx296_0; replace hx296_1 := cb HB.out hx296_1; replace hx296_2 := cb HB.out hx296_2; replace p296 := eq_true p296; replace q296 := eq_true q296; obtain ⟨_, _, _⟩ := c3 BK295.out; go_wp2
              repeat (go_quiet (fail); try go_wp2)
              go_roundg k3
              case measure => have := HK1.out; have := HJ3.out; have := HK3.out; omega
              case rel => exact ⟨(wrap64 (x5_3 + 1)), sx, H', ⟨by have := HK1.out; have := HJ3.out; have := HK3.out; omega⟩, ⟨BK295.out⟩, ⟨bx⟩⟩
            ·rw [if_neg c21] at H
             exact absurd H (by simp)
           ·rw [if_neg c20] at H
            exact absurd H (by simp)
          ·rw [if_neg c19] at H
           have c19b0 := decide_eq_false c19; clear c19; have H' := am H; clear H; go_wp2
           repeat (go_quiet (fail); try go_wp2)
           go_roundg k3
           case measure => have := HK1.out; have := HJ3.out; have := HK3.out; omega
           case rel => exact ⟨(wrap64 (x3_1 + 1)), sx, H', ⟨by have := HK1.out; have := HJ3.out; have := HK3.out; omega⟩, ⟨HB.out⟩⟩
    ·rw [if_neg c3] at H
     exact absurd H (by simp)
   ·rw [if_neg c2] at H
    have c2b0 := decide_eq_false c2; clear c2; obtain rfl := Option.some.inj H; go_wp2
    repeat (go_quiet (fail); try go_wp2)
    go_ret; exact ⟨by first | rfl | (simp [*, errW_none, errW_some] <;> rfl), HB.out⟩

end Go.Proofs.Ytijeigiilgapdaa.QSoundTells
