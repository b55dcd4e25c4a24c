/- Written by a program of this session (wip/tools/mp.sh): functions as Lean functions, with proofs that the calls come to what they say. Lean checks it. -/
import Derived.Test.YtijeigiilgapdaaQSoundTellsx0
import Derived.Test.YtijeigiilgapdaaXWd
import Derived.Test.YtijeigiilgapdaaQSoundTellsx1
import Derived.Test.YtijeigiilgapdaaQSoundTellsx7
namespace Go.Proofs.Ytijeigiilgapdaa.QSoundTells
open Go.RowKit Go.Proofs.YtijeigiilgapdaaW.PrintWords Go.Proofs.YtijeigiilgapdaaW.PrintLast Go.Proofs.YtijeigiilgapdaaW.PrintMore
attribute [local go_sem] max2_int min2_int max_two min_two max_three min_three max_four min_four   -- for this text's walks alone
set_option linter.unusedVariables false
set_option linter.unusedSimpArgs false

/-! ### money_times: function 69 -/
def money_times.j0 : Nat → Int → Int → Int → Bool → Option (Int × Bool)
 | 0, _, _, _, _ => none
 | k + 1, x0, x1, x7, x21 => if x21 = true then (some (0, false)) else (if ((decide (x0 < 0)) != (decide (x1 < 0))) = true then (some (wrap64 (-(wrap64 (x7))), true)) else (some (wrap64 (x7), true)))
def money_times.f (k : Nat) (a0 : Int) (a1 : Int) : Option (Int × Bool) := (money_size.f a0).bind fun t176 => ((money_size.f a1).bind fun t177 => ((bits_Mul64.f t176 t177).bind fun bt178 => (if bt178.1 > 0 then (money_times.j0 k a0 a1 bt178.2 true) else (money_times.j0 k a0 a1 bt178.2 (decide (bt178.2 > 1152921504606846976))))))
theorem money_times.mono_l : ∀ k, (∀ y0 y1 y2 y3, LeO (money_times.j0 k y0 y1 y2 y3) (money_times.j0 (k + 1) y0 y1 y2 y3))
 | 0 => fun _ _ _ _ r h => by simp [money_times.j0] at h
 | k + 1 => by
  have ih0 := money_times.mono_l k
  ·intro y0 y1 y2 y3
   unfold money_times.j0
   exact lo
theorem money_times.mono : ∀ a0 a1 k, LeO (money_times.f k a0 a1) (money_times.f (k + 1) a0 a1) := by
 intro a0 a1 k
 have ih0 := money_times.mono_l k
 unfold money_times.f
 exact lo
set_option maxHeartbeats 8000000 in
set_option maxRecDepth 100000 in
theorem money_times.calls (k : Nat) (a0 : Int) (a1 : Int) (r1 : Int) (r2 : Bool) (w : World) (h : money_times.f k a0 a1 = some (r1, r2)) :
  Calls Try.prog 69 #[.int .i64 a0, .int .i64 a1] w fun e w' => e = .returned (.tuple #[.int .i64 r1, .bool r2]) ∧ Drawn0 w w' := by
 have H : ((money_size.f a0).bind fun t176 => ((money_size.f a1).bind fun t177 => ((bits_Mul64.f t176 t177).bind fun bt178 => (if bt178.1 > 0 then (money_times.j0 k a0 a1 bt178.2 true) else (money_times.j0 k a0 a1 bt178.2 (decide (bt178.2 > 1152921504606846976))))))) = some (r1, r2) := h
 clear h
 replace H := Option.bind_eq_some_iff.mp H
 obtain ⟨t176, A30, H⟩ := H
 have A3 := am A30
 clear A30
 replace H := Option.bind_eq_some_iff.mp H
 obtain ⟨t177, A40, H⟩ := H
 have A4 := am A40
 clear A40
 replace H := Option.bind_eq_some_iff.mp H
 obtain ⟨⟨t178, t179⟩, A50, H⟩ := H
 have A5 := am A50
 clear A50
 have HC6 := am H
 clear H
 go_enter Try.func69, Try.ntmps69
 go_upto_region 2 with (first | (refine gl (some 10) Try.func74 #[.int .i64 a0] ?_; (with_reducible refine (money_size.calls a0 t176 _ A3.out).mono ?_); rintro e w' ⟨rfl, ⟨nd, rfl⟩⟩; refine ⟨_, rfl, ?_⟩) | (refine gl (some 12) Try.func74 #[.int .i64 a1] ?_; (with_reducible refine (money_size.calls a1 t177 _ A4.out).mono ?_); rintro e w' ⟨rfl, ⟨nd, rfl⟩⟩; refine ⟨_, rfl, ?_⟩) | (refine gl (some 13) Try.func73 #[.int .u64 t176, .int .u64 t177] ?_; (with_reducible refine (bits_Mul64.calls t176 t177 t178 t179 _ A5.out).mono ?_); rintro e w' ⟨rfl, ⟨nd, rfl⟩⟩; refine ⟨_, rfl, ?_⟩))
 (try simp only [Act.put, List.setIfInBounds_toArray, List.set_cons_zero, List.set_cons_succ])
 go_cut [21] (fun v21 wc => ∃ (kq : Nat) (x21_5 : Bool), v21 = .bool x21_5 ∧ Aside0 (money_times.j0 kq a0 a1 t179 x21_5 = some (r1, r2)) ∧ Aside0 (kq ≤ k) ∧ Drawn0 w wc)
 case first =>
  have H := HC6.out
  clear HC6
  by_cases c7 : t178 > 0
  ·rw [if_pos c7] at H
   have c7b0 : decide (0 < t178) = true := decide_eq_true c7
   clear c7
   (first | rw [c7b0] | (simp only [i64_w, i32_w]; rw [c7b0]) | skip)
   have H' := am H
   clear H
   go_wp2
   go_meet
   case rel => exact ⟨_, (true), sx, H', ⟨by first | omega | exact Nat.le_refl _⟩, by repeat (first | exact Drawn0.refl _ | apply Drawn0.step)⟩
  ·rw [if_neg c7] at H
   have c7b0 : decide (0 < t178) = false := decide_eq_false c7
   clear c7
   (first | rw [c7b0] | (simp only [i64_w, i32_w]; rw [c7b0]) | skip)
   have H' := am H
   clear H
   go_wp2
   go_meet
   case rel => exact ⟨_, (decide (t179 > 1152921504606846976)), sx, H', ⟨by first | omega | exact Nat.le_refl _⟩, by repeat (first | exact Drawn0.refl _ | apply Drawn0.step)⟩
 case rest =>
  clear HC6
  obtain ⟨kq, x21_5, rfl, HA, HJ5, ⟨mc5, rfl⟩⟩ := hcut
  cases kq with
  | zero => exact absurd HA.out (by simp [money_times.j0])
  | succ kj5 =>
   have H := HA.out
   clear HA
   simp only [money_times.j0] at H
   by_cases c8 : x21_5 = true
   ·subst c8
    rw [if_pos rfl] at H
    simp only [Option.some.injEq, Prod.mk.injEq] at H
    obtain ⟨rfl, rfl⟩ := H
    go_wp2
    go_ret2
    exact ⟨sx, by repeat (first | exact Drawn0.refl _ | apply Drawn0.step)⟩
   ·replace c8 := Bool.eq_false_iff.mpr c8
    subst c8
    rw [if_neg (show ¬ (false = true) by decide)] at H
    by_cases c9 : ((decide (a0 < 0)) != (decide (a1 < 0))) = true
    ·rw [if_pos c9] at H
     have c9b0 : ((decide (a0 < 0)) != (decide (a1 < 0))) = true := c9
     (try (have c9b1 : decide ((decide (a0 < 0)) = (decide (a1 < 0))) = false := by simpa using c9))
     (try (have c9b2 : ((decide (a0 < 0)) == (decide (a1 < 0))) = false := by simpa using c9))
     (try (have c9b3 : ¬ ((decide (a0 < 0)) = (decide (a1 < 0))) := by simpa using c9))
     clear c9
     simp only [Option.some.injEq, Prod.mk.injEq] at H
     obtain ⟨rfl, rfl⟩ := H
     go_wp2
     go_ret2
     exact ⟨sx, by repeat (first | exact Drawn0.refl _ | apply Drawn0.step)⟩
    ·rw [if_neg c9] at H
     have c9b0 : ((decide (a0 < 0)) != (decide (a1 < 0))) = false := by simpa using c9
     (try (have c9b1 : decide ((decide (a0 < 0)) = (decide (a1 < 0))) = true := by simpa using c9))
     (try (have c9b2 : ((decide (a0 < 0)) == (decide (a1 < 0))) = true := by simpa using c9))
     clear c9
     simp only [Option.some.injEq, Prod.mk.injEq] at H
     obtain ⟨rfl, rfl⟩ := H
     go_wp2
     go_ret2
     exact ⟨sx, by repeat (first | exact Drawn0.refl _ | apply Drawn0.step)⟩

/-! ### money_Mul: function 59 -/
def money_Mul.l0 : Nat → Int → List Int → Int → Int → Option (Int × Int)
 | 0, _, _, _, _ => none
 | k + 1, x4, x9, x10, x11 => if x11 < x10 then (if 0 ≤ x11 then (if x11 < (x9.length : Int) then ((money_fits.f (rd x9 x11)).bind fun t181 => (if t181 = true then ((money_times.f k x4 (rd x9 x11)).bind fun bt182 => (if bt182.2 = true then (money_Mul.l0 k bt182.1 x9 x10 (wrap64 (x11 + 1))) else (some (0, 2)))) else (some (0, 2)))) else (none)) else (none)) else (some (x4, 0))
def money_Mul.f (k : Nat) (l0 : List Int) : Option (Int × Int) := money_Mul.l0 k 1 l0 (l0.length : Int) 0
theorem money_Mul.mono_l : ∀ k, (∀ y0 y1 y2 y3, LeO (money_Mul.l0 k y0 y1 y2 y3) (money_Mul.l0 (k + 1) y0 y1 y2 y3))
 | 0 => fun _ _ _ _ r h => by simp [money_Mul.l0] at h
 | k + 1 => by
  have ih0 := money_Mul.mono_l k
  ·intro y0 y1 y2 y3
   unfold money_Mul.l0
   have ih9 := @money_times.mono; exact lo
theorem money_Mul.mono : ∀ a0 k, LeO (money_Mul.f k a0) (money_Mul.f (k + 1) a0) := by
 intro a0 k
 have ih0 := money_Mul.mono_l k
 unfold money_Mul.f
 have ih9 := @money_times.mono; exact lo
set_option maxHeartbeats 8000000 in
set_option maxRecDepth 100000 in
theorem money_Mul.calls (k : Nat) (A0 : Option Addr) (c0 : Nat) (l0 : List Int) (r1 : Int) (r2 : Int) (w : World) (hr0 : Kd.C (Kd.int .i64) w A0 l0.length l0) (hc0 : l0.length ≤ c0) (h : money_Mul.f k l0 = some (r1, r2)) :
  Calls Try.prog 59 #[.slice A0 l0.length c0] w fun e w' => e = .returned (.tuple #[.int .i64 r1, .int .i64 r2]) ∧ Drawn0 w w' := by
 have HR0 := am hr0
 have HC0 := am hc0
 clear hr0 hc0
 have H : (money_Mul.l0 k 1 l0 (l0.length : Int) 0) = some (r1, r2) := h
 clear h
 have H' := am H
 clear H
 go_enter Try.func59, Try.ntmps59
 go_wp2
 go_loopg [4, 11] k (fun kq v4 v11 w' => ∃ (x4_1 : Int) (x11_1 : Int), v4 = .int .i64 x4_1 ∧ v11 = .int .i64 x11_1 ∧ Aside0 (money_Mul.l0 kq x4_1 l0 (l0.length : Int) x11_1 = some (r1, r2)) ∧ Aside0 (kq ≤ k) ∧ Drawn0 w w')
 case atStart => exact ⟨(1), (0), sx, sx, H', ⟨Nat.le_refl _⟩, by repeat (first | exact Drawn0.refl _ | apply Drawn0.step)⟩
 case round =>
  clear H'
  obtain ⟨x4_1, x11_1, rfl, rfl, HA, HK1, ⟨m1, rfl⟩⟩ := hrel
  cases gk with
  | zero => exact absurd HA.out (by simp [money_Mul.l0])
  | succ k1 =>
   have H := HA.out
   clear HA
   simp only [money_Mul.l0] at H
   by_cases c2 : x11_1 < (l0.length : Int)
   ·rw [if_pos c2] at H
    have c2b0 : decide (x11_1 < (l0.length : Int)) = true := decide_eq_true c2
    clear c2
    by_cases c3 : 0 ≤ x11_1
    ·rw [if_pos c3] at H
     have c3b0 : decide (0 ≤ x11_1) = true := decide_eq_true c3
     clear c3
     by_cases c4 : x11_1 < (l0.length : Int)
     ·rw [if_pos c4] at H
      have c4b0 : decide (x11_1 < (l0.length : Int)) = true := decide_eq_true c4
      clear c4
      replace H := Option.bind_eq_some_iff.mp H
      obtain ⟨t181, A50, H⟩ := H
      have A5 := am A50
      clear A50
      by_cases c6 : t181 = true
      ·subst c6
       rw [if_pos rfl] at H
       replace H := Option.bind_eq_some_iff.mp H
       obtain ⟨⟨t182, t183⟩, A70, H⟩ := H
       have A7 := am A70
       clear A70
       by_cases c8 : t183 = true
       ·subst c8
        rw [if_pos rfl] at H
        have H' := am H
        clear H
        have p180 : 0 ≤ (x11_1 : Int) := of_decide_eq_true (by assumption)
        have q180 : x11_1 < (l0.length : Int) := of_decide_eq_true (by assumption)
        obtain ⟨ad180, e180, hx180_0⟩ := Kd.at_int HR0.out x11_1 p180 q180
        cases e180
        replace p180 := eq_true p180
        replace q180 := eq_true q180
        go_wp2_with (first | (refine gl (some 16) Try.func66 #[.int .i64 (rd l0 x11_1)] ?_; (with_reducible refine (money_fits.calls (rd l0 x11_1) true _ A5.out).mono ?_); rintro e w' ⟨rfl, ⟨nd, rfl⟩⟩; refine ⟨_, rfl, ?_⟩) | (refine gl (some 21) Try.func69 #[.int .i64 x4_1, .int .i64 (rd l0 x11_1)] ?_; (with_reducible refine (money_times.calls k1 x4_1 (rd l0 x11_1) t182 true _ A7.out).mono ?_); rintro e w' ⟨rfl, ⟨nd, rfl⟩⟩; refine ⟨_, rfl, ?_⟩))
        go_roundg k1
        case measure => have := HK1.out; omega
        case rel => exact ⟨(t182), (wrap64 (x11_1 + 1)), sx, sx, H', ⟨by have := HK1.out; omega⟩, by repeat (first | exact Drawn0.refl _ | apply Drawn0.step)⟩
       ·replace c8 := Bool.eq_false_iff.mpr c8
        subst c8
        rw [if_neg (show ¬ (false = true) by decide)] at H
        simp only [Option.some.injEq, Prod.mk.injEq] at H
        obtain ⟨rfl, rfl⟩ := H
        have p180 : 0 ≤ (x11_1 : Int) := of_decide_eq_true (by assumption)
        have q180 : x11_1 < (l0.length : Int) := of_decide_eq_true (by assumption)
        obtain ⟨ad180, e180, hx180_0⟩ := Kd.at_int HR0.out x11_1 p180 q180
        cases e180
        replace p180 := eq_true p180
        replace q180 := eq_true q180
        go_wp2_with (first | (refine gl (some 16) Try.func66 #[.int .i64 (rd l0 x11_1)] ?_; (with_reducible refine (money_fits.calls (rd l0 x11_1) true _ A5.out).mono ?_); rintro e w' ⟨rfl, ⟨nd, rfl⟩⟩; refine ⟨_, rfl, ?_⟩) | (refine gl (some 21) Try.func69 #[.int .i64 x4_1, .int .i64 (rd l0 x11_1)] ?_; (with_reducible refine (money_times.calls k1 x4_1 (rd l0 x11_1) t182 false _ A7.out).mono ?_); rintro e w' ⟨rfl, ⟨nd, rfl⟩⟩; refine ⟨_, rfl, ?_⟩))
        go_ret2
        exact ⟨sx, by repeat (first | exact Drawn0.refl _ | apply Drawn0.step)⟩
      ·replace c6 := Bool.eq_false_iff.mpr c6
       subst c6
       rw [if_neg (show ¬ (false = true) by decide)] at H
       simp only [Option.some.injEq, Prod.mk.injEq] at H
       obtain ⟨rfl, rfl⟩ := H
       have p180 : 0 ≤ (x11_1 : Int) := of_decide_eq_true (by assumption)
       have q180 : x11_1 < (l0.length : Int) := of_decide_eq_true (by assumption)
       obtain ⟨ad180, e180, hx180_0⟩ := Kd.at_int HR0.out x11_1 p180 q180
       cases e180
       replace p180 := eq_true p180
       replace q180 := eq_true q180
       go_wp2_with (first | (refine gl (some 16) Try.func66 #[.int .i64 (rd l0 x11_1)] ?_; (with_reducible refine (money_fits.calls (rd l0 x11_1) false _ A5.out).mono ?_); rintro e w' ⟨rfl, ⟨nd, rfl⟩⟩; refine ⟨_, rfl, ?_⟩))
       go_ret2
       exact ⟨sx, by repeat (first | exact Drawn0.refl _ | apply Drawn0.step)⟩
     ·rw [if_neg c4] at H
      exact absurd H (by simp)
    ·rw [if_neg c3] at H
     exact absurd H (by simp)
   ·rw [if_neg c2] at H
    have c2b0 : decide (x11_1 < (l0.length : Int)) = false := decide_eq_false c2
    clear c2
    simp only [Option.some.injEq, Prod.mk.injEq] at H
    obtain ⟨rfl, rfl⟩ := H
    go_wp2
    go_ret2
    exact ⟨sx, by repeat (first | exact Drawn0.refl _ | apply Drawn0.step)⟩

/-! ### money_Cost: function 43 -/
def money_Cost.f (k : Nat) (a0 : Int) (a1 : Int) (a2 : Int) : Option (Int × Int) := if (mn (mn a0 a1) a2) < 0 then (some (0, 1)) else ((money_Mul.f k (([a0, a1, a2] : List Int))).bind fun bt187 => (some (bt187.1, bt187.2)))
theorem money_Cost.mono : ∀ a0 a1 a2 k, LeO (money_Cost.f k a0 a1 a2) (money_Cost.f (k + 1) a0 a1 a2) := by
 intro a0 a1 a2 k
 unfold money_Cost.f
 have ih9 := @money_Mul.mono; exact lo
set_option maxHeartbeats 8000000 in
set_option maxRecDepth 100000 in
theorem money_Cost.calls (k : Nat) (a0 : Int) (a1 : Int) (a2 : Int) (r1 : Int) (r2 : Int) (w : World) (h : money_Cost.f k a0 a1 a2 = some (r1, r2)) :
  Calls Try.prog 43 #[.int .i64 a0, .int .i64 a1, .int .i64 a2] w fun e w' => e = .returned (.tuple #[.int .i64 r1, .int .i64 r2]) ∧ Below w.heap.size w w' := by
 have HB := am (Below.refl w.heap.size w)
 have H : (if (mn (mn a0 a1) a2) < 0 then (some (0, 1)) else ((money_Mul.f k (([a0, a1, a2] : List Int))).bind fun bt187 => (some (bt187.1, bt187.2)))) = some (r1, r2) := h
 clear h
 obtain ⟨ji4, hji4⟩ : ∃ j_ : Int, (mn a0 a1) = j_ := ⟨_, rfl⟩
 replace H : (if (mn (ji4) a2) < 0 then (some (0, 1)) else ((money_Mul.f k (([a0, a1, a2] : List Int))).bind fun bt187 => (some (bt187.1, bt187.2)))) = some (r1, r2) := by first | (rw [hji4] at H; exact H) | (simp only [hji4] at H ⊢; exact H)
 have hji4_ : (if a1 < a0 then a1 else a0) = ji4 := hji4
 obtain ⟨ji5, hji5⟩ : ∃ j_ : Int, (mn (ji4) a2) = j_ := ⟨_, rfl⟩
 replace H : (if (ji5) < 0 then (some (0, 1)) else ((money_Mul.f k (([a0, a1, a2] : List Int))).bind fun bt187 => (some (bt187.1, bt187.2)))) = some (r1, r2) := by first | (rw [hji5] at H; exact H) | (simp only [hji5] at H ⊢; exact H)
 have hji5_ : (if a2 < (ji4) then a2 else (ji4)) = ji5 := hji5
 by_cases c6 : (ji5) < 0
 ·rw [if_pos c6] at H
  have c6b0 : decide ((ji5) < 0) = true := decide_eq_true c6
  clear c6
  simp only [Option.some.injEq, Prod.mk.injEq] at H
  obtain ⟨rfl, rfl⟩ := H
  go_enter Try.func43, Try.ntmps43
  go_wp2
  go_ret2
  exact ⟨by first | rfl | (simp [errW_none, errW_some] <;> rfl) | (simp only [← hji4, ← hji5]; first | rfl | (simp [errW_none, errW_some] <;> rfl)) | (simp [*, errW_none, errW_some] <;> rfl), bx⟩
 ·rw [if_neg c6] at H
  have c6b0 : decide ((ji5) < 0) = false := decide_eq_false c6
  clear c6
  obtain ⟨y184, hy184⟩ : ∃ y_ : List Int, y_ = (([a0, a1, a2] : List Int)) := ⟨_, rfl⟩
  replace H : ((money_Mul.f k y184).bind fun bt187 => (some (bt187.1, bt187.2))) = some (r1, r2) := by first | (rw [hy184]; with_reducible exact H) | (have H2_ := (Option.bind_some _ _).symm.trans H; rw [hy184]; with_reducible exact H2_) | (have H2_ := (Option.bind_some _ _).symm.trans H; with_reducible exact H2_) | with_reducible exact H | (rw [hy184]; exact H) | exact H
  have Ny184 := am hy184
  clear hy184
  replace H := Option.bind_eq_some_iff.mp H
  obtain ⟨⟨t187, t188⟩, A70, H⟩ := H
  have A7 := am A70
  clear A70
  simp only [Option.some.injEq, Prod.mk.injEq] at H
  obtain ⟨rfl, rfl⟩ := H
  go_enter Try.func43, Try.ntmps43
  go_wp2_with (first | ((with_reducible refine gate_dst (N := 16) rfl ?_); refine Kd.R_lit (Kd.int .i64) _ 3 ?hg (N := 16) ?hd (xs := ([a0, a1, a2] : List Int)) (inner := [.int .i64 a0, .int .i64 a1, .int .i64 a2]) (ok := fun _ => True) (okp := fun _ => True) ?hr ?hp (fun _ hk => hk) trivial (Below.refl _ _) (Nat.le_refl _) (by simp) ?_; (case hd => rfl); (case hg => rfl); (case hr => first | (go_simp; done) | (go_simp; rfl)); (case hp => exact (Reps.one (show Kd.M (Kd.int .i64) _ _ _ a0 [.int .i64 a0] from rfl) (Reps.one (show Kd.M (Kd.int .i64) _ _ _ a1 [.int .i64 a1] from rfl) (Reps.one (show Kd.M (Kd.int .i64) _ _ _ a2 [.int .i64 a2] from rfl) (Reps.none _ _))))); intro v185 w8 ho9 hb hg_ hnew_; clear hg_ hnew_; (first | rw [← Ny184.out] at ho9 | (simp only [Int.reduceToNat] at ho9; rw [← Ny184.out] at ho9)); have HO186 := am (Kd.R_lower ho9 (below_size bx)); replace HB := am (below_step bx hb); clear hb ho9; obtain ⟨Ao10, co10, eo10⟩ := Kd.R_slice HO186.out; subst eo10) | (refine gl (some 17) Try.func59 #[.slice Ao10 y184.length co10] ?_; (with_reducible refine (money_Mul.calls k _ _ y184 t187 t188 _ ?side1 ?side2 A7.out).mono ?_); (case side1 => repeat (first | exact (Kd.R_reads' HO186.out).2.2 | (with_reducible refine Kd.C_alloc ?_ _) | (with_reducible refine Kd.C_drewN ?_ _) | (with_reducible refine Kd.C_drew ?_))); (case side2 => exact (Kd.R_reads' HO186.out).2.1); rintro e w' ⟨rfl, ⟨nd, rfl⟩⟩; refine ⟨_, rfl, ?_⟩))
  go_ret2
  exact ⟨by first | rfl | (simp [errW_none, errW_some] <;> rfl) | (simp only [← hji4, ← hji5]; first | rfl | (simp [errW_none, errW_some] <;> rfl)) | (simp [*, errW_none, errW_some] <;> rfl), bx⟩

/-! ### draw_Total: function 44 -/
def draw_Total.l0 : Nat → List Int → List (S60) → Int → Int → Option (Int × Int)
 | 0, _, _, _, _ => none
 | k + 1, x4, x7, x8, x9 => if x9 < x8 then (if 0 ≤ x9 then (if x9 < (x7.length : Int) then (if x4.length < 17592186044416 then (draw_Total.l0 k (x4 ++ [(rd_T60 x7 x9).f1]) x7 x8 (wrap64 (x9 + 1))) else (none)) else (none)) else (none)) else ((money_Add.f k x4).bind fun bt194 => (some (bt194.1, bt194.2)))
def draw_Total.f (k : Nat) (l0 : List (S60)) : Option (Int × Int) := draw_Total.l0 k ([] : List Int) l0 (l0.length : Int) 0
theorem draw_Total.mono_l : ∀ k, (∀ y0 y1 y2 y3, LeO (draw_Total.l0 k y0 y1 y2 y3) (draw_Total.l0 (k + 1) y0 y1 y2 y3))
 | 0 => fun _ _ _ _ r h => by simp [draw_Total.l0] at h
 | k + 1 => by
  have ih0 := draw_Total.mono_l k
  ·intro y0 y1 y2 y3
   unfold draw_Total.l0
   have ih9 := @money_Add.mono; exact lo
theorem draw_Total.mono : ∀ a0 k, LeO (draw_Total.f k a0) (draw_Total.f (k + 1) a0) := by
 intro a0 k
 have ih0 := draw_Total.mono_l k
 unfold draw_Total.f
 have ih9 := @money_Add.mono; exact lo
set_option maxHeartbeats 8000000 in
set_option maxRecDepth 100000 in
theorem draw_Total.calls (k : Nat) (A0 : Option Addr) (c0 : Nat) (l0 : List (S60)) (r1 : Int) (r2 : Int) (w : World) (hr0 : Kd.C k60 w A0 l0.length l0) (hc0 : l0.length ≤ c0) (h : draw_Total.f k l0 = some (r1, r2)) :
  Calls Try.prog 44 #[.slice A0 l0.length c0] w fun e w' => e = .returned (.tuple #[.int .i64 r1, .int .i64 r2]) ∧ Below w.heap.size w w' := by
 have hu60 := Try.underlying60
 have HR0 := am hr0
 have HC0 := am hc0
 clear hr0 hc0
 have HB := am (Below.refl w.heap.size w)
 have H : (draw_Total.l0 k ([] : List Int) l0 (l0.length : Int) 0) = some (r1, r2) := h
 clear h
 have H' := am H
 clear H
 go_enter Try.func44, Try.ntmps44
 go_wp2
 go_loopg [4, 9] k (fun kq v4 v9 w' => ∃ (x4_1 : List Int) (x9_1 : Int), v9 = .int .i64 x9_1 ∧ Aside0 (draw_Total.l0 kq x4_1 l0 (l0.length : Int) x9_1 = some (r1, r2)) ∧ Aside0 (kq ≤ k) ∧ Aside0 (Kd.R (Kd.int .i64) 3 w' w.heap.size (fun _ => True) v4 x4_1) ∧ Aside0 (Below w.heap.size w w'))
 case atStart => exact ⟨(([] : List Int)), (0), sx, H', ⟨Nat.le_refl _⟩, ⟨by first | exact Kd.R_nil _ _ _ _ _ | exact Kd.N_nil _ _ _ _ _ | exact Kd.V_nil _ _ _ _ _ | exact Kd.Q_nil _ _ _ _ _ | exact Kd.S_nil _ _ _ _ _⟩, ⟨bx⟩⟩
 case round =>
  clear H'
  obtain ⟨x4_1, x9_1, rfl, HA, HK1, HO_4, HB⟩ := hrel
  cases gk with
  | zero => exact absurd HA.out (by simp [draw_Total.l0])
  | succ k1 =>
   have H := HA.out
   clear HA
   simp only [draw_Total.l0] at H
   by_cases c2 : x9_1 < (l0.length : Int)
   ·rw [if_pos c2] at H
    have c2b0 : decide (x9_1 < (l0.length : Int)) = true := decide_eq_true c2
    clear c2
    by_cases c3 : 0 ≤ x9_1
    ·rw [if_pos c3] at H
     have c3b0 : decide (0 ≤ x9_1) = true := decide_eq_true c3
     clear c3
     by_cases c4 : x9_1 < (l0.length : Int)
     ·rw [if_pos c4] at H
      have c4b0 : decide (x9_1 < (l0.length : Int)) = true := decide_eq_true c4
      clear c4
      by_cases c5 : x4_1.length < 17592186044416
      ·rw [if_pos c5] at H
       have LMc5 := am c5
       clear c5
       obtain ⟨y191, hy191⟩ : ∃ y_ : List Int, y_ = (x4_1 ++ [(rd_T60 l0 x9_1).f1]) := ⟨_, rfl⟩
       replace H : (draw_Total.l0 k1 y191 l0 (l0.length : Int) (wrap64 (x9_1 + 1))) = some (r1, r2) := by first | (rw [hy191]; with_reducible exact H) | (have H2_ := (Option.bind_some _ _).symm.trans H; rw [hy191]; with_reducible exact H2_) | (have H2_ := (Option.bind_some _ _).symm.trans H; with_reducible exact H2_) | with_reducible exact H | (rw [hy191]; exact H) | exact H
       have Ny191 := am hy191
       clear hy191
       have H' := am H
       clear H
       have p189 : 0 ≤ (x9_1 : Int) := of_decide_eq_true (by assumption)
       have q189 : x9_1 < (l0.length : Int) := of_decide_eq_true (by assumption)
       obtain ⟨ad189, e189, hx189_0, hx189_1⟩ := at_T60 HR0.out x9_1 p189 q189
       cases e189
       replace hx189_0 := cb HB.out hx189_0
       replace hx189_1 := cb HB.out hx189_1
       replace p189 := eq_true p189
       replace q189 := eq_true q189
       go_wp2_with (first | ((with_reducible refine gate_dst (N := 6) rfl ?_); refine be (N := 6) (cs := #[.int .i64 0, .int .i64 0]) (t := 60) ?_; intro gb190 hg w6 hbox hb; replace HO_4 := am (Kd.R_below (rr HO_4) hb); have BK190 := am (hbox); have GW190 := am ((by rw [hg]; exact (below_size bx) : w.heap.size ≤ gb190)); have GE190 := am ((by rw [hg]; exact (below_size bx) : w.heap.size ≤ gb190)); replace HB := am (below_step bx hb); clear hb hbox hg; obtain ⟨_, _⟩ := c2 BK190.out; obtain ⟨_, _⟩ := f2 BK190.out) | ((with_reducible refine gate_builtin (b := .append) (xs := #[.tmp 13, .tmp 16]) rfl ?_); at_builtin; refine Kd.R_append (Kd.int .i64) (w0 := w) w.heap.size rfl (.tmp 13) (.tmp 16) 40 3 (.int .i64 0) 8 rfl Try.underlying40 info3 rfl (by decide) (by omega) u4 x4_1 ((rd_T60 l0 x9_1).f1) [.int .i64 ((rd_T60 l0 x9_1).f1)] (fun _ => True) (fun _ => False) rfl (by first | (go_simp; done) | (go_simp; rfl)) ?aP (fun _ hk => hk.elim) ?aF ?aO ?aB ?aS ?aL ?_; (case aP => exact rfl); (case aB => exact bx); (case aF => exact (fun _ _ => trivial)); (case aO => exact (by (with_reducible repeat first | apply rA | apply rN | apply rD); exact Kd.R_mono (rf (rf (Kd.R_types HO_4.out BK190.out (by decide)))) (fun _ hk => trivial))); (case aS => exact (below_size bx)); (case aL => have := LMc5.out; omega); intro v192 w8 ho hb hg hat; rw [← Ny191.out] at ho; replace BK190 := am (blk_grown (g := gb190) (o := .cells #[.int .i64 ((rd_T60 l0 x9_1).f0), .int .i64 ((rd_T60 l0 x9_1).f1)] 60 (0, 0)) (by (iterate 2 ((with_reducible repeat first | apply kn | apply kd | apply ka); refine bp (.int .i64 0) rfl ?_; simp only [List.set])); (with_reducible repeat first | apply kn | apply kd | apply ka); exact BK190.out) hg (Kd.R_ne HO_4.out BK190.out (by decide))); replace HB := am (hb); have HO193 := am (ho); clear HO_4; clear ho hb hg hat))
       go_roundg k1
       case measure => have := HK1.out; omega
       case rel => exact ⟨(y191), (wrap64 (x9_1 + 1)), sx, H', ⟨by have := HK1.out; omega⟩, ⟨rr HO193⟩, ⟨bx⟩⟩
      ·rw [if_neg c5] at H
       exact absurd H (by simp)
     ·rw [if_neg c4] at H
      exact absurd H (by simp)
    ·rw [if_neg c3] at H
     exact absurd H (by simp)
   ·rw [if_neg c2] at H
    have c2b0 : decide (x9_1 < (l0.length : Int)) = false := decide_eq_false c2
    clear c2
    replace H := Option.bind_eq_some_iff.mp H
    obtain ⟨⟨t194, t195⟩, A90, H⟩ := H
    have A9 := am A90
    clear A90
    simp only [Option.some.injEq, Prod.mk.injEq] at H
    obtain ⟨rfl, rfl⟩ := H
    obtain ⟨Ao10, co10, eo10⟩ := Kd.R_slice HO_4.out
    subst eo10
    go_wp2_with (first | (refine gl (some 20) Try.func51 #[.slice Ao10 x4_1.length co10] ?_; (with_reducible refine (money_Add.calls k1 _ _ x4_1 t194 t195 _ ?side1 ?side2 A9.out).mono ?_); (case side1 => repeat (first | exact (Kd.R_reads' HO_4.out).2.2 | (with_reducible refine Kd.C_alloc ?_ _) | (with_reducible refine Kd.C_drewN ?_ _) | (with_reducible refine Kd.C_drew ?_))); (case side2 => exact (Kd.R_reads' HO_4.out).2.1); rintro e w' ⟨rfl, ⟨nd, rfl⟩⟩; refine ⟨_, rfl, ?_⟩))
    go_ret2
    exact ⟨by first | rfl | (simp [*, errW_none, errW_some] <;> rfl), bx⟩

/-! ### sound_covered: function 21 -/
def sound_covered.l0 : Nat → List (S50) → Int → Int → Option (Bool)
 | 0, _, _, _ => none
 | k + 1, x10, x11, x12 => if x12 < x11 then (if 0 ≤ x12 then (if x12 < (x10.length : Int) then (if ((rd_T50 x10 x12).f7) = 3 then ((money_Cost.f k ((rd_T50 x10 x12).f2) ((rd_T50 x10 x12).f3) ((rd_T50 x10 x12).f6)).bind fun bt199 => ((draw_Total.f k ((rd_T50 x10 x12).f11)).bind fun bt201 => (if bt199.2 = 0 then (if bt201.2 = 0 then (if bt199.1 = bt201.1 then (sound_covered.l0 k x10 x11 (wrap64 (x12 + 1))) else (some false)) else (some false)) else (some false)))) else (sound_covered.l0 k x10 x11 (wrap64 (x12 + 1)))) else (none)) else (none)) else (some true)
def sound_covered.f (k : Nat) (a0_0 : Int) (a0_1 : Int) (a0_2 : Int) (l0_3 : List (S34)) (l0_4 : List (S36)) (l0_5 : List (S68)) (l0_6 : List (S50)) (l0_7 : List ByteArray) : Option (Bool) := sound_covered.l0 k l0_6 (l0_6.length : Int) 0
theorem sound_covered.mono_l : ∀ k, (∀ y0 y1 y2, LeO (sound_covered.l0 k y0 y1 y2) (sound_covered.l0 (k + 1) y0 y1 y2))
 | 0 => fun _ _ _ r h => by simp [sound_covered.l0] at h
 | k + 1 => by
  have ih0 := sound_covered.mono_l k
  ·intro y0 y1 y2
   unfold sound_covered.l0
   have ih9 := @draw_Total.mono; have ih8 := @money_Cost.mono; exact lo
theorem sound_covered.mono : ∀ a0 a1 a2 a3 a4 a5 a6 a7 k, LeO (sound_covered.f k a0 a1 a2 a3 a4 a5 a6 a7) (sound_covered.f (k + 1) a0 a1 a2 a3 a4 a5 a6 a7) := by
 intro a0 a1 a2 a3 a4 a5 a6 a7 k
 have ih0 := sound_covered.mono_l k
 unfold sound_covered.f
 have ih9 := @draw_Total.mono; have ih8 := @money_Cost.mono; exact lo
set_option maxHeartbeats 8000000 in
set_option maxRecDepth 100000 in
theorem sound_covered.calls (k : Nat) (a0_0 : Int) (a0_1 : Int) (a0_2 : Int) (A0_3 : Option Addr) (c0_3 : Nat) (l0_3 : List (S34)) (A0_4 : Option Addr) (c0_4 : Nat) (l0_4 : List (S36)) (A0_5 : Option Addr) (c0_5 : Nat) (l0_5 : List (S68)) (A0_6 : Option Addr) (c0_6 : Nat) (l0_6 : List (S50)) (A0_7 : Option Addr) (c0_7 : Nat) (l0_7 : List ByteArray) (r : Bool) (w : World) (hr0_3 : Kd.C k34 w A0_3 l0_3.length l0_3) (hc0_3 : l0_3.length ≤ c0_3) (hr0_4 : Kd.C k36 w A0_4 l0_4.length l0_4) (hc0_4 : l0_4.length ≤ c0_4) (hr0_5 : Kd.C k68 w A0_5 l0_5.length l0_5) (hc0_5 : l0_5.length ≤ c0_5) (hr0_6 : Kd.C k50 w A0_6 l0_6.length l0_6) (hc0_6 : l0_6.length ≤ c0_6) (hr0_7 : Kd.C Kd.string w A0_7 l0_7.length l0_7) (hc0_7 : l0_7.length ≤ c0_7) (h : sound_covered.f k a0_0 a0_1 a0_2 l0_3 l0_4 l0_5 l0_6 l0_7 = some r) :
  Calls Try.prog 21 #[.agg #[.int .i64 a0_0, .int .i64 a0_1, .int .i64 a0_2, .slice A0_3 l0_3.length c0_3, .slice A0_4 l0_4.length c0_4, .slice A0_5 l0_5.length c0_5, .slice A0_6 l0_6.length c0_6, .slice A0_7 l0_7.length c0_7]] w fun e w' => e = .returned (.bool r) ∧ Below w.heap.size w w' := by
 have hu28 := Try.underlying28
 have hu50 := Try.underlying50
 have HR0_3 := am hr0_3
 have HC0_3 := am hc0_3
 clear hr0_3 hc0_3
 have HR0_4 := am hr0_4
 have HC0_4 := am hc0_4
 clear hr0_4 hc0_4
 have HR0_5 := am hr0_5
 have HC0_5 := am hc0_5
 clear hr0_5 hc0_5
 have HR0_6 := am hr0_6
 have HC0_6 := am hc0_6
 clear hr0_6 hc0_6
 have HR0_7 := am hr0_7
 have HC0_7 := am hc0_7
 clear hr0_7 hc0_7
 have HB := am (Below.refl w.heap.size w)
 have H : (sound_covered.l0 k l0_6 (l0_6.length : Int) 0) = some r := h
 clear h
 have H' := am H
 clear H
 go_enter Try.func21, Try.ntmps21
 go_wp2_with (first | ((with_reducible refine gate_dst (N := 1) rfl ?_); refine be (N := 1) (cs := #[.int .i64 a0_0, .int .i64 a0_1, .int .i64 a0_2, .slice A0_3 l0_3.length c0_3, .slice A0_4 l0_4.length c0_4, .slice A0_5 l0_5.length c0_5, .slice A0_6 l0_6.length c0_6, .slice A0_7 l0_7.length c0_7]) (t := 28) ?_; intro gb196 hg w2 hbox hb; have BK196 := am (hbox); have GW196 := am ((by rw [hg]; exact (below_size bx) : w.heap.size ≤ gb196)); have GE196 := am ((by rw [hg]; exact (below_size bx) : w.heap.size ≤ gb196)); replace HB := am (below_step bx hb); clear hb hbox hg; obtain ⟨_, _, _, _, _, _, _, _⟩ := c8 BK196.out; obtain ⟨_, _, _, _, _, _, _, _⟩ := f8 BK196.out))
 go_loopg [12] k (fun kq v12 w' => ∃ (x12_1 : Int), v12 = .int .i64 x12_1 ∧ Aside0 (sound_covered.l0 kq l0_6 (l0_6.length : Int) x12_1 = some r) ∧ Aside0 (kq ≤ k) ∧ Aside0 (w'.heap[gb196]? = some (.cells #[.int .i64 a0_0, .int .i64 a0_1, .int .i64 a0_2, (.slice A0_3 l0_3.length c0_3), (.slice A0_4 l0_4.length c0_4), (.slice A0_5 l0_5.length c0_5), (.slice A0_6 l0_6.length c0_6), (.slice A0_7 l0_7.length c0_7)] 28 (0, 0))) ∧ Aside0 (Below w.heap.size w w'))
 case atStart => exact ⟨(0), sx, H', ⟨Nat.le_refl _⟩, ⟨kk BK196⟩, ⟨bx⟩⟩
 case round =>
  clear H'
  try clear _ _ _ _ _ _ _ _
  obtain ⟨x12_1, rfl, HA, HK1, BK196, HB⟩ := hrel
  cases gk with
  | zero => exact absurd HA.out (by simp [sound_covered.l0])
  | succ k1 =>
   have H := HA.out
   clear HA
   simp only [sound_covered.l0] at H
   by_cases c4 : x12_1 < (l0_6.length : Int)
   ·rw [if_pos c4] at H
    have c4b0 : decide (x12_1 < (l0_6.length : Int)) = true := decide_eq_true c4
    clear c4
    by_cases c5 : 0 ≤ x12_1
    ·rw [if_pos c5] at H
     have c5b0 : decide (0 ≤ x12_1) = true := decide_eq_true c5
     clear c5
     by_cases c6 : x12_1 < (l0_6.length : Int)
     ·rw [if_pos c6] at H
      have c6b0 : decide (x12_1 < (l0_6.length : Int)) = true := decide_eq_true c6
      clear c6
      by_cases c7 : ((rd_T50 l0_6 x12_1).f7) = 3
      ·rw [if_pos c7] at H
       have c7b0 : (((rd_T50 l0_6 x12_1).f7) == 3) = true := beq_iff_eq.mpr c7
       have c7b1 : (((rd_T50 l0_6 x12_1).f7) != 3) = false := bne_eq_false_iff_eq.mpr c7
       clear c7
       replace H := Option.bind_eq_some_iff.mp H
       obtain ⟨⟨t199, t200⟩, A80, H⟩ := H
       have A8 := am A80
       clear A80
       replace H := Option.bind_eq_some_iff.mp H
       obtain ⟨⟨t201, t202⟩, A90, H⟩ := H
       have A9 := am A90
       clear A90
       by_cases c10 : t200 = 0
       ·rw [if_pos c10] at H
        have c10b0 : (t200 == 0) = true := beq_iff_eq.mpr c10
        have c10b1 : (t200 != 0) = false := bne_eq_false_iff_eq.mpr c10
        clear c10
        by_cases c11 : t202 = 0
        ·rw [if_pos c11] at H
         have c11b0 : (t202 == 0) = true := beq_iff_eq.mpr c11
         have c11b1 : (t202 != 0) = false := bne_eq_false_iff_eq.mpr c11
         clear c11
         by_cases c12 : t199 = t201
         ·rw [if_pos c12] at H
          have c12b0 : (t199 == t201) = true := beq_iff_eq.mpr c12
          have c12b1 : (t199 != t201) = false := bne_eq_false_iff_eq.mpr c12
          clear c12
          have H' := am H
          clear H
          have p197 : 0 ≤ (x12_1 : Int) := of_decide_eq_true (by assumption)
          have q197 : x12_1 < (l0_6.length : Int) := of_decide_eq_true (by assumption)
          obtain ⟨ad197, A197_11, c197_11, e197, hx197_0, hx197_1, hx197_2, hx197_3, hx197_4, hx197_5, hx197_6, hx197_7, hx197_8, hx197_9, hx197_10, hx197_11, hl197_11, hi197_11⟩ := at_T50 HR0_6.out x12_1 p197 q197
          cases e197
          replace hx197_0 := cb HB.out hx197_0
          replace hx197_1 := cb HB.out hx197_1
          replace hx197_2 := cb HB.out hx197_2
          replace hx197_3 := cb HB.out hx197_3
          replace hx197_4 := cb HB.out hx197_4
          replace hx197_5 := cb HB.out hx197_5
          replace hx197_6 := cb HB.out hx197_6
          replace hx197_7 := cb HB.out hx197_7
          replace hx197_8 := cb HB.out hx197_8
          replace hx197_9 := cb HB.out hx197_9
          replace hx197_10 := cb HB.out hx197_10
          replace hx197_11 := cb HB.out hx197_11
          have HR197_11 := am hi197_11
          have HC197_11 := am hl197_11
          clear hi197_11 hl197_11
          replace p197 := eq_true p197
          replace q197 := eq_true q197
          go_wp2_with (first | ((with_reducible refine gate_dst (N := 4) rfl ?_); refine be (N := 4) (cs := #[.int .i64 0, .int .i64 0, .int .i64 0, .int .i64 0, .int .i64 0, .int .i64 0, .int .i64 0, .int .i64 0, .int .i64 0, .int .i64 0, .int .i64 0, .slice none 0 0]) (t := 50) ?_; intro gb198 hg w13 hbox hb; have BK198 := am (hbox); have GW198 := am ((by rw [hg]; exact (below_size bx) : w.heap.size ≤ gb198)); have GE198 := am ((by rw [hg]; exact (below_size bx) : w.heap.size ≤ gb198)); replace HB := am (below_step bx hb); have NB196_198 := am ((by rw [hg]; exact Nat.ne_of_lt (blk_lt (kk BK196)) : gb196 ≠ gb198)); have NB198_196 := am ((by rw [hg]; exact Nat.ne_of_gt (blk_lt (kk BK196)) : gb198 ≠ gb196)); replace BK196 := am (blk_below (kk BK196) hb); clear hb hbox hg; have hnb14 := NB198_196.out; have hnc14 := NB196_198.out; obtain ⟨_, _, _, _, _, _, _, _, _, _, _, _⟩ := c12 BK198.out; obtain ⟨_, _, _, _, _, _, _, _, _, _, _, _⟩ := f12 BK198.out) | (refine gl (some 26) Try.func43 #[.int .i64 ((rd_T50 l0_6 x12_1).f2), .int .i64 ((rd_T50 l0_6 x12_1).f3), .int .i64 ((rd_T50 l0_6 x12_1).f6)] ?_; (with_reducible refine (money_Cost.calls k1 ((rd_T50 l0_6 x12_1).f2) ((rd_T50 l0_6 x12_1).f3) ((rd_T50 l0_6 x12_1).f6) t199 t200 _ A8.out).mono ?_); rintro e w16 ⟨rfl, hb⟩; refine ⟨_, rfl, ?_⟩; replace BK196 := am (blk_below (g := gb196) (o := .cells #[.int .i64 a0_0, .int .i64 a0_1, .int .i64 a0_2, .slice A0_3 l0_3.length c0_3, .slice A0_4 l0_4.length c0_4, .slice A0_5 l0_5.length c0_5, .slice (some ad197) l0_6.length c0_6, .slice A0_7 l0_7.length c0_7] 28 (0, 0)) (by (iterate 12 ((with_reducible repeat first | apply kn | apply kd | apply ka); refine blk_far ?_ NB196_198.out _)); (with_reducible repeat first | apply kn | apply kd | apply ka); exact BK196.out) hb); replace BK198 := am (blk_below (g := gb198) (o := .cells #[.int .i64 ((rd_T50 l0_6 x12_1).f0), .int .i64 ((rd_T50 l0_6 x12_1).f1), .int .i64 ((rd_T50 l0_6 x12_1).f2), .int .i64 ((rd_T50 l0_6 x12_1).f3), .int .i64 ((rd_T50 l0_6 x12_1).f4), .int .i64 ((rd_T50 l0_6 x12_1).f5), .int .i64 ((rd_T50 l0_6 x12_1).f6), .int .i64 ((rd_T50 l0_6 x12_1).f7), .int .i64 ((rd_T50 l0_6 x12_1).f8), .int .i64 ((rd_T50 l0_6 x12_1).f9), .int .i64 ((rd_T50 l0_6 x12_1).f10), .slice A197_11 ((rd_T50 l0_6 x12_1).f11).length c197_11] 50 (0, 0)) (by (with_reducible repeat first | apply kn | apply kd | apply ka); refine bp (.slice none 0 0) rfl ?_; (iterate 11 (simp only [List.set]; (with_reducible repeat first | apply kn | apply kd | apply ka); refine bp (.int .i64 0) rfl ?_)); simp only [List.set]; (with_reducible repeat first | apply kn | apply kd | apply ka); exact BK198.out) hb); replace HB := am (below_step bx hb); (try clear hb); (try clear hb2); (try clear hk); (try clear hi); obtain ⟨_, _, _, _, _, _, _, _, _, _, _, _⟩ := c12 BK198.out; obtain ⟨_, _, _, _, _, _, _, _, _, _, _, _⟩ := f12 BK198.out) | (refine gl (some 32) Try.func44 #[.slice A197_11 ((rd_T50 l0_6 x12_1).f11).length c197_11] ?_; (with_reducible refine (draw_Total.calls k1 _ _ ((rd_T50 l0_6 x12_1).f11) t201 t202 _ ?side1 ?side2 A9.out).mono ?_); (case side1 => repeat (first | exact (Kd.C_below HR197_11.out HB.out) | (with_reducible refine Kd.C_alloc ?_ _) | (with_reducible refine Kd.C_drewN ?_ _) | (with_reducible refine Kd.C_drew ?_))); (case side2 => exact HC197_11.out); rintro e w18 ⟨rfl, hb⟩; refine ⟨_, rfl, ?_⟩; replace BK196 := am (blk_below (kk BK196) hb); replace BK198 := am (blk_below (kk BK198) hb); replace HB := am (below_step bx hb); (try clear hb); (try clear hb2); (try clear hk); (try clear hi)))
          go_roundg k1
          case measure => have := HK1.out; omega
          case rel => exact ⟨(wrap64 (x12_1 + 1)), sx, H', ⟨by have := HK1.out; omega⟩, ⟨kk BK196⟩, ⟨bx⟩⟩
         ·rw [if_neg c12] at H
          have c12b0 : (t199 == t201) = false := beq_eq_false_iff_ne.mpr c12
          have c12b1 : (t199 != t201) = true := bne_iff_ne.mpr c12
          obtain rfl := Option.some.inj H
          have p197 : 0 ≤ (x12_1 : Int) := of_decide_eq_true (by assumption)
          have q197 : x12_1 < (l0_6.length : Int) := of_decide_eq_true (by assumption)
          obtain ⟨ad197, A197_11, c197_11, e197, hx197_0, hx197_1, hx197_2, hx197_3, hx197_4, hx197_5, hx197_6, hx197_7, hx197_8, hx197_9, hx197_10, hx197_11, hl197_11, hi197_11⟩ := at_T50 HR0_6.out x12_1 p197 q197
          cases e197
          replace hx197_0 := cb HB.out hx197_0
          replace hx197_1 := cb HB.out hx197_1
          replace hx197_2 := cb HB.out hx197_2
          replace hx197_3 := cb HB.out hx197_3
          replace hx197_4 := cb HB.out hx197_4
          replace hx197_5 := cb HB.out hx197_5
          replace hx197_6 := cb HB.out hx197_6
          replace hx197_7 := cb HB.out hx197_7
          replace hx197_8 := cb HB.out hx197_8
          replace hx197_9 := cb HB.out hx197_9
          replace hx197_10 := cb HB.out hx197_10
          replace hx197_11 := cb HB.out hx197_11
          have HR197_11 := am hi197_11
          have HC197_11 := am hl197_11
          clear hi197_11 hl197_11
          replace p197 := eq_true p197
          replace q197 := eq_true q197
          go_wp2_with (first | ((with_reducible refine gate_dst (N := 4) rfl ?_); refine be (N := 4) (cs := #[.int .i64 0, .int .i64 0, .int .i64 0, .int .i64 0, .int .i64 0, .int .i64 0, .int .i64 0, .int .i64 0, .int .i64 0, .int .i64 0, .int .i64 0, .slice none 0 0]) (t := 50) ?_; intro gb198 hg w19 hbox hb; have BK198 := am (hbox); have GW198 := am ((by rw [hg]; exact (below_size bx) : w.heap.size ≤ gb198)); have GE198 := am ((by rw [hg]; exact (below_size bx) : w.heap.size ≤ gb198)); replace HB := am (below_step bx hb); have NB196_198 := am ((by rw [hg]; exact Nat.ne_of_lt (blk_lt (kk BK196)) : gb196 ≠ gb198)); have NB198_196 := am ((by rw [hg]; exact Nat.ne_of_gt (blk_lt (kk BK196)) : gb198 ≠ gb196)); replace BK196 := am (blk_below (kk BK196) hb); clear hb hbox hg; have hnb20 := NB198_196.out; have hnc20 := NB196_198.out; have _ : w19.cell? ⟨gb198, 0, none⟩ = some (.int .i64 0) := (blk_cell BK198.out 0).trans rfl; have _ : w19.cell? ⟨gb198, 1, none⟩ = some (.int .i64 0) := (blk_cell BK198.out 1).trans rfl; have _ : w19.cell? ⟨gb198, 2, none⟩ = some (.int .i64 0) := (blk_cell BK198.out 2).trans rfl; have _ : w19.cell? ⟨gb198, 3, none⟩ = some (.int .i64 0) := (blk_cell BK198.out 3).trans rfl; have _ : w19.cell? ⟨gb198, 4, none⟩ = some (.int .i64 0) := (blk_cell BK198.out 4).trans rfl; have _ : w19.cell? ⟨gb198, 5, none⟩ = some (.int .i64 0) := (blk_cell BK198.out 5).trans rfl; have _ : w19.cell? ⟨gb198, 6, none⟩ = some (.int .i64 0) := (blk_cell BK198.out 6).trans rfl; have _ : w19.cell? ⟨gb198, 7, none⟩ = some (.int .i64 0) := (blk_cell BK198.out 7).trans rfl; have _ : w19.cell? ⟨gb198, 8, none⟩ = some (.int .i64 0) := (blk_cell BK198.out 8).trans rfl; have _ : w19.cell? ⟨gb198, 9, none⟩ = some (.int .i64 0) := (blk_cell BK198.out 9).trans rfl; have _ : w19.cell? ⟨gb198, 10, none⟩ = some (.int .i64 0) := (blk_cell BK198.out 10).trans rfl; have _ : w19.cell? ⟨gb198, 11, none⟩ = some (.slice none 0 0) := (blk_cell BK198.out 11).trans rfl; obtain ⟨_, _, _, _, _, _, _, _, _, _, _, _⟩ := f12 BK198.out) | (refine gl (some 26) Try.func43 #[.int .i64 ((rd_T50 l0_6 x12_1).f2), .int .i64 ((rd_T50 l0_6 x12_1).f3), .int .i64 ((rd_T50 l0_6 x12_1).f6)] ?_; (with_reducible refine (money_Cost.calls k1 ((rd_T50 l0_6 x12_1).f2) ((rd_T50 l0_6 x12_1).f3) ((rd_T50 l0_6 x12_1).f6) t199 t200 _ A8.out).mono ?_); rintro e w22 ⟨rfl, hb⟩; refine ⟨_, rfl, ?_⟩; replace BK196 := am (blk_below (g := gb196) (o := .cells #[.int .i64 a0_0, .int .i64 a0_1, .int .i64 a0_2, .slice A0_3 l0_3.length c0_3, .slice A0_4 l0_4.length c0_4, .slice A0_5 l0_5.length c0_5, .slice (some ad197) l0_6.length c0_6, .slice A0_7 l0_7.length c0_7] 28 (0, 0)) (by (iterate 12 ((with_reducible repeat first | apply kn | apply kd | apply ka); refine blk_far ?_ NB196_198.out _)); (with_reducible repeat first | apply kn | apply kd | apply ka); exact BK196.out) hb); replace BK198 := am (blk_below (g := gb198) (o := .cells #[.int .i64 ((rd_T50 l0_6 x12_1).f0), .int .i64 ((rd_T50 l0_6 x12_1).f1), .int .i64 ((rd_T50 l0_6 x12_1).f2), .int .i64 ((rd_T50 l0_6 x12_1).f3), .int .i64 ((rd_T50 l0_6 x12_1).f4), .int .i64 ((rd_T50 l0_6 x12_1).f5), .int .i64 ((rd_T50 l0_6 x12_1).f6), .int .i64 ((rd_T50 l0_6 x12_1).f7), .int .i64 ((rd_T50 l0_6 x12_1).f8), .int .i64 ((rd_T50 l0_6 x12_1).f9), .int .i64 ((rd_T50 l0_6 x12_1).f10), .slice A197_11 ((rd_T50 l0_6 x12_1).f11).length c197_11] 50 (0, 0)) (by (with_reducible repeat first | apply kn | apply kd | apply ka); refine bp (.slice none 0 0) rfl ?_; (iterate 11 (simp only [List.set]; (with_reducible repeat first | apply kn | apply kd | apply ka); refine bp (.int .i64 0) rfl ?_)); simp only [List.set]; (with_reducible repeat first | apply kn | apply kd | apply ka); exact BK198.out) hb); replace HB := am (below_step bx hb); (try clear hb); (try clear hb2); (try clear hk); (try clear hi); have _ : w22.cell? ⟨gb198, 0, none⟩ = some (.int .i64 ((rd_T50 l0_6 x12_1).f0)) := (blk_cell BK198.out 0).trans rfl; have _ : w22.cell? ⟨gb198, 1, none⟩ = some (.int .i64 ((rd_T50 l0_6 x12_1).f1)) := (blk_cell BK198.out 1).trans rfl; have _ : w22.cell? ⟨gb198, 2, none⟩ = some (.int .i64 ((rd_T50 l0_6 x12_1).f2)) := (blk_cell BK198.out 2).trans rfl; have _ : w22.cell? ⟨gb198, 3, none⟩ = some (.int .i64 ((rd_T50 l0_6 x12_1).f3)) := (blk_cell BK198.out 3).trans rfl; have _ : w22.cell? ⟨gb198, 4, none⟩ = some (.int .i64 ((rd_T50 l0_6 x12_1).f4)) := (blk_cell BK198.out 4).trans rfl; have _ : w22.cell? ⟨gb198, 5, none⟩ = some (.int .i64 ((rd_T50 l0_6 x12_1).f5)) := (blk_cell BK198.out 5).trans rfl; have _ : w22.cell? ⟨gb198, 6, none⟩ = some (.int .i64 ((rd_T50 l0_6 x12_1).f6)) := (blk_cell BK198.out 6).trans rfl; have _ : w22.cell? ⟨gb198, 7, none⟩ = some (.int .i64 ((rd_T50 l0_6 x12_1).f7)) := (blk_cell BK198.out 7).trans rfl; have _ : w22.cell? ⟨gb198, 8, none⟩ = some (.int .i64 ((rd_T50 l0_6 x12_1).f8)) := (blk_cell BK198.out 8).trans rfl; have _ : w22.cell? ⟨gb198, 9, none⟩ = some (.int .i64 ((rd_T50 l0_6 x12_1).f9)) := (blk_cell BK198.out 9).trans rfl; have _ : w22.cell? ⟨gb198, 10, none⟩ = some (.int .i64 ((rd_T50 l0_6 x12_1).f10)) := (blk_cell BK198.out 10).trans rfl; have _ : w22.cell? ⟨gb198, 11, none⟩ = some (.slice A197_11 ((rd_T50 l0_6 x12_1).f11).length c197_11) := (blk_cell BK198.out 11).trans rfl; obtain ⟨_, _, _, _, _, _, _, _, _, _, _, _⟩ := f12 BK198.out) | (refine gl (some 32) Try.func44 #[.slice A197_11 ((rd_T50 l0_6 x12_1).f11).length c197_11] ?_; (with_reducible refine (draw_Total.calls k1 _ _ ((rd_T50 l0_6 x12_1).f11) t201 t202 _ ?side1 ?side2 A9.out).mono ?_); (case side1 => repeat (first | exact (Kd.C_below HR197_11.out HB.out) | (with_reducible refine Kd.C_alloc ?_ _) | (with_reducible refine Kd.C_drewN ?_ _) | (with_reducible refine Kd.C_drew ?_))); (case side2 => exact HC197_11.out); rintro e w24 ⟨rfl, hb⟩; refine ⟨_, rfl, ?_⟩; replace BK196 := am (blk_below (kk BK196) hb); replace BK198 := am (blk_below (kk BK198) hb); replace HB := am (below_step bx hb); (try clear hb); (try clear hb2); (try clear hk); (try clear hi)))
          go_ret
          exact ⟨by first | rfl | (simp [*, errW_none, errW_some] <;> rfl), bx⟩
        ·rw [if_neg c11] at H
         have c11b0 : (t202 == 0) = false := beq_eq_false_iff_ne.mpr c11
         have c11b1 : (t202 != 0) = true := bne_iff_ne.mpr c11
         obtain rfl := Option.some.inj H
         have p197 : 0 ≤ (x12_1 : Int) := of_decide_eq_true (by assumption)
         have q197 : x12_1 < (l0_6.length : Int) := of_decide_eq_true (by assumption)
         obtain ⟨ad197, A197_11, c197_11, e197, hx197_0, hx197_1, hx197_2, hx197_3, hx197_4, hx197_5, hx197_6, hx197_7, hx197_8, hx197_9, hx197_10, hx197_11, hl197_11, hi197_11⟩ := at_T50 HR0_6.out x12_1 p197 q197
         cases e197
         replace hx197_0 := cb HB.out hx197_0
         replace hx197_1 := cb HB.out hx197_1
         replace hx197_2 := cb HB.out hx197_2
         replace hx197_3 := cb HB.out hx197_3
         replace hx197_4 := cb HB.out hx197_4
         replace hx197_5 := cb HB.out hx197_5
         replace hx197_6 := cb HB.out hx197_6
         replace hx197_7 := cb HB.out hx197_7
         replace hx197_8 := cb HB.out hx197_8
         replace hx197_9 := cb HB.out hx197_9
         replace hx197_10 := cb HB.out hx197_10
         replace hx197_11 := cb HB.out hx197_11
         have HR197_11 := am hi197_11
         have HC197_11 := am hl197_11
         clear hi197_11 hl197_11
         replace p197 := eq_true p197
         replace q197 := eq_true q197
         go_wp2_with (first | ((with_reducible refine gate_dst (N := 4) rfl ?_); refine be (N := 4) (cs := #[.int .i64 0, .int .i64 0, .int .i64 0, .int .i64 0, .int .i64 0, .int .i64 0, .int .i64 0, .int .i64 0, .int .i64 0, .int .i64 0, .int .i64 0, .slice none 0 0]) (t := 50) ?_; intro gb198 hg w25 hbox hb; have BK198 := am (hbox); have GW198 := am ((by rw [hg]; exact (below_size bx) : w.heap.size ≤ gb198)); have GE198 := am ((by rw [hg]; exact (below_size bx) : w.heap.size ≤ gb198)); replace HB := am (below_step bx hb); have NB196_198 := am ((by rw [hg]; exact Nat.ne_of_lt (blk_lt (kk BK196)) : gb196 ≠ gb198)); have NB198_196 := am ((by rw [hg]; exact Nat.ne_of_gt (blk_lt (kk BK196)) : gb198 ≠ gb196)); replace BK196 := am (blk_below (kk BK196) hb); clear hb hbox hg; have hnb26 := NB198_196.out; have hnc26 := NB196_198.out; obtain ⟨_, _, _, _, _, _, _, _, _, _, _, _⟩ := c12 BK198.out; obtain ⟨_, _, _, _, _, _, _, _, _, _, _, _⟩ := f12 BK198.out) | (refine gl (some 26) Try.func43 #[.int .i64 ((rd_T50 l0_6 x12_1).f2), .int .i64 ((rd_T50 l0_6 x12_1).f3), .int .i64 ((rd_T50 l0_6 x12_1).f6)] ?_; (with_reducible refine (money_Cost.calls k1 ((rd_T50 l0_6 x12_1).f2) ((rd_T50 l0_6 x12_1).f3) ((rd_T50 l0_6 x12_1).f6) t199 t200 _ A8.out).mono ?_); rintro e w28 ⟨rfl, hb⟩; refine ⟨_, rfl, ?_⟩; replace BK196 := am (blk_below (g := gb196) (o := .cells #[.int .i64 a0_0, .int .i64 a0_1, .int .i64 a0_2, .slice A0_3 l0_3.length c0_3, .slice A0_4 l0_4.length c0_4, .slice A0_5 l0_5.length c0_5, .slice (some ad197) l0_6.length c0_6, .slice A0_7 l0_7.length c0_7] 28 (0, 0)) (by (iterate 12 ((with_reducible repeat first | apply kn | apply kd | apply ka); refine blk_far ?_ NB196_198.out _)); (with_reducible repeat first | apply kn | apply kd | apply ka); exact BK196.out) hb); replace BK198 := am (blk_below (g := gb198) (o := .cells #[.int .i64 ((rd_T50 l0_6 x12_1).f0), .int .i64 ((rd_T50 l0_6 x12_1).f1), .int .i64 ((rd_T50 l0_6 x12_1).f2), .int .i64 ((rd_T50 l0_6 x12_1).f3), .int .i64 ((rd_T50 l0_6 x12_1).f4), .int .i64 ((rd_T50 l0_6 x12_1).f5), .int .i64 ((rd_T50 l0_6 x12_1).f6), .int .i64 ((rd_T50 l0_6 x12_1).f7), .int .i64 ((rd_T50 l0_6 x12_1).f8), .int .i64 ((rd_T50 l0_6 x12_1).f9), .int .i64 ((rd_T50 l0_6 x12_1).f10), .slice A197_11 ((rd_T50 l0_6 x12_1).f11).length c197_11] 50 (0, 0)) (by (with_reducible repeat first | apply kn | apply kd | apply ka); refine bp (.slice none 0 0) rfl ?_; (iterate 11 (simp only [List.set]; (with_reducible repeat first | apply kn | apply kd | apply ka); refine bp (.int .i64 0) rfl ?_)); simp only [List.set]; (with_reducible repeat first | apply kn | apply kd | apply ka); exact BK198.out) hb); replace HB := am (below_step bx hb); (try clear hb); (try clear hb2); (try clear hk); (try clear hi); obtain ⟨_, _, _, _, _, _, _, _, _, _, _, _⟩ := c12 BK198.out; obtain ⟨_, _, _, _, _, _, _, _, _, _, _, _⟩ := f12 BK198.out) | (refine gl (some 32) Try.func44 #[.slice A197_11 ((rd_T50 l0_6 x12_1).f11).length c197_11] ?_; (with_reducible refine (draw_Total.calls k1 _ _ ((rd_T50 l0_6 x12_1).f11) t201 t202 _ ?side1 ?side2 A9.out).mono ?_); (case side1 => repeat (first | exact (Kd.C_below HR197_11.out HB.out) | (with_reducible refine Kd.C_alloc ?_ _) | (with_reducible refine Kd.C_drewN ?_ _) | (with_reducible refine Kd.C_drew ?_))); (case side2 => exact HC197_11.out); rintro e w30 ⟨rfl, hb⟩; refine ⟨_, rfl, ?_⟩; replace BK196 := am (blk_below (kk BK196) hb); replace BK198 := am (blk_below (kk BK198) hb); replace HB := am (below_step bx hb); (try clear hb); (try clear hb2); (try clear hk); (try clear hi)))
         go_ret
         exact ⟨by first | rfl | (simp [*, errW_none, errW_some] <;> rfl), bx⟩
       ·rw [if_neg c10] at H
        have c10b0 : (t200 == 0) = false := beq_eq_false_iff_ne.mpr c10
        have c10b1 : (t200 != 0) = true := bne_iff_ne.mpr c10
        obtain rfl := Option.some.inj H
        have p197 : 0 ≤ (x12_1 : Int) := of_decide_eq_true (by assumption)
        have q197 : x12_1 < (l0_6.length : Int) := of_decide_eq_true (by assumption)
        obtain ⟨ad197, A197_11, c197_11, e197, hx197_0, hx197_1, hx197_2, hx197_3, hx197_4, hx197_5, hx197_6, hx197_7, hx197_8, hx197_9, hx197_10, hx197_11, hl197_11, hi197_11⟩ := at_T50 HR0_6.out x12_1 p197 q197
        cases e197
        replace hx197_0 := cb HB.out hx197_0
        replace hx197_1 := cb HB.out hx197_1
        replace hx197_2 := cb HB.out hx197_2
        replace hx197_3 := cb HB.out hx197_3
        replace hx197_4 := cb HB.out hx197_4
        replace hx197_5 := cb HB.out hx197_5
        replace hx197_6 := cb HB.out hx197_6
        replace hx197_7 := cb HB.out hx197_7
        replace hx197_8 := cb HB.out hx197_8
        replace hx197_9 := cb HB.out hx197_9
        replace hx197_10 := cb HB.out hx197_10
        replace hx197_11 := cb HB.out hx197_11
        have HR197_11 := am hi197_11
        have HC197_11 := am hl197_11
        clear hi197_11 hl197_11
        replace p197 := eq_true p197
        replace q197 := eq_true q197
        go_wp2_with (first | ((with_reducible refine gate_dst (N := 4) rfl ?_); refine be (N := 4) (cs := #[.int .i64 0, .int .i64 0, .int .i64 0, .int .i64 0, .int .i64 0, .int .i64 0, .int .i64 0, .int .i64 0, .int .i64 0, .int .i64 0, .int .i64 0, .slice none 0 0]) (t := 50) ?_; intro gb198 hg w31 hbox hb; have BK198 := am (hbox); have GW198 := am ((by rw [hg]; exact (below_size bx) : w.heap.size ≤ gb198)); have GE198 := am ((by rw [hg]; exact (below_size bx) : w.heap.size ≤ gb198)); replace HB := am (below_step bx hb); have NB196_198 := am ((by rw [hg]; exact Nat.ne_of_lt (blk_lt (kk BK196)) : gb196 ≠ gb198)); have NB198_196 := am ((by rw [hg]; exact Nat.ne_of_gt (blk_lt (kk BK196)) : gb198 ≠ gb196)); replace BK196 := am (blk_below (kk BK196) hb); clear hb hbox hg; have hnb32 := NB198_196.out; have hnc32 := NB196_198.out; obtain ⟨_, _, _, _, _, _, _, _, _, _, _, _⟩ := c12 BK198.out; obtain ⟨_, _, _, _, _, _, _, _, _, _, _, _⟩ := f12 BK198.out) | (refine gl (some 26) Try.func43 #[.int .i64 ((rd_T50 l0_6 x12_1).f2), .int .i64 ((rd_T50 l0_6 x12_1).f3), .int .i64 ((rd_T50 l0_6 x12_1).f6)] ?_; (with_reducible refine (money_Cost.calls k1 ((rd_T50 l0_6 x12_1).f2) ((rd_T50 l0_6 x12_1).f3) ((rd_T50 l0_6 x12_1).f6) t199 t200 _ A8.out).mono ?_); rintro e w34 ⟨rfl, hb⟩; refine ⟨_, rfl, ?_⟩; replace BK196 := am (blk_below (g := gb196) (o := .cells #[.int .i64 a0_0, .int .i64 a0_1, .int .i64 a0_2, .slice A0_3 l0_3.length c0_3, .slice A0_4 l0_4.length c0_4, .slice A0_5 l0_5.length c0_5, .slice (some ad197) l0_6.length c0_6, .slice A0_7 l0_7.length c0_7] 28 (0, 0)) (by (iterate 12 ((with_reducible repeat first | apply kn | apply kd | apply ka); refine blk_far ?_ NB196_198.out _)); (with_reducible repeat first | apply kn | apply kd | apply ka); exact BK196.out) hb); replace BK198 := am (blk_below (g := gb198) (o := .cells #[.int .i64 ((rd_T50 l0_6 x12_1).f0), .int .i64 ((rd_T50 l0_6 x12_1).f1), .int .i64 ((rd_T50 l0_6 x12_1).f2), .int .i64 ((rd_T50 l0_6 x12_1).f3), .int .i64 ((rd_T50 l0_6 x12_1).f4), .int .i64 ((rd_T50 l0_6 x12_1).f5), .int .i64 ((rd_T50 l0_6 x12_1).f6), .int .i64 ((rd_T50 l0_6 x12_1).f7), .int .i64 ((rd_T50 l0_6 x12_1).f8), .int .i64 ((rd_T50 l0_6 x12_1).f9), .int .i64 ((rd_T50 l0_6 x12_1).f10), .slice A197_11 ((rd_T50 l0_6 x12_1).f11).length c197_11] 50 (0, 0)) (by (with_reducible repeat first | apply kn | apply kd | apply ka); refine bp (.slice none 0 0) rfl ?_; (iterate 11 (simp only [List.set]; (with_reducible repeat first | apply kn | apply kd | apply ka); refine bp (.int .i64 0) rfl ?_)); simp only [List.set]; (with_reducible repeat first | apply kn | apply kd | apply ka); exact BK198.out) hb); replace HB := am (below_step bx hb); (try clear hb); (try clear hb2); (try clear hk); (try clear hi); obtain ⟨_, _, _, _, _, _, _, _, _, _, _, _⟩ := c12 BK198.out; obtain ⟨_, _, _, _, _, _, _, _, _, _, _, _⟩ := f12 BK198.out) | (refine gl (some 32) Try.func44 #[.slice A197_11 ((rd_T50 l0_6 x12_1).f11).length c197_11] ?_; (with_reducible refine (draw_Total.calls k1 _ _ ((rd_T50 l0_6 x12_1).f11) t201 t202 _ ?side1 ?side2 A9.out).mono ?_); (case side1 => repeat (first | exact (Kd.C_below HR197_11.out HB.out) | (with_reducible refine Kd.C_alloc ?_ _) | (with_reducible refine Kd.C_drewN ?_ _) | (with_reducible refine Kd.C_drew ?_))); (case side2 => exact HC197_11.out); rintro e w36 ⟨rfl, hb⟩; refine ⟨_, rfl, ?_⟩; replace BK196 := am (blk_below (kk BK196) hb); replace BK198 := am (blk_below (kk BK198) hb); replace HB := am (below_step bx hb); (try clear hb); (try clear hb2); (try clear hk); (try clear hi)))
        go_ret
        exact ⟨by first | rfl | (simp [*, errW_none, errW_some] <;> rfl), bx⟩
      ·rw [if_neg c7] at H
       have c7b0 : (((rd_T50 l0_6 x12_1).f7) == 3) = false := beq_eq_false_iff_ne.mpr c7
       have c7b1 : (((rd_T50 l0_6 x12_1).f7) != 3) = true := bne_iff_ne.mpr c7
       have H' := am H
       clear H
       have p197 : 0 ≤ (x12_1 : Int) := of_decide_eq_true (by assumption)
       have q197 : x12_1 < (l0_6.length : Int) := of_decide_eq_true (by assumption)
       obtain ⟨ad197, A197_11, c197_11, e197, hx197_0, hx197_1, hx197_2, hx197_3, hx197_4, hx197_5, hx197_6, hx197_7, hx197_8, hx197_9, hx197_10, hx197_11, hl197_11, hi197_11⟩ := at_T50 HR0_6.out x12_1 p197 q197
       cases e197
       replace hx197_0 := cb HB.out hx197_0
       replace hx197_1 := cb HB.out hx197_1
       replace hx197_2 := cb HB.out hx197_2
       replace hx197_3 := cb HB.out hx197_3
       replace hx197_4 := cb HB.out hx197_4
       replace hx197_5 := cb HB.out hx197_5
       replace hx197_6 := cb HB.out hx197_6
       replace hx197_7 := cb HB.out hx197_7
       replace hx197_8 := cb HB.out hx197_8
       replace hx197_9 := cb HB.out hx197_9
       replace hx197_10 := cb HB.out hx197_10
       replace hx197_11 := cb HB.out hx197_11
       have HR197_11 := am hi197_11
       have HC197_11 := am hl197_11
       clear hi197_11 hl197_11
       replace p197 := eq_true p197
       replace q197 := eq_true q197
       go_wp2_with (first | ((with_reducible refine gate_dst (N := 4) rfl ?_); refine be (N := 4) (cs := #[.int .i64 0, .int .i64 0, .int .i64 0, .int .i64 0, .int .i64 0, .int .i64 0, .int .i64 0, .int .i64 0, .int .i64 0, .int .i64 0, .int .i64 0, .slice none 0 0]) (t := 50) ?_; intro gb198 hg w37 hbox hb; have BK198 := am (hbox); have GW198 := am ((by rw [hg]; exact (below_size bx) : w.heap.size ≤ gb198)); have GE198 := am ((by rw [hg]; exact (below_size bx) : w.heap.size ≤ gb198)); replace HB := am (below_step bx hb); have NB196_198 := am ((by rw [hg]; exact Nat.ne_of_lt (blk_lt (kk BK196)) : gb196 ≠ gb198)); have NB198_196 := am ((by rw [hg]; exact Nat.ne_of_gt (blk_lt (kk BK196)) : gb198 ≠ gb196)); replace BK196 := am (blk_below (kk BK196) hb); clear hb hbox hg; have hnb38 := NB198_196.out; have hnc38 := NB196_198.out; obtain ⟨_, _, _, _, _, _, _, _, _, _, _, _⟩ := c12 BK198.out; obtain ⟨_, _, _, _, _, _, _, _, _, _, _, _⟩ := f12 BK198.out))
       go_roundg k1
       case measure => have := HK1.out; omega
       case rel => exact ⟨(wrap64 (x12_1 + 1)), sx, H', ⟨by have := HK1.out; omega⟩, ⟨by (with_reducible repeat first | apply kn | apply kd | apply ka); refine blk_far ?_ NB196_198.out _; (with_reducible repeat first | apply kn | apply kd | apply ka); refine blk_far ?_ NB196_198.out _; (with_reducible repeat first | apply kn | apply kd | apply ka); refine blk_far ?_ NB196_198.out _; (with_reducible repeat first | apply kn | apply kd | apply ka); refine blk_far ?_ NB196_198.out _; (with_reducible repeat first | apply kn | apply kd | apply ka); refine blk_far ?_ NB196_198.out _; (with_reducible repeat first | apply kn | apply kd | apply ka); refine blk_far ?_ NB196_198.out _; (with_reducible repeat first | apply kn | apply kd | apply ka); refine blk_far ?_ NB196_198.out _; (with_reducible repeat first | apply kn | apply kd | apply ka); refine blk_far ?_ NB196_198.out _; (with_reducible repeat first | apply kn | apply kd | apply ka); refine blk_far ?_ NB196_198.out _; (with_reducible repeat first | apply kn | apply kd | apply ka); refine blk_far ?_ NB196_198.out _; (with_reducible repeat first | apply kn | apply kd | apply ka); refine blk_far ?_ NB196_198.out _; (with_reducible repeat first | apply kn | apply kd | apply ka); refine blk_far ?_ NB196_198.out _; (with_reducible repeat first | apply kn | apply kd | apply ka); exact BK196.out⟩, ⟨bx⟩⟩
     ·rw [if_neg c6] at H
      exact absurd H (by simp)
    ·rw [if_neg c5] at H
     exact absurd H (by simp)
   ·rw [if_neg c4] at H
    have c4b0 : decide (x12_1 < (l0_6.length : Int)) = false := decide_eq_false c4
    clear c4
    obtain rfl := Option.some.inj H
    go_wp2
    go_ret
    exact ⟨by first | rfl | (simp [*, errW_none, errW_some] <;> rfl), bx⟩

/-! ### pool_All: function 45 -/
def pool_All.f (a0 : Int) : Option (Int) := some (wrap64 ((wrap64 (2 ^ (mx 0 (mn a0 32)).toNat)) - 1))
set_option maxHeartbeats 8000000 in
set_option maxRecDepth 100000 in
theorem pool_All.calls (a0 : Int) (r : Int) (w : World) (h : pool_All.f a0 = some r) :
  Calls Try.prog 45 #[.int .i64 a0] w fun e w' => e = .returned (.int .i64 r) ∧ Below w.heap.size w w' := by
 have HB := am (Below.refl w.heap.size w)
 have H : (some (wrap64 ((wrap64 (2 ^ (mx 0 (mn a0 32)).toNat)) - 1))) = some r := h
 clear h
 obtain ⟨ji2, hji2⟩ : ∃ j_ : Int, (mn a0 32) = j_ := ⟨_, rfl⟩
 replace H : (some (wrap64 ((wrap64 (2 ^ (mx 0 (ji2)).toNat)) - 1))) = some r := by first | (rw [hji2] at H; exact H) | (simp only [hji2] at H ⊢; exact H)
 (try (have hji2h : ji2 ≤ 32 := by (rw [← hji2]; unfold mn; (repeat' split) <;> omega)))
 (try (have hji2g : ji2 ≤ 64 := by omega))
 have hji2_ : (if 32 < a0 then 32 else a0) = ji2 := hji2
 obtain ⟨ji3, hji3⟩ : ∃ j_ : Int, (mx 0 (ji2)) = j_ := ⟨_, rfl⟩
 replace H : (some (wrap64 ((wrap64 (2 ^ (ji3).toNat)) - 1))) = some r := by first | (rw [hji3] at H; exact H) | (simp only [hji3] at H ⊢; exact H)
 have hji3_ : (if 0 < (ji2) then (ji2) else 0) = ji3 := hji3
 obtain rfl := Option.some.inj H
 go_enter Try.func45, Try.ntmps45
 go_wp2
 go_ret
 exact ⟨by first | rfl | (simp [errW_none, errW_some] <;> rfl) | (simp only [← hji2, ← hji3]; first | rfl | (simp [errW_none, errW_some] <;> rfl)) | (simp [*, errW_none, errW_some] <;> rfl), bx⟩

end Go.Proofs.Ytijeigiilgapdaa.QSoundTells
