/- Written by a program of this session (wip/tools/mp.sh): functions as Lean functions, with proofs that the calls come to what they say. Lean checks it. -/
import Derived.Test.YtijeigiilgapdaaQSoundTellsx0
import Derived.Test.YtijeigiilgapdaaXWd
import Derived.Test.YtijeigiilgapdaaQSoundTellsx2
import Derived.Test.YtijeigiilgapdaaQSoundTellsx3
namespace Go.Proofs.Ytijeigiilgapdaa.QSoundTells
open Go.RowKit Go.Proofs.YtijeigiilgapdaaW.PrintWords Go.Proofs.YtijeigiilgapdaaW.PrintLast Go.Proofs.YtijeigiilgapdaaW.PrintMore
attribute [local go_sem] max2_int min2_int max_two min_two max_three min_three max_four min_four   -- for this text's walks alone
set_option linter.unusedVariables false
set_option linter.unusedSimpArgs false

/-! ### job_Good: function 40 -/
mutual
def job_Good.j0 : Nat → Bool → Int → Int → Int → Int → Int → Int → Int → Int → Int → Int → Int → List (S60) → Option (Bool)
 | 0, _, _, _, _, _, _, _, _, _, _, _, _, _ => none
 | k + 1, x41, x136000, x136001, x136002, x136003, x136004, x136005, x136006, x136007, x136008, x136009, x136010, x136011 => if x41 = true then (some false) else (if x136007 = 1 then (job_Good.j1 k x136007 (x136007 == 1) x136000 x136001 x136002 x136003 x136004 x136005 x136006 x136007 x136008 x136009 x136010 x136011) else (job_Good.j1 k x136007 (x136007 == 2) x136000 x136001 x136002 x136003 x136004 x136005 x136006 x136007 x136008 x136009 x136010 x136011))
def job_Good.j1 : Nat → Int → Bool → Int → Int → Int → Int → Int → Int → Int → Int → Int → Int → Int → List (S60) → Option (Bool)
 | 0, _, _, _, _, _, _, _, _, _, _, _, _, _, _ => none
 | k + 1, x43, x44, x136000, x136001, x136002, x136003, x136004, x136005, x136006, x136007, x136008, x136009, x136010, x136011 => if x44 = true then (if x136008 = 0 then (if x136009 = 0 then (if x136010 = 0 then (some ((x136011.length : Int) == 0)) else (some false)) else (some false)) else (some false)) else (if x43 = 3 then ((job_in.f x136008 0 1099511627776).bind fun t142 => (if t142 = true then ((job_in.f x136009 0 4294967295).bind fun t143 => (if t143 = true then ((pool_Count.f x136009).bind fun t144 => (if t144 = x136002 then (if x136010 = 0 then ((job_draws.f k x136011).bind fun t145 => (some t145)) else (some false)) else (some false))) else (some false))) else (some false))) else (if x43 = 4 then ((job_in.f x136008 0 1099511627776).bind fun t146 => (if t146 = true then (if x136009 = 0 then ((job_in.f x136010 0 x136003).bind fun t147 => (if t147 = true then ((job_draws.f k x136011).bind fun t148 => (some t148)) else (some false))) else (some false)) else (some false))) else (some false)))
end
def job_Good.f (k : Nat) (a0_0 : Int) (a0_1 : Int) (a0_2 : Int) (a0_3 : Int) (a0_4 : Int) (a0_5 : Int) (a0_6 : Int) (a0_7 : Int) (a0_8 : Int) (a0_9 : Int) (a0_10 : Int) (l0_11 : List (S60)) : Option (Bool) := if a0_0 < 1 then (job_Good.j0 k true a0_0 a0_1 a0_2 a0_3 a0_4 a0_5 a0_6 a0_7 a0_8 a0_9 a0_10 l0_11) else ((job_in.f a0_1 0 7).bind fun t136 => (if t136 = true then ((job_in.f a0_2 1 32).bind fun t137 => (if t137 = true then ((job_in.f a0_3 1 1048576).bind fun t138 => (if t138 = true then ((job_in.f a0_4 0 7).bind fun t139 => (if t139 = true then ((job_in.f a0_5 0 1048576).bind fun t140 => (if t140 = true then ((job_in.f a0_6 0 1099511627776).bind fun t141 => (job_Good.j0 k (!t141) a0_0 a0_1 a0_2 a0_3 a0_4 a0_5 a0_6 a0_7 a0_8 a0_9 a0_10 l0_11)) else (job_Good.j0 k true a0_0 a0_1 a0_2 a0_3 a0_4 a0_5 a0_6 a0_7 a0_8 a0_9 a0_10 l0_11))) else (job_Good.j0 k true a0_0 a0_1 a0_2 a0_3 a0_4 a0_5 a0_6 a0_7 a0_8 a0_9 a0_10 l0_11))) else (job_Good.j0 k true a0_0 a0_1 a0_2 a0_3 a0_4 a0_5 a0_6 a0_7 a0_8 a0_9 a0_10 l0_11))) else (job_Good.j0 k true a0_0 a0_1 a0_2 a0_3 a0_4 a0_5 a0_6 a0_7 a0_8 a0_9 a0_10 l0_11))) else (job_Good.j0 k true a0_0 a0_1 a0_2 a0_3 a0_4 a0_5 a0_6 a0_7 a0_8 a0_9 a0_10 l0_11)))
theorem job_Good.mono_l : ∀ k, (∀ y0 y1 y2 y3 y4 y5 y6 y7 y8 y9 y10 y11 y12, LeO (job_Good.j0 k y0 y1 y2 y3 y4 y5 y6 y7 y8 y9 y10 y11 y12) (job_Good.j0 (k + 1) y0 y1 y2 y3 y4 y5 y6 y7 y8 y9 y10 y11 y12)) ∧ (∀ y0 y1 y2 y3 y4 y5 y6 y7 y8 y9 y10 y11 y12 y13, LeO (job_Good.j1 k y0 y1 y2 y3 y4 y5 y6 y7 y8 y9 y10 y11 y12 y13) (job_Good.j1 (k + 1) y0 y1 y2 y3 y4 y5 y6 y7 y8 y9 y10 y11 y12 y13))
 | 0 => ⟨fun _ _ _ _ _ _ _ _ _ _ _ _ _ r h => by simp [job_Good.j0] at h, fun _ _ _ _ _ _ _ _ _ _ _ _ _ _ r h => by simp [job_Good.j1] at h⟩
 | k + 1 => by
  obtain ⟨ih0, ih1⟩ := job_Good.mono_l k; refine ⟨?_, ?_⟩
  ·intro y0 y1 y2 y3 y4 y5 y6 y7 y8 y9 y10 y11 y12
   unfold job_Good.j0
   have ih9 := @job_draws.mono; exact lo
  ·intro y0 y1 y2 y3 y4 y5 y6 y7 y8 y9 y10 y11 y12 y13
   unfold job_Good.j1
   have ih9 := @job_draws.mono; exact lo
theorem job_Good.mono : ∀ a0 a1 a2 a3 a4 a5 a6 a7 a8 a9 a10 a11 k, LeO (job_Good.f k a0 a1 a2 a3 a4 a5 a6 a7 a8 a9 a10 a11) (job_Good.f (k + 1) a0 a1 a2 a3 a4 a5 a6 a7 a8 a9 a10 a11) := by
 intro a0 a1 a2 a3 a4 a5 a6 a7 a8 a9 a10 a11 k; obtain ⟨ih0, ih1⟩ := job_Good.mono_l k; unfold job_Good.f
 have ih9 := @job_draws.mono; exact lo
def job_Good.T8 : Bool × List (List Nat × List Nat) := (true, [([], []), ([0], [0]), ([1], [1]), ([2, 2], [2]), ([3], [3]), ([4, 3], [3, 4]), ([5, 3, 3], [3, 5]), ([3, 6], [3, 6]), ([7, 6], [7]), ([8], [8]), ([9, 8], [8, 9]), ([10, 8, 8], [8, 10]), ([8], [8]), ([12, 8], [8, 12]), ([11, 13, 8], [8, 11, 13]), ([8, 14], [8, 14]), ([15, 11], [15]), ([16], [16]), ([17, 16], [16, 17]), ([18, 16], [16, 18]), ([16, 19], [16, 19]), ([20, 16], [20]), ([21], [21]), ([22, 21], [21, 22]), ([23, 21, 21], [21, 23]), ([21, 24], [21, 24]), ([25, 24, 0, 1, 2, 3, 4, 5, 6, 7, 8, 9, 10, 11, 12, 13, 14, 15, 16, 17, 18, 19, 20, 21, 22, 23, 24, 25], [25])])
def job_Good.B8 : List Nat := [0, 1, 3, 7, 15, 31, 63, 127, 255, 511, 1023, 2047, 511, 4607, 16383, 32767, 65535, 131071, 262143, 524287, 1048575, 2097151, 4194303, 8388607, 16777215, 33554431, 67108863]
theorem job_Good.tab8 : rtab .any (opsOf Try.f40 8) = job_Good.T8 := by kernel_rfl
theorem job_Good.bits8 : waitsOk job_Good.T8.2 job_Good.B8 = true := by kernel_rfl
set_option maxHeartbeats 8000000 in
set_option maxRecDepth 100000 in
theorem job_Good.calls (k : Nat) (a0_0 : Int) (a0_1 : Int) (a0_2 : Int) (a0_3 : Int) (a0_4 : Int) (a0_5 : Int) (a0_6 : Int) (a0_7 : Int) (a0_8 : Int) (a0_9 : Int) (a0_10 : Int) (A0_11 : Option Addr) (c0_11 : Nat) (l0_11 : List (S60)) (r : Bool) (w : World) (hr0_11 : Kd.C k60 w A0_11 l0_11.length l0_11) (hc0_11 : l0_11.length ≤ c0_11) (h : job_Good.f k a0_0 a0_1 a0_2 a0_3 a0_4 a0_5 a0_6 a0_7 a0_8 a0_9 a0_10 l0_11 = some r) :
  Calls Try.prog 40 #[.agg #[.int .i64 a0_0, .int .i64 a0_1, .int .i64 a0_2, .int .i64 a0_3, .int .i64 a0_4, .int .i64 a0_5, .int .i64 a0_6, .int .i64 a0_7, .int .i64 a0_8, .int .i64 a0_9, .int .i64 a0_10, .slice A0_11 l0_11.length c0_11]] w fun e w' => e = .returned (.bool r) ∧ Below w.heap.size w w' := by
 have hu50 := Try.underlying50; have HR0_11 := am hr0_11; have HC0_11 := am hc0_11; clear hr0_11 hc0_11; have HB := am (Below.refl w.heap.size w); have H : (if a0_0 < 1 then (job_Good.j0 k true a0_0 a0_1 a0_2 a0_3 a0_4 a0_5 a0_6 a0_7 a0_8 a0_9 a0_10 l0_11) else ((job_in.f a0_1 0 7).bind fun t136 => (if t136 = true then ((job_in.f a0_2 1 32).bind fun t137 => (if t137 = true then ((job_in.f a0_3 1 1048576).bind fun t138 => (if t138 = true then ((job_in.f a0_4 0 7).bind fun t139 => (if t139 = true then ((job_in.f a0_5 0 1048576).bind fun t140 => (if t140 = true then ((job_in.f a0_6 0 1099511627776).bind fun t141 => (job_Good.j0 k (!t141) a0_0 a0_1 a0_2 a0_3 a0_4 a0_5 a0_6 a0_7 a0_8 a0_9 a0_10 l0_11)) else (job_Good.j0 k true a0_0 a0_1 a0_2 a0_3 a0_4 a0_5 a0_6 a0_7 a0_8 a0_9 a0_10 l0_11))) else (job_Good.j0 k true a0_0 a0_1 a0_2 a0_3 a0_4 a0_5 a0_6 a0_7 a0_8 a0_9 a0_10 l0_11))) else (job_Good.j0 k true a0_0 a0_1 a0_2 a0_3 a0_4 a0_5 a0_6 a0_7 a0_8 a0_9 a0_10 l0_11))) else (job_Good.j0 k true a0_0 a0_1 a0_2 a0_3 a0_4 a0_5 a0_6 a0_7 a0_8 a0_9 a0_10 l0_11))) else (job_Good.j0 k true a0_0 a0_1 a0_2 a0_3 a0_4 a0_5 a0_6 a0_7 a0_8 a0_9 a0_10 l0_11)))) = some r := h; clear h; have HC2 := am H; clear H
 go_enter Try.func40, Try.ntmps40
 go_upto_region 1 with (first | ((with_reducible refine gate_dst (N := 1) rfl ?_); (try (refine gate_guard (by rfl) ?_; dsimp only)); refine be (N := 1) (cs := #[.int .i64 a0_0, .int .i64 a0_1, .int .i64 a0_2, .int .i64 a0_3, .int .i64 a0_4, .int .i64 a0_5, .int .i64 a0_6, .int .i64 a0_7, .int .i64 a0_8, .int .i64 a0_9, .int .i64 a0_10, .slice A0_11 l0_11.length c0_11]) (t := 50) ?_; intro gb135 hg w3 hbox hb; have BK135 := am (hbox); have GW135 := am ((by rw [hg]; exact (below_size HB.out) : w.heap.size ≤ gb135)); have GE135 := am ((by rw [hg]; exact (below_size HB.out) : w.heap.size ≤ gb135)); replace HB := am (below_step HB.out hb); clear hb hbox hg))
 (try simp only [Act.put, List.setIfInBounds_toArray, List.set_cons_zero, List.set_cons_succ])
 go_cut [41] (fun v41 wc => ∃ (kq : Nat) (x41_1 : Bool), v41 = .bool x41_1 ∧ Aside0 (job_Good.j0 kq x41_1 a0_0 a0_1 a0_2 a0_3 a0_4 a0_5 a0_6 a0_7 a0_8 a0_9 a0_10 l0_11 = some r) ∧ Aside0 (kq ≤ k) ∧ Aside0 (wc.heap[gb135]? = some (.cells #[.int .i64 a0_0, .int .i64 a0_1, .int .i64 a0_2, .int .i64 a0_3, .int .i64 a0_4, .int .i64 a0_5, .int .i64 a0_6, .int .i64 a0_7, .int .i64 a0_8, .int .i64 a0_9, .int .i64 a0_10, (.slice A0_11 l0_11.length c0_11)] 50 (0, 0))) ∧ Aside0 (Below w.heap.size w wc))
 case first =>
  have H := HC2.out; clear HC2
  by_cases c4 : a0_0 < 1
  ·rw [if_pos c4] at H
   have c4b0 := decide_eq_true c4; clear c4
   (first | rw [c4b0] | (simp only [i64_w, i32_w]; rw [c4b0]) | skip)
   have H' := am H; clear H; obtain ⟨_, _, _, _, _, _, _, _, _, _, _, _⟩ := c12 BK135.out; go_wp2
   go_meet
   case rel => exact ⟨_, (true), sx, H', ⟨by first | omega | exact Nat.le_refl _⟩, ⟨BK135.out⟩, ⟨HB.out⟩⟩
  ·rw [if_neg c4] at H
   have c4b0 := decide_eq_false c4; clear c4
   (first | rw [c4b0] | (simp only [i64_w, i32_w]; rw [c4b0]) | skip)
   replace H := Option.bind_eq_some_iff.mp H; obtain ⟨t136, A60, H⟩ := H; have A6 := am A60; clear A60
   by_cases c7 : t136 = true
   ·subst c7
    rw [if_pos rfl] at H; replace H := Option.bind_eq_some_iff.mp H; obtain ⟨t137, A80, H⟩ := H; have A8 := am A80; clear A80
    by_cases c9 : t137 = true
    ·subst c9
     rw [if_pos rfl] at H; replace H := Option.bind_eq_some_iff.mp H; obtain ⟨t138, A100, H⟩ := H; have A10 := am A100; clear A100
     by_cases c11 : t138 = true
     ·subst c11
      rw [if_pos rfl] at H; replace H := Option.bind_eq_some_iff.mp H; obtain ⟨t139, A120, H⟩ := H; have A12 := am A120; clear A120
      by_cases c13 : t139 = true
      ·subst c13
       rw [if_pos rfl] at H; replace H := Option.bind_eq_some_iff.mp H; obtain ⟨t140, A140, H⟩ := H; have A14 := am A140; clear A140
       by_cases c15 : t140 = true
       ·subst c15
        rw [if_pos rfl] at H; replace H := Option.bind_eq_some_iff.mp H; obtain ⟨t141, A160, H⟩ := H; have A16 := am A160; clear A160; have H' := am H; clear H; obtain ⟨_, _, _, _, _, _, _, _, _, _, _, _⟩ := c12 BK135.out; go_wp2_with (first | (go_at_call 54; (with_reducible refine (job_in.calls a0_1 0 7 true _ A6.out).mono ?_); rintro e w' ⟨rfl, ⟨nd, rfl⟩⟩; (try clear A6)) | (go_at_call 54; (with_reducible refine (job_in.calls a0_2 1 32 true _ A8.out).mono ?_); rintro e w' ⟨rfl, ⟨nd, rfl⟩⟩; (try clear A8)) | (go_at_call 54; (with_reducible refine (job_in.calls a0_3 1 1048576 true _ A10.out).mono ?_); rintro e w' ⟨rfl, ⟨nd, rfl⟩⟩; (try clear A10)) | (go_at_call 54; (with_reducible refine (job_in.calls a0_4 0 7 true _ A12.out).mono ?_); rintro e w' ⟨rfl, ⟨nd, rfl⟩⟩; (try clear A12)) | (go_at_call 54; (with_reducible refine (job_in.calls a0_5 0 1048576 true _ A14.out).mono ?_); rintro e w' ⟨rfl, ⟨nd, rfl⟩⟩; (try clear A14)) | (go_at_call 54; (with_reducible refine (job_in.calls a0_6 0 1099511627776 t141 _ A16.out).mono ?_); rintro e w' ⟨rfl, ⟨nd, rfl⟩⟩; (try clear A16)))
        go_meet
        case rel => exact ⟨_, (!t141), sx, H', ⟨by first | omega | exact Nat.le_refl _⟩, ⟨BK135.out⟩, ⟨bx⟩⟩
       ·replace c15 := Bool.eq_false_iff.mpr c15
        subst c15; rw [if_neg (show ¬ (false = true) by decide)] at H; have H' := am H; clear H; obtain ⟨_, _, _, _, _, _, _, _, _, _, _, _⟩ := c12 BK135.out; go_wp2_with (first | (go_at_call 54; (with_reducible refine (job_in.calls a0_1 0 7 true _ A6.out).mono ?_); rintro e w' ⟨rfl, ⟨nd, rfl⟩⟩; (try clear A6)) | (go_at_call 54; (with_reducible refine (job_in.calls a0_2 1 32 true _ A8.out).mono ?_); rintro e w' ⟨rfl, ⟨nd, rfl⟩⟩; (try clear A8)) | (go_at_call 54; (with_reducible refine (job_in.calls a0_3 1 1048576 true _ A10.out).mono ?_); rintro e w' ⟨rfl, ⟨nd, rfl⟩⟩; (try clear A10)) | (go_at_call 54; (with_reducible refine (job_in.calls a0_4 0 7 true _ A12.out).mono ?_); rintro e w' ⟨rfl, ⟨nd, rfl⟩⟩; (try clear A12)) | (go_at_call 54; (with_reducible refine (job_in.calls a0_5 0 1048576 false _ A14.out).mono ?_); rintro e w' ⟨rfl, ⟨nd, rfl⟩⟩; (try clear A14)))
        go_meet
        case rel => exact ⟨_, (true), sx, H', ⟨by first | omega | exact Nat.le_refl _⟩, ⟨BK135.out⟩, ⟨bx⟩⟩
      ·replace c13 := Bool.eq_false_iff.mpr c13
       subst c13; rw [if_neg (show ¬ (false = true) by decide)] at H; have H' := am H; clear H; obtain ⟨_, _, _, _, _, _, _, _, _, _, _, _⟩ := c12 BK135.out; go_wp2_with (first | (go_at_call 54; (with_reducible refine (job_in.calls a0_1 0 7 true _ A6.out).mono ?_); rintro e w' ⟨rfl, ⟨nd, rfl⟩⟩; (try clear A6)) | (go_at_call 54; (with_reducible refine (job_in.calls a0_2 1 32 true _ A8.out).mono ?_); rintro e w' ⟨rfl, ⟨nd, rfl⟩⟩; (try clear A8)) | (go_at_call 54; (with_reducible refine (job_in.calls a0_3 1 1048576 true _ A10.out).mono ?_); rintro e w' ⟨rfl, ⟨nd, rfl⟩⟩; (try clear A10)) | (go_at_call 54; (with_reducible refine (job_in.calls a0_4 0 7 false _ A12.out).mono ?_); rintro e w' ⟨rfl, ⟨nd, rfl⟩⟩; (try clear A12)))
       go_meet
       case rel => exact ⟨_, (true), sx, H', ⟨by first | omega | exact Nat.le_refl _⟩, ⟨BK135.out⟩, ⟨bx⟩⟩
     ·replace c11 := Bool.eq_false_iff.mpr c11
      subst c11; rw [if_neg (show ¬ (false = true) by decide)] at H; have H' := am H; clear H; obtain ⟨_, _, _, _, _, _, _, _, _, _, _, _⟩ := c12 BK135.out; go_wp2_with (first | (go_at_call 54; (with_reducible refine (job_in.calls a0_1 0 7 true _ A6.out).mono ?_); rintro e w' ⟨rfl, ⟨nd, rfl⟩⟩; (try clear A6)) | (go_at_call 54; (with_reducible refine (job_in.calls a0_2 1 32 true _ A8.out).mono ?_); rintro e w' ⟨rfl, ⟨nd, rfl⟩⟩; (try clear A8)) | (go_at_call 54; (with_reducible refine (job_in.calls a0_3 1 1048576 false _ A10.out).mono ?_); rintro e w' ⟨rfl, ⟨nd, rfl⟩⟩; (try clear A10)))
      go_meet
      case rel => exact ⟨_, (true), sx, H', ⟨by first | omega | exact Nat.le_refl _⟩, ⟨BK135.out⟩, ⟨bx⟩⟩
    ·replace c9 := Bool.eq_false_iff.mpr c9
     subst c9; rw [if_neg (show ¬ (false = true) by decide)] at H; have H' := am H; clear H; obtain ⟨_, _, _, _, _, _, _, _, _, _, _, _⟩ := c12 BK135.out; go_wp2_with (first | (go_at_call 54; (with_reducible refine (job_in.calls a0_1 0 7 true _ A6.out).mono ?_); rintro e w' ⟨rfl, ⟨nd, rfl⟩⟩; (try clear A6)) | (go_at_call 54; (with_reducible refine (job_in.calls a0_2 1 32 false _ A8.out).mono ?_); rintro e w' ⟨rfl, ⟨nd, rfl⟩⟩; (try clear A8)))
     go_meet
     case rel => exact ⟨_, (true), sx, H', ⟨by first | omega | exact Nat.le_refl _⟩, ⟨BK135.out⟩, ⟨bx⟩⟩
   ·replace c7 := Bool.eq_false_iff.mpr c7
    subst c7; rw [if_neg (show ¬ (false = true) by decide)] at H; have H' := am H; clear H; obtain ⟨_, _, _, _, _, _, _, _, _, _, _, _⟩ := c12 BK135.out; go_wp2_with (first | (go_at_call 54; (with_reducible refine (job_in.calls a0_1 0 7 false _ A6.out).mono ?_); rintro e w' ⟨rfl, ⟨nd, rfl⟩⟩; (try clear A6)))
    go_meet
    case rel => exact ⟨_, (true), sx, H', ⟨by first | omega | exact Nat.le_refl _⟩, ⟨BK135.out⟩, ⟨bx⟩⟩
 case rest =>
  clear HC2; obtain ⟨kq, x41_1, rfl, HA, HJ1, BK135, HB⟩ := hcut
  cases kq with
  | zero => exact absurd HA.out (by simp [job_Good.j0])
  | succ kj1 =>
   have H := HA.out; clear HA; simp only [job_Good.j0] at H
   by_cases c23 : x41_1 = true
   ·subst c23
    rw [if_pos rfl] at H; obtain rfl := Option.some.inj H; go_wp2; go_ret; exact ⟨by first | rfl | (simp [*, errW_none, errW_some] <;> rfl), HB.out⟩
   ·replace c23 := Bool.eq_false_iff.mpr c23
    subst c23; rw [if_neg (show ¬ (false = true) by decide)] at H; have HC24 := am H; clear H; obtain ⟨_, _, _, _, _, _, _, _, _, _, _, _⟩ := c12 BK135.out
    go_upto_if 44 with (fail)
    go_cut [44] (fun v44 wc => ∃ (kq : Nat) (x44_23 : Bool), v44 = .bool x44_23 ∧ Aside0 (job_Good.j1 kq a0_7 x44_23 a0_0 a0_1 a0_2 a0_3 a0_4 a0_5 a0_6 a0_7 a0_8 a0_9 a0_10 l0_11 = some r) ∧ Aside0 (kq ≤ kj1) ∧ Aside0 (wc.heap[gb135]? = some (.cells #[.int .i64 a0_0, .int .i64 a0_1, .int .i64 a0_2, .int .i64 a0_3, .int .i64 a0_4, .int .i64 a0_5, .int .i64 a0_6, .int .i64 a0_7, .int .i64 a0_8, .int .i64 a0_9, .int .i64 a0_10, (.slice A0_11 l0_11.length c0_11)] 50 (0, 0))) ∧ Aside0 (Below w.heap.size w wc))
    case first =>
     have H := HC24.out; clear HC24
     by_cases c26 : a0_7 = 1
     ·rw [if_pos c26] at H
      have c26b0 := beq_iff_eq.mpr c26; have c26b1 := bne_eq_false_iff_eq.mpr c26; clear c26
      (first | rw [c26b0] | (simp only [i64_w, i32_w]; rw [c26b0]) | skip)
      have H' := am H; clear H; go_wp2
      go_meet
      case rel => exact ⟨_, ((a0_7 == 1)), sx, H', ⟨by have := HJ1.out; first | omega | exact Nat.le_refl _⟩, ⟨BK135.out⟩, ⟨HB.out⟩⟩
     ·rw [if_neg c26] at H
      have c26b0 := beq_eq_false_iff_ne.mpr c26; have c26b1 := bne_iff_ne.mpr c26
      (first | rw [c26b0] | (simp only [i64_w, i32_w]; rw [c26b0]) | skip)
      have H' := am H; clear H; go_wp2
      go_meet
      case rel => exact ⟨_, ((a0_7 == 2)), sx, H', ⟨by have := HJ1.out; first | omega | exact Nat.le_refl _⟩, ⟨BK135.out⟩, ⟨HB.out⟩⟩
    case rest =>
     clear HC24
     try clear c23
     try clear _ _ _ _ _ _ _ _ _ _ _ _
     obtain ⟨kq, x44_23, rfl, HA, HJ23, BK135, HB⟩ := hcut
     cases kq with
     | zero => exact absurd HA.out (by simp [job_Good.j1])
     | succ kj23 =>
      have H := HA.out; clear HA; simp only [job_Good.j1] at H
      by_cases c27 : x44_23 = true
      ·subst c27
       rw [if_pos rfl] at H
       by_cases c28 : a0_8 = 0
       ·rw [if_pos c28] at H
        have c28b0 := beq_iff_eq.mpr c28; have c28b1 := bne_eq_false_iff_eq.mpr c28; clear c28
        by_cases c29 : a0_9 = 0
        ·rw [if_pos c29] at H
         have c29b0 := beq_iff_eq.mpr c29; have c29b1 := bne_eq_false_iff_eq.mpr c29; clear c29
         by_cases c30 : a0_10 = 0
         ·rw [if_pos c30] at H
          have c30b0 := beq_iff_eq.mpr c30; have c30b1 := bne_eq_false_iff_eq.mpr c30; clear c30; obtain rfl := Option.some.inj H; obtain ⟨_, _, _, _, _, _, _, _, _, _, _, _⟩ := c12 BK135.out; go_wp2; go_ret; exact ⟨by first | rfl | (simp [*, errW_none, errW_some] <;> rfl), HB.out⟩
         ·rw [if_neg c30] at H
          have c30b0 := beq_eq_false_iff_ne.mpr c30; have c30b1 := bne_iff_ne.mpr c30; obtain rfl := Option.some.inj H; obtain ⟨_, _, _, _, _, _, _, _, _, _, _, _⟩ := c12 BK135.out; go_wp2; go_ret; exact ⟨by first | rfl | (simp [*, errW_none, errW_some] <;> rfl), HB.out⟩
        ·rw [if_neg c29] at H
         have c29b0 := beq_eq_false_iff_ne.mpr c29; have c29b1 := bne_iff_ne.mpr c29; obtain rfl := Option.some.inj H; obtain ⟨_, _, _, _, _, _, _, _, _, _, _, _⟩ := c12 BK135.out; go_wp2; go_ret; exact ⟨by first | rfl | (simp [*, errW_none, errW_some] <;> rfl), HB.out⟩
       ·rw [if_neg c28] at H
        have c28b0 := beq_eq_false_iff_ne.mpr c28; have c28b1 := bne_iff_ne.mpr c28; obtain rfl := Option.some.inj H; obtain ⟨_, _, _, _, _, _, _, _, _, _, _, _⟩ := c12 BK135.out; go_wp2; go_ret; exact ⟨by first | rfl | (simp [*, errW_none, errW_some] <;> rfl), HB.out⟩
      ·replace c27 := Bool.eq_false_iff.mpr c27
       subst c27; rw [if_neg (show ¬ (false = true) by decide)] at H
       by_cases c35 : a0_7 = 3
       ·rw [if_pos c35] at H
        have c35b0 := beq_iff_eq.mpr c35; have c35b1 := bne_eq_false_iff_eq.mpr c35; clear c35; replace H := Option.bind_eq_some_iff.mp H; obtain ⟨t142, A360, H⟩ := H; have A36 := am A360; clear A360
        by_cases c37 : t142 = true
        ·subst c37
         rw [if_pos rfl] at H; replace H := Option.bind_eq_some_iff.mp H; obtain ⟨t143, A380, H⟩ := H; have A38 := am A380; clear A380
         by_cases c39 : t143 = true
         ·subst c39
          rw [if_pos rfl] at H; replace H := Option.bind_eq_some_iff.mp H; obtain ⟨t144, A400, H⟩ := H; have A40 := am A400; clear A400
          by_cases c41 : t144 = a0_2
          ·rw [if_pos c41] at H
           have c41b0 := beq_iff_eq.mpr c41; have c41b1 := bne_eq_false_iff_eq.mpr c41; clear c41
           by_cases c42 : a0_10 = 0
           ·rw [if_pos c42] at H
            have c42b0 := beq_iff_eq.mpr c42; have c42b1 := bne_eq_false_iff_eq.mpr c42; clear c42; replace H := Option.bind_eq_some_iff.mp H; obtain ⟨t145, A430, H⟩ := H; have A43 := am A430; clear A430; obtain rfl := Option.some.inj H
            try go_wp2
            replace BK135 := am (blk_drew BK135.out); replace HB := am (below_drew1 HB.out); refine start_ (n := 27) (S := fun w' => w'.cell? ⟨gb135, 0, none⟩ = some (.int .i64 a0_0) ∧ w'.cell? ⟨gb135, 1, none⟩ = some (.int .i64 a0_1) ∧ w'.cell? ⟨gb135, 2, none⟩ = some (.int .i64 a0_2) ∧ w'.cell? ⟨gb135, 3, none⟩ = some (.int .i64 a0_3) ∧ w'.cell? ⟨gb135, 4, none⟩ = some (.int .i64 a0_4) ∧ w'.cell? ⟨gb135, 5, none⟩ = some (.int .i64 a0_5) ∧ w'.cell? ⟨gb135, 6, none⟩ = some (.int .i64 a0_6) ∧ w'.cell? ⟨gb135, 7, none⟩ = some (.int .i64 a0_7) ∧ w'.cell? ⟨gb135, 8, none⟩ = some (.int .i64 a0_8) ∧ w'.cell? ⟨gb135, 9, none⟩ = some (.int .i64 a0_9) ∧ w'.cell? ⟨gb135, 10, none⟩ = some (.int .i64 a0_10) ∧ w'.cell? ⟨gb135, 11, none⟩ = some (.slice A0_11 l0_11.length c0_11)) (ds := []) (tb 27 0) (by kernel_rfl) rfl rfl ⟨(blk_cell BK135.out 0).trans rfl, (blk_cell BK135.out 1).trans rfl, (blk_cell BK135.out 2).trans rfl, (blk_cell BK135.out 3).trans rfl, (blk_cell BK135.out 4).trans rfl, (blk_cell BK135.out 5).trans rfl, (blk_cell BK135.out 6).trans rfl, (blk_cell BK135.out 7).trans rfl, (blk_cell BK135.out 8).trans rfl, (blk_cell BK135.out 9).trans rfl, (blk_cell BK135.out 10).trans rfl, (blk_cell BK135.out 11).trans rfl⟩ (fun hHeld => ?_); refine with_tabW job_Good.tab8 job_Good.bits8 (fun HT_ HW_ => ?_)
            generalize wc.drew = w44 at BK135 HB hHeld ⊢; refine pu 0 68 (tb 27 1) HT_ ?_; refine tk 1 69 (tb 27 3) HT_ HW_ hHeld ?_; refine one_ (i := 2) (N := some 70) (tb 27 7) rfl rfl (one_of HT_.out (by kernel_rfl)) (by decide) (fun K hK => ?_); refine goes_ Try.func54 (by kernel_rfl) rfl #[.int .i64 a0_8, .int .i64 0, .int .i64 1099511627776] (by rfl) rfl rfl (by (try simp only [List.map_toArray, List.map_cons, List.map_nil]); first | done | rfl | (simp only [List.length_drop, List.length_take]; rfl)) ?_
            with_reducible refine (job_in.calls a0_8 0 1099511627776 true _ A36.out).mono ?_
            rintro e w' ⟨rfl, ⟨nd, rfl⟩⟩; refine ⟨_, rfl, ?_⟩; refine hK.out _ _ ⟨(blk_cell BK135.out 0).trans rfl, (blk_cell BK135.out 1).trans rfl, (blk_cell BK135.out 2).trans rfl, (blk_cell BK135.out 3).trans rfl, (blk_cell BK135.out 4).trans rfl, (blk_cell BK135.out 5).trans rfl, (blk_cell BK135.out 6).trans rfl, (blk_cell BK135.out 7).trans rfl, (blk_cell BK135.out 8).trans rfl, (blk_cell BK135.out 9).trans rfl, (blk_cell BK135.out 10).trans rfl, (blk_cell BK135.out 11).trans rfl⟩ (fun hHeld => ?_); clear hK K; refine norm_ (a' := ?_) ?_ ?_; rotate_left
            ·show Act.put _ (some 70) _ = _
             simp only [Act.put, List.setIfInBounds_toArray, List.set_cons_zero, List.set_cons_succ, i64_w, i32_w]; rfl
            refine pu 3 71 (tb 27 15) HT_ ?_; refine pu 4 72 (tb 27 31) HT_ ?_; refine tk 5 73 (tb 27 63) HT_ HW_ hHeld ?_; refine one_ (i := 6) (N := some 74) (tb 27 127) rfl rfl (one_of HT_.out (by kernel_rfl)) (by decide) (fun K hK => ?_); refine goes_ Try.func54 (by kernel_rfl) rfl #[.int .i64 a0_9, .int .i64 0, .int .i64 4294967295] (by rfl) rfl rfl (by (try simp only [List.map_toArray, List.map_cons, List.map_nil]); first | done | rfl | (simp only [List.length_drop, List.length_take]; rfl)) ?_
            with_reducible refine (job_in.calls a0_9 0 4294967295 true _ A38.out).mono ?_
            rintro e w' ⟨rfl, ⟨nd, rfl⟩⟩; refine ⟨_, rfl, ?_⟩
            (try clear A38)
            refine hK.out _ _ ⟨(blk_cell BK135.out 0).trans rfl, (blk_cell BK135.out 1).trans rfl, (blk_cell BK135.out 2).trans rfl, (blk_cell BK135.out 3).trans rfl, (blk_cell BK135.out 4).trans rfl, (blk_cell BK135.out 5).trans rfl, (blk_cell BK135.out 6).trans rfl, (blk_cell BK135.out 7).trans rfl, (blk_cell BK135.out 8).trans rfl, (blk_cell BK135.out 9).trans rfl, (blk_cell BK135.out 10).trans rfl, (blk_cell BK135.out 11).trans rfl⟩ (fun hHeld => ?_); clear hK K; refine norm_ (a' := ?_) ?_ ?_; rotate_left
            ·show Act.put _ (some 74) _ = _
             simp only [Act.put, List.setIfInBounds_toArray, List.set_cons_zero, List.set_cons_succ, i64_w, i32_w]; rfl
            refine pu 7 75 (tb 27 255) HT_ ?_; refine pu 8 76 (tb 27 511) HT_ ?_; refine pu 9 77 (tb 27 1023) HT_ ?_; refine pu 12 80 (tb 27 5119) HT_ ?_; refine tk 10 78 (tb 27 6143) HT_ HW_ hHeld ?_; refine tk 13 81 (tb 27 14335) HT_ HW_ hHeld ?_; refine one_ (i := 11) (N := some 79) (tb 27 16383) rfl rfl (one_of HT_.out (by kernel_rfl)) (by decide) (fun K hK => ?_); refine goes_ Try.func55 (by kernel_rfl) rfl #[.int .i64 a0_9] (by rfl) rfl rfl (by (try simp only [List.map_toArray, List.map_cons, List.map_nil]); first | done | rfl | (simp only [List.length_drop, List.length_take]; rfl)) ?_
            with_reducible refine (pool_Count.calls a0_9 t144 _ A40.out).mono ?_
            rintro e w' ⟨rfl, ⟨nd, rfl⟩⟩; refine ⟨_, rfl, ?_⟩
            (try clear A40)
            refine hK.out _ _ ⟨(blk_cell BK135.out 0).trans rfl, (blk_cell BK135.out 1).trans rfl, (blk_cell BK135.out 2).trans rfl, (blk_cell BK135.out 3).trans rfl, (blk_cell BK135.out 4).trans rfl, (blk_cell BK135.out 5).trans rfl, (blk_cell BK135.out 6).trans rfl, (blk_cell BK135.out 7).trans rfl, (blk_cell BK135.out 8).trans rfl, (blk_cell BK135.out 9).trans rfl, (blk_cell BK135.out 10).trans rfl, (blk_cell BK135.out 11).trans rfl⟩ (fun hHeld => ?_); clear hK K; refine norm_ (a' := ?_) ?_ ?_; rotate_left
            ·show Act.put _ (some 79) _ = _
             simp only [Act.put, List.setIfInBounds_toArray, List.set_cons_zero, List.set_cons_succ, i64_w, i32_w]; rfl
            refine pu 14 82 (tb 27 32767) HT_ ?_; refine pu 15 83 (tb 27 65535) HT_ ?_; refine pu 16 84 (tb 27 131071) HT_ ?_; refine pu 17 85 (tb 27 262143) HT_ ?_; refine tk 18 86 (tb 27 524287) HT_ HW_ hHeld ?_; refine pu 19 87 (tb 27 1048575) HT_ ?_; refine pu 20 88 (tb 27 2097151) HT_ ?_; refine pu 21 89 (tb 27 4194303) HT_ ?_; refine pu 22 90 (tb 27 8388607) HT_ ?_; refine tk 23 91 (tb 27 16777215) HT_ HW_ hHeld ?_; refine one_ (i := 24) (N := some 92) (tb 27 33554431) rfl rfl (one_of HT_.out (by kernel_rfl)) (by decide) (fun K hK => ?_); refine goes_ Try.func56 (by kernel_rfl) rfl #[.slice A0_11 l0_11.length c0_11] (by rfl) rfl rfl (by (try simp only [List.map_toArray, List.map_cons, List.map_nil]); first | done | rfl | (simp only [List.length_drop, List.length_take]; rfl)) ?_
            with_reducible refine (job_draws.calls kj23 _ _ l0_11 t145 _ ?side1 ?side2 A43.out).mono ?_
            (case side1 => repeat (first | exact (Kd.C_below HR0_11.out HB.out) | (with_reducible refine Kd.C_alloc ?_ _) | (with_reducible refine Kd.C_drewN ?_ _) | (with_reducible refine Kd.C_drew ?_)))
            (case side2 => exact HC0_11.out)
            rintro e w45 ⟨rfl, hb⟩; refine ⟨_, rfl, ?_⟩
            (try clear A43)
            replace BK135 := am (blk_below (kk BK135) hb); replace HB := am (below_step bx hb)
            (try clear hb)
            (try clear hb2)
            (try clear hk)
            (try clear hi)
            refine hK.out _ _ ⟨(blk_cell BK135.out 0).trans rfl, (blk_cell BK135.out 1).trans rfl, (blk_cell BK135.out 2).trans rfl, (blk_cell BK135.out 3).trans rfl, (blk_cell BK135.out 4).trans rfl, (blk_cell BK135.out 5).trans rfl, (blk_cell BK135.out 6).trans rfl, (blk_cell BK135.out 7).trans rfl, (blk_cell BK135.out 8).trans rfl, (blk_cell BK135.out 9).trans rfl, (blk_cell BK135.out 10).trans rfl, (blk_cell BK135.out 11).trans rfl⟩ (fun hHeld => ?_); clear hK K; refine norm_ (a' := ?_) ?_ ?_; rotate_left
            ·show Act.put _ (some 92) _ = _
             simp only [Act.put, List.setIfInBounds_toArray, List.set_cons_zero, List.set_cons_succ, i64_w, i32_w]; rfl
            refine pu 25 93 (tb 27 67108863) HT_ ?_; refine pu 26 2 (tb 27 134217727) HT_ ?_; refine done_ (done_of HT_.out (by kernel_rfl)) ?_
            try go_wp2
            go_ret; exact ⟨by first | rfl | (simp [*, errW_none, errW_some] <;> rfl), HB.out⟩
           ·rw [if_neg c42] at H
            have c42b0 := beq_eq_false_iff_ne.mpr c42; have c42b1 := bne_iff_ne.mpr c42; obtain rfl := Option.some.inj H
            try go_wp2
            replace BK135 := am (blk_drew BK135.out); replace HB := am (below_drew1 HB.out); refine start_ (n := 27) (S := fun w' => w'.cell? ⟨gb135, 0, none⟩ = some (.int .i64 a0_0) ∧ w'.cell? ⟨gb135, 1, none⟩ = some (.int .i64 a0_1) ∧ w'.cell? ⟨gb135, 2, none⟩ = some (.int .i64 a0_2) ∧ w'.cell? ⟨gb135, 3, none⟩ = some (.int .i64 a0_3) ∧ w'.cell? ⟨gb135, 4, none⟩ = some (.int .i64 a0_4) ∧ w'.cell? ⟨gb135, 5, none⟩ = some (.int .i64 a0_5) ∧ w'.cell? ⟨gb135, 6, none⟩ = some (.int .i64 a0_6) ∧ w'.cell? ⟨gb135, 7, none⟩ = some (.int .i64 a0_7) ∧ w'.cell? ⟨gb135, 8, none⟩ = some (.int .i64 a0_8) ∧ w'.cell? ⟨gb135, 9, none⟩ = some (.int .i64 a0_9) ∧ w'.cell? ⟨gb135, 10, none⟩ = some (.int .i64 a0_10) ∧ w'.cell? ⟨gb135, 11, none⟩ = some (.slice A0_11 l0_11.length c0_11)) (ds := []) (tb 27 0) (by kernel_rfl) rfl rfl ⟨(blk_cell BK135.out 0).trans rfl, (blk_cell BK135.out 1).trans rfl, (blk_cell BK135.out 2).trans rfl, (blk_cell BK135.out 3).trans rfl, (blk_cell BK135.out 4).trans rfl, (blk_cell BK135.out 5).trans rfl, (blk_cell BK135.out 6).trans rfl, (blk_cell BK135.out 7).trans rfl, (blk_cell BK135.out 8).trans rfl, (blk_cell BK135.out 9).trans rfl, (blk_cell BK135.out 10).trans rfl, (blk_cell BK135.out 11).trans rfl⟩ (fun hHeld => ?_); refine with_tabW job_Good.tab8 job_Good.bits8 (fun HT_ HW_ => ?_)
            generalize wc.drew = w46 at BK135 HB hHeld ⊢; refine pu 0 68 (tb 27 1) HT_ ?_; refine tk 1 69 (tb 27 3) HT_ HW_ hHeld ?_; refine one_ (i := 2) (N := some 70) (tb 27 7) rfl rfl (one_of HT_.out (by kernel_rfl)) (by decide) (fun K hK => ?_); refine goes_ Try.func54 (by kernel_rfl) rfl #[.int .i64 a0_8, .int .i64 0, .int .i64 1099511627776] (by rfl) rfl rfl (by (try simp only [List.map_toArray, List.map_cons, List.map_nil]); first | done | rfl | (simp only [List.length_drop, List.length_take]; rfl)) ?_
            with_reducible refine (job_in.calls a0_8 0 1099511627776 true _ A36.out).mono ?_
            rintro e w' ⟨rfl, ⟨nd, rfl⟩⟩; refine ⟨_, rfl, ?_⟩; refine hK.out _ _ ⟨(blk_cell BK135.out 0).trans rfl, (blk_cell BK135.out 1).trans rfl, (blk_cell BK135.out 2).trans rfl, (blk_cell BK135.out 3).trans rfl, (blk_cell BK135.out 4).trans rfl, (blk_cell BK135.out 5).trans rfl, (blk_cell BK135.out 6).trans rfl, (blk_cell BK135.out 7).trans rfl, (blk_cell BK135.out 8).trans rfl, (blk_cell BK135.out 9).trans rfl, (blk_cell BK135.out 10).trans rfl, (blk_cell BK135.out 11).trans rfl⟩ (fun hHeld => ?_); clear hK K; refine norm_ (a' := ?_) ?_ ?_; rotate_left
            ·show Act.put _ (some 70) _ = _
             simp only [Act.put, List.setIfInBounds_toArray, List.set_cons_zero, List.set_cons_succ, i64_w, i32_w]; rfl
            refine pu 3 71 (tb 27 15) HT_ ?_; refine pu 4 72 (tb 27 31) HT_ ?_; refine tk 5 73 (tb 27 63) HT_ HW_ hHeld ?_; refine one_ (i := 6) (N := some 74) (tb 27 127) rfl rfl (one_of HT_.out (by kernel_rfl)) (by decide) (fun K hK => ?_); refine goes_ Try.func54 (by kernel_rfl) rfl #[.int .i64 a0_9, .int .i64 0, .int .i64 4294967295] (by rfl) rfl rfl (by (try simp only [List.map_toArray, List.map_cons, List.map_nil]); first | done | rfl | (simp only [List.length_drop, List.length_take]; rfl)) ?_
            with_reducible refine (job_in.calls a0_9 0 4294967295 true _ A38.out).mono ?_
            rintro e w' ⟨rfl, ⟨nd, rfl⟩⟩; refine ⟨_, rfl, ?_⟩
            (try clear A38)
            refine hK.out _ _ ⟨(blk_cell BK135.out 0).trans rfl, (blk_cell BK135.out 1).trans rfl, (blk_cell BK135.out 2).trans rfl, (blk_cell BK135.out 3).trans rfl, (blk_cell BK135.out 4).trans rfl, (blk_cell BK135.out 5).trans rfl, (blk_cell BK135.out 6).trans rfl, (blk_cell BK135.out 7).trans rfl, (blk_cell BK135.out 8).trans rfl, (blk_cell BK135.out 9).trans rfl, (blk_cell BK135.out 10).trans rfl, (blk_cell BK135.out 11).trans rfl⟩ (fun hHeld => ?_); clear hK K; refine norm_ (a' := ?_) ?_ ?_; rotate_left
            ·show Act.put _ (some 74) _ = _
             simp only [Act.put, List.setIfInBounds_toArray, List.set_cons_zero, List.set_cons_succ, i64_w, i32_w]; rfl
            refine pu 7 75 (tb 27 255) HT_ ?_; refine pu 8 76 (tb 27 511) HT_ ?_; refine pu 9 77 (tb 27 1023) HT_ ?_; refine pu 12 80 (tb 27 5119) HT_ ?_; refine tk 10 78 (tb 27 6143) HT_ HW_ hHeld ?_; refine tk 13 81 (tb 27 14335) HT_ HW_ hHeld ?_; refine one_ (i := 11) (N := some 79) (tb 27 16383) rfl rfl (one_of HT_.out (by kernel_rfl)) (by decide) (fun K hK => ?_); refine goes_ Try.func55 (by kernel_rfl) rfl #[.int .i64 a0_9] (by rfl) rfl rfl (by (try simp only [List.map_toArray, List.map_cons, List.map_nil]); first | done | rfl | (simp only [List.length_drop, List.length_take]; rfl)) ?_
            with_reducible refine (pool_Count.calls a0_9 t144 _ A40.out).mono ?_
            rintro e w' ⟨rfl, ⟨nd, rfl⟩⟩; refine ⟨_, rfl, ?_⟩
            (try clear A40)
            refine hK.out _ _ ⟨(blk_cell BK135.out 0).trans rfl, (blk_cell BK135.out 1).trans rfl, (blk_cell BK135.out 2).trans rfl, (blk_cell BK135.out 3).trans rfl, (blk_cell BK135.out 4).trans rfl, (blk_cell BK135.out 5).trans rfl, (blk_cell BK135.out 6).trans rfl, (blk_cell BK135.out 7).trans rfl, (blk_cell BK135.out 8).trans rfl, (blk_cell BK135.out 9).trans rfl, (blk_cell BK135.out 10).trans rfl, (blk_cell BK135.out 11).trans rfl⟩ (fun hHeld => ?_); clear hK K; refine norm_ (a' := ?_) ?_ ?_; rotate_left
            ·show Act.put _ (some 79) _ = _
             simp only [Act.put, List.setIfInBounds_toArray, List.set_cons_zero, List.set_cons_succ, i64_w, i32_w]; rfl
            refine pu 14 82 (tb 27 32767) HT_ ?_; refine pu 15 83 (tb 27 65535) HT_ ?_; refine pu 16 84 (tb 27 131071) HT_ ?_; refine pu 17 85 (tb 27 262143) HT_ ?_; refine tk 18 86 (tb 27 524287) HT_ HW_ hHeld ?_; refine pu 19 87 (tb 27 1048575) HT_ ?_; refine pu 20 88 (tb 27 2097151) HT_ ?_; refine pu 21 89 (tb 27 4194303) HT_ ?_; refine pz 22 90 (tb 27 8388607) HT_ ?_; refine pz 23 91 (tb 27 16777215) HT_ ?_; refine pz 24 92 (tb 27 33554431) HT_ ?_; refine pu 25 93 (tb 27 67108863) HT_ ?_; refine pu 26 2 (tb 27 134217727) HT_ ?_; refine done_ (done_of HT_.out (by kernel_rfl)) ?_
            try go_wp2
            go_ret; exact ⟨by first | rfl | (simp [*, errW_none, errW_some] <;> rfl), bx⟩
          ·rw [if_neg c41] at H
           have c41b0 := beq_eq_false_iff_ne.mpr c41; have c41b1 := bne_iff_ne.mpr c41; obtain rfl := Option.some.inj H
           try go_wp2
           replace BK135 := am (blk_drew BK135.out); replace HB := am (below_drew1 HB.out); refine start_ (n := 27) (S := fun w' => w'.cell? ⟨gb135, 0, none⟩ = some (.int .i64 a0_0) ∧ w'.cell? ⟨gb135, 1, none⟩ = some (.int .i64 a0_1) ∧ w'.cell? ⟨gb135, 2, none⟩ = some (.int .i64 a0_2) ∧ w'.cell? ⟨gb135, 3, none⟩ = some (.int .i64 a0_3) ∧ w'.cell? ⟨gb135, 4, none⟩ = some (.int .i64 a0_4) ∧ w'.cell? ⟨gb135, 5, none⟩ = some (.int .i64 a0_5) ∧ w'.cell? ⟨gb135, 6, none⟩ = some (.int .i64 a0_6) ∧ w'.cell? ⟨gb135, 7, none⟩ = some (.int .i64 a0_7) ∧ w'.cell? ⟨gb135, 8, none⟩ = some (.int .i64 a0_8) ∧ w'.cell? ⟨gb135, 9, none⟩ = some (.int .i64 a0_9) ∧ w'.cell? ⟨gb135, 10, none⟩ = some (.int .i64 a0_10) ∧ w'.cell? ⟨gb135, 11, none⟩ = some (.slice A0_11 l0_11.length c0_11)) (ds := []) (tb 27 0) (by kernel_rfl) rfl rfl ⟨(blk_cell BK135.out 0).trans rfl, (blk_cell BK135.out 1).trans rfl, (blk_cell BK135.out 2).trans rfl, (blk_cell BK135.out 3).trans rfl, (blk_cell BK135.out 4).trans rfl, (blk_cell BK135.out 5).trans rfl, (blk_cell BK135.out 6).trans rfl, (blk_cell BK135.out 7).trans rfl, (blk_cell BK135.out 8).trans rfl, (blk_cell BK135.out 9).trans rfl, (blk_cell BK135.out 10).trans rfl, (blk_cell BK135.out 11).trans rfl⟩ (fun hHeld => ?_); refine with_tabW job_Good.tab8 job_Good.bits8 (fun HT_ HW_ => ?_)
           generalize wc.drew = w47 at BK135 HB hHeld ⊢; refine pu 0 68 (tb 27 1) HT_ ?_; refine tk 1 69 (tb 27 3) HT_ HW_ hHeld ?_; refine one_ (i := 2) (N := some 70) (tb 27 7) rfl rfl (one_of HT_.out (by kernel_rfl)) (by decide) (fun K hK => ?_); refine goes_ Try.func54 (by kernel_rfl) rfl #[.int .i64 a0_8, .int .i64 0, .int .i64 1099511627776] (by rfl) rfl rfl (by (try simp only [List.map_toArray, List.map_cons, List.map_nil]); first | done | rfl | (simp only [List.length_drop, List.length_take]; rfl)) ?_
           with_reducible refine (job_in.calls a0_8 0 1099511627776 true _ A36.out).mono ?_
           rintro e w' ⟨rfl, ⟨nd, rfl⟩⟩; refine ⟨_, rfl, ?_⟩; refine hK.out _ _ ⟨(blk_cell BK135.out 0).trans rfl, (blk_cell BK135.out 1).trans rfl, (blk_cell BK135.out 2).trans rfl, (blk_cell BK135.out 3).trans rfl, (blk_cell BK135.out 4).trans rfl, (blk_cell BK135.out 5).trans rfl, (blk_cell BK135.out 6).trans rfl, (blk_cell BK135.out 7).trans rfl, (blk_cell BK135.out 8).trans rfl, (blk_cell BK135.out 9).trans rfl, (blk_cell BK135.out 10).trans rfl, (blk_cell BK135.out 11).trans rfl⟩ (fun hHeld => ?_); clear hK K; refine norm_ (a' := ?_) ?_ ?_; rotate_left
           ·show Act.put _ (some 70) _ = _
            simp only [Act.put, List.setIfInBounds_toArray, List.set_cons_zero, List.set_cons_succ, i64_w, i32_w]; rfl
           refine pu 3 71 (tb 27 15) HT_ ?_; refine pu 4 72 (tb 27 31) HT_ ?_; refine tk 5 73 (tb 27 63) HT_ HW_ hHeld ?_; refine one_ (i := 6) (N := some 74) (tb 27 127) rfl rfl (one_of HT_.out (by kernel_rfl)) (by decide) (fun K hK => ?_); refine goes_ Try.func54 (by kernel_rfl) rfl #[.int .i64 a0_9, .int .i64 0, .int .i64 4294967295] (by rfl) rfl rfl (by (try simp only [List.map_toArray, List.map_cons, List.map_nil]); first | done | rfl | (simp only [List.length_drop, List.length_take]; rfl)) ?_
           with_reducible refine (job_in.calls a0_9 0 4294967295 true _ A38.out).mono ?_
           rintro e w' ⟨rfl, ⟨nd, rfl⟩⟩; refine ⟨_, rfl, ?_⟩
           (try clear A38)
           refine hK.out _ _ ⟨(blk_cell BK135.out 0).trans rfl, (blk_cell BK135.out 1).trans rfl, (blk_cell BK135.out 2).trans rfl, (blk_cell BK135.out 3).trans rfl, (blk_cell BK135.out 4).trans rfl, (blk_cell BK135.out 5).trans rfl, (blk_cell BK135.out 6).trans rfl, (blk_cell BK135.out 7).trans rfl, (blk_cell BK135.out 8).trans rfl, (blk_cell BK135.out 9).trans rfl, (blk_cell BK135.out 10).trans rfl, (blk_cell BK135.out 11).trans rfl⟩ (fun hHeld => ?_); clear hK K; refine norm_ (a' := ?_) ?_ ?_; rotate_left
           ·show Act.put _ (some 74) _ = _
            simp only [Act.put, List.setIfInBounds_toArray, List.set_cons_zero, List.set_cons_succ, i64_w, i32_w]; rfl
           refine pu 7 75 (tb 27 255) HT_ ?_; refine pu 8 76 (tb 27 511) HT_ ?_; refine pu 9 77 (tb 27 1023) HT_ ?_; refine pu 12 80 (tb 27 5119) HT_ ?_; refine tk 10 78 (tb 27 6143) HT_ HW_ hHeld ?_; refine tk 13 81 (tb 27 14335) HT_ HW_ hHeld ?_; refine one_ (i := 11) (N := some 79) (tb 27 16383) rfl rfl (one_of HT_.out (by kernel_rfl)) (by decide) (fun K hK => ?_); refine goes_ Try.func55 (by kernel_rfl) rfl #[.int .i64 a0_9] (by rfl) rfl rfl (by (try simp only [List.map_toArray, List.map_cons, List.map_nil]); first | done | rfl | (simp only [List.length_drop, List.length_take]; rfl)) ?_
           with_reducible refine (pool_Count.calls a0_9 t144 _ A40.out).mono ?_
           rintro e w' ⟨rfl, ⟨nd, rfl⟩⟩; refine ⟨_, rfl, ?_⟩
           (try clear A40)
           refine hK.out _ _ ⟨(blk_cell BK135.out 0).trans rfl, (blk_cell BK135.out 1).trans rfl, (blk_cell BK135.out 2).trans rfl, (blk_cell BK135.out 3).trans rfl, (blk_cell BK135.out 4).trans rfl, (blk_cell BK135.out 5).trans rfl, (blk_cell BK135.out 6).trans rfl, (blk_cell BK135.out 7).trans rfl, (blk_cell BK135.out 8).trans rfl, (blk_cell BK135.out 9).trans rfl, (blk_cell BK135.out 10).trans rfl, (blk_cell BK135.out 11).trans rfl⟩ (fun hHeld => ?_); clear hK K; refine norm_ (a' := ?_) ?_ ?_; rotate_left
           ·show Act.put _ (some 79) _ = _
            simp only [Act.put, List.setIfInBounds_toArray, List.set_cons_zero, List.set_cons_succ, i64_w, i32_w]; rfl
           refine pu 14 82 (tb 27 32767) HT_ ?_; refine pu 15 83 (tb 27 65535) HT_ ?_; refine pu 16 84 (tb 27 131071) HT_ ?_; refine pz 17 85 (tb 27 262143) HT_ ?_; refine pz 18 86 (tb 27 524287) HT_ ?_; refine pz 19 87 (tb 27 1048575) HT_ ?_; refine pu 20 88 (tb 27 2097151) HT_ ?_; refine pu 21 89 (tb 27 4194303) HT_ ?_; refine pz 22 90 (tb 27 8388607) HT_ ?_; refine pz 23 91 (tb 27 16777215) HT_ ?_; refine pz 24 92 (tb 27 33554431) HT_ ?_; refine pu 25 93 (tb 27 67108863) HT_ ?_; refine pu 26 2 (tb 27 134217727) HT_ ?_; refine done_ (done_of HT_.out (by kernel_rfl)) ?_
           try go_wp2
           go_ret; exact ⟨by first | rfl | (simp [*, errW_none, errW_some] <;> rfl), bx⟩
         ·replace c39 := Bool.eq_false_iff.mpr c39
          subst c39; rw [if_neg (show ¬ (false = true) by decide)] at H; obtain rfl := Option.some.inj H
          try go_wp2
          replace BK135 := am (blk_drew BK135.out); replace HB := am (below_drew1 HB.out); refine start_ (n := 27) (S := fun w' => w'.cell? ⟨gb135, 0, none⟩ = some (.int .i64 a0_0) ∧ w'.cell? ⟨gb135, 1, none⟩ = some (.int .i64 a0_1) ∧ w'.cell? ⟨gb135, 2, none⟩ = some (.int .i64 a0_2) ∧ w'.cell? ⟨gb135, 3, none⟩ = some (.int .i64 a0_3) ∧ w'.cell? ⟨gb135, 4, none⟩ = some (.int .i64 a0_4) ∧ w'.cell? ⟨gb135, 5, none⟩ = some (.int .i64 a0_5) ∧ w'.cell? ⟨gb135, 6, none⟩ = some (.int .i64 a0_6) ∧ w'.cell? ⟨gb135, 7, none⟩ = some (.int .i64 a0_7) ∧ w'.cell? ⟨gb135, 8, none⟩ = some (.int .i64 a0_8) ∧ w'.cell? ⟨gb135, 9, none⟩ = some (.int .i64 a0_9) ∧ w'.cell? ⟨gb135, 10, none⟩ = some (.int .i64 a0_10) ∧ w'.cell? ⟨gb135, 11, none⟩ = some (.slice A0_11 l0_11.length c0_11)) (ds := []) (tb 27 0) (by kernel_rfl) rfl rfl ⟨(blk_cell BK135.out 0).trans rfl, (blk_cell BK135.out 1).trans rfl, (blk_cell BK135.out 2).trans rfl, (blk_cell BK135.out 3).trans rfl, (blk_cell BK135.out 4).trans rfl, (blk_cell BK135.out 5).trans rfl, (blk_cell BK135.out 6).trans rfl, (blk_cell BK135.out 7).trans rfl, (blk_cell BK135.out 8).trans rfl, (blk_cell BK135.out 9).trans rfl, (blk_cell BK135.out 10).trans rfl, (blk_cell BK135.out 11).trans rfl⟩ (fun hHeld => ?_); refine with_tabW job_Good.tab8 job_Good.bits8 (fun HT_ HW_ => ?_)
          generalize wc.drew = w48 at BK135 HB hHeld ⊢; refine pu 0 68 (tb 27 1) HT_ ?_; refine tk 1 69 (tb 27 3) HT_ HW_ hHeld ?_; refine one_ (i := 2) (N := some 70) (tb 27 7) rfl rfl (one_of HT_.out (by kernel_rfl)) (by decide) (fun K hK => ?_); refine goes_ Try.func54 (by kernel_rfl) rfl #[.int .i64 a0_8, .int .i64 0, .int .i64 1099511627776] (by rfl) rfl rfl (by (try simp only [List.map_toArray, List.map_cons, List.map_nil]); first | done | rfl | (simp only [List.length_drop, List.length_take]; rfl)) ?_
          with_reducible refine (job_in.calls a0_8 0 1099511627776 true _ A36.out).mono ?_
          rintro e w' ⟨rfl, ⟨nd, rfl⟩⟩; refine ⟨_, rfl, ?_⟩; refine hK.out _ _ ⟨(blk_cell BK135.out 0).trans rfl, (blk_cell BK135.out 1).trans rfl, (blk_cell BK135.out 2).trans rfl, (blk_cell BK135.out 3).trans rfl, (blk_cell BK135.out 4).trans rfl, (blk_cell BK135.out 5).trans rfl, (blk_cell BK135.out 6).trans rfl, (blk_cell BK135.out 7).trans rfl, (blk_cell BK135.out 8).trans rfl, (blk_cell BK135.out 9).trans rfl, (blk_cell BK135.out 10).trans rfl, (blk_cell BK135.out 11).trans rfl⟩ (fun hHeld => ?_); clear hK K; refine norm_ (a' := ?_) ?_ ?_; rotate_left
          ·show Act.put _ (some 70) _ = _
           simp only [Act.put, List.setIfInBounds_toArray, List.set_cons_zero, List.set_cons_succ, i64_w, i32_w]; rfl
          refine pu 3 71 (tb 27 15) HT_ ?_; refine pu 4 72 (tb 27 31) HT_ ?_; refine tk 5 73 (tb 27 63) HT_ HW_ hHeld ?_; refine one_ (i := 6) (N := some 74) (tb 27 127) rfl rfl (one_of HT_.out (by kernel_rfl)) (by decide) (fun K hK => ?_); refine goes_ Try.func54 (by kernel_rfl) rfl #[.int .i64 a0_9, .int .i64 0, .int .i64 4294967295] (by rfl) rfl rfl (by (try simp only [List.map_toArray, List.map_cons, List.map_nil]); first | done | rfl | (simp only [List.length_drop, List.length_take]; rfl)) ?_
          with_reducible refine (job_in.calls a0_9 0 4294967295 false _ A38.out).mono ?_
          rintro e w' ⟨rfl, ⟨nd, rfl⟩⟩; refine ⟨_, rfl, ?_⟩
          (try clear A38)
          refine hK.out _ _ ⟨(blk_cell BK135.out 0).trans rfl, (blk_cell BK135.out 1).trans rfl, (blk_cell BK135.out 2).trans rfl, (blk_cell BK135.out 3).trans rfl, (blk_cell BK135.out 4).trans rfl, (blk_cell BK135.out 5).trans rfl, (blk_cell BK135.out 6).trans rfl, (blk_cell BK135.out 7).trans rfl, (blk_cell BK135.out 8).trans rfl, (blk_cell BK135.out 9).trans rfl, (blk_cell BK135.out 10).trans rfl, (blk_cell BK135.out 11).trans rfl⟩ (fun hHeld => ?_); clear hK K; refine norm_ (a' := ?_) ?_ ?_; rotate_left
          ·show Act.put _ (some 74) _ = _
           simp only [Act.put, List.setIfInBounds_toArray, List.set_cons_zero, List.set_cons_succ, i64_w, i32_w]; rfl
          refine pu 7 75 (tb 27 255) HT_ ?_; refine pu 8 76 (tb 27 511) HT_ ?_; refine pz 9 77 (tb 27 1023) HT_ ?_; refine pz 10 78 (tb 27 2047) HT_ ?_; refine pz 11 79 (tb 27 4095) HT_ ?_; refine pz 12 80 (tb 27 8191) HT_ ?_; refine pz 13 81 (tb 27 16383) HT_ ?_; refine pz 14 82 (tb 27 32767) HT_ ?_; refine pu 15 83 (tb 27 65535) HT_ ?_; refine pu 16 84 (tb 27 131071) HT_ ?_; refine pz 17 85 (tb 27 262143) HT_ ?_; refine pz 18 86 (tb 27 524287) HT_ ?_; refine pz 19 87 (tb 27 1048575) HT_ ?_; refine pu 20 88 (tb 27 2097151) HT_ ?_; refine pu 21 89 (tb 27 4194303) HT_ ?_; refine pz 22 90 (tb 27 8388607) HT_ ?_; refine pz 23 91 (tb 27 16777215) HT_ ?_; refine pz 24 92 (tb 27 33554431) HT_ ?_; refine pu 25 93 (tb 27 67108863) HT_ ?_; refine pu 26 2 (tb 27 134217727) HT_ ?_; refine done_ (done_of HT_.out (by kernel_rfl)) ?_
          try go_wp2
          go_ret; exact ⟨by first | rfl | (simp [*, errW_none, errW_some] <;> rfl), bx⟩
        ·replace c37 := Bool.eq_false_iff.mpr c37
         subst c37; rw [if_neg (show ¬ (false = true) by decide)] at H; obtain rfl := Option.some.inj H
         try go_wp2
         replace BK135 := am (blk_drew BK135.out); replace HB := am (below_drew1 HB.out); refine start_ (n := 27) (S := fun w' => w'.cell? ⟨gb135, 0, none⟩ = some (.int .i64 a0_0) ∧ w'.cell? ⟨gb135, 1, none⟩ = some (.int .i64 a0_1) ∧ w'.cell? ⟨gb135, 2, none⟩ = some (.int .i64 a0_2) ∧ w'.cell? ⟨gb135, 3, none⟩ = some (.int .i64 a0_3) ∧ w'.cell? ⟨gb135, 4, none⟩ = some (.int .i64 a0_4) ∧ w'.cell? ⟨gb135, 5, none⟩ = some (.int .i64 a0_5) ∧ w'.cell? ⟨gb135, 6, none⟩ = some (.int .i64 a0_6) ∧ w'.cell? ⟨gb135, 7, none⟩ = some (.int .i64 a0_7) ∧ w'.cell? ⟨gb135, 8, none⟩ = some (.int .i64 a0_8) ∧ w'.cell? ⟨gb135, 9, none⟩ = some (.int .i64 a0_9) ∧ w'.cell? ⟨gb135, 10, none⟩ = some (.int .i64 a0_10) ∧ w'.cell? ⟨gb135, 11, none⟩ = some (.slice A0_11 l0_11.length c0_11)) (ds := []) (tb 27 0) (by kernel_rfl) rfl rfl ⟨(blk_cell BK135.out 0).trans rfl, (blk_cell BK135.out 1).trans rfl, (blk_cell BK135.out 2).trans rfl, (blk_cell BK135.out 3).trans rfl, (blk_cell BK135.out 4).trans rfl, (blk_cell BK135.out 5).trans rfl, (blk_cell BK135.out 6).trans rfl, (blk_cell BK135.out 7).trans rfl, (blk_cell BK135.out 8).trans rfl, (blk_cell BK135.out 9).trans rfl, (blk_cell BK135.out 10).trans rfl, (blk_cell BK135.out 11).trans rfl⟩ (fun hHeld => ?_); refine with_tabW job_Good.tab8 job_Good.bits8 (fun HT_ HW_ => ?_)
         generalize wc.drew = w49 at BK135 HB hHeld ⊢; refine pu 0 68 (tb 27 1) HT_ ?_; refine tk 1 69 (tb 27 3) HT_ HW_ hHeld ?_; refine one_ (i := 2) (N := some 70) (tb 27 7) rfl rfl (one_of HT_.out (by kernel_rfl)) (by decide) (fun K hK => ?_); refine goes_ Try.func54 (by kernel_rfl) rfl #[.int .i64 a0_8, .int .i64 0, .int .i64 1099511627776] (by rfl) rfl rfl (by (try simp only [List.map_toArray, List.map_cons, List.map_nil]); first | done | rfl | (simp only [List.length_drop, List.length_take]; rfl)) ?_
         with_reducible refine (job_in.calls a0_8 0 1099511627776 false _ A36.out).mono ?_
         rintro e w' ⟨rfl, ⟨nd, rfl⟩⟩; refine ⟨_, rfl, ?_⟩; refine hK.out _ _ ⟨(blk_cell BK135.out 0).trans rfl, (blk_cell BK135.out 1).trans rfl, (blk_cell BK135.out 2).trans rfl, (blk_cell BK135.out 3).trans rfl, (blk_cell BK135.out 4).trans rfl, (blk_cell BK135.out 5).trans rfl, (blk_cell BK135.out 6).trans rfl, (blk_cell BK135.out 7).trans rfl, (blk_cell BK135.out 8).trans rfl, (blk_cell BK135.out 9).trans rfl, (blk_cell BK135.out 10).trans rfl, (blk_cell BK135.out 11).trans rfl⟩ (fun hHeld => ?_); clear hK K; refine norm_ (a' := ?_) ?_ ?_; rotate_left
         ·show Act.put _ (some 70) _ = _
          simp only [Act.put, List.setIfInBounds_toArray, List.set_cons_zero, List.set_cons_succ, i64_w, i32_w]; rfl
         refine pu 3 71 (tb 27 15) HT_ ?_; refine pz 4 72 (tb 27 31) HT_ ?_; refine pz 5 73 (tb 27 63) HT_ ?_; refine pz 6 74 (tb 27 127) HT_ ?_; refine pu 7 75 (tb 27 255) HT_ ?_; refine pu 8 76 (tb 27 511) HT_ ?_; refine pz 9 77 (tb 27 1023) HT_ ?_; refine pz 10 78 (tb 27 2047) HT_ ?_; refine pz 11 79 (tb 27 4095) HT_ ?_; refine pz 12 80 (tb 27 8191) HT_ ?_; refine pz 13 81 (tb 27 16383) HT_ ?_; refine pz 14 82 (tb 27 32767) HT_ ?_; refine pu 15 83 (tb 27 65535) HT_ ?_; refine pu 16 84 (tb 27 131071) HT_ ?_; refine pz 17 85 (tb 27 262143) HT_ ?_; refine pz 18 86 (tb 27 524287) HT_ ?_; refine pz 19 87 (tb 27 1048575) HT_ ?_; refine pu 20 88 (tb 27 2097151) HT_ ?_; refine pu 21 89 (tb 27 4194303) HT_ ?_; refine pz 22 90 (tb 27 8388607) HT_ ?_; refine pz 23 91 (tb 27 16777215) HT_ ?_; refine pz 24 92 (tb 27 33554431) HT_ ?_; refine pu 25 93 (tb 27 67108863) HT_ ?_; refine pu 26 2 (tb 27 134217727) HT_ ?_; refine done_ (done_of HT_.out (by kernel_rfl)) ?_
         try go_wp2
         go_ret; exact ⟨by first | rfl | (simp [*, errW_none, errW_some] <;> rfl), bx⟩
       ·rw [if_neg c35] at H
        have c35b0 := beq_eq_false_iff_ne.mpr c35; have c35b1 := bne_iff_ne.mpr c35
        by_cases c50 : a0_7 = 4
        ·rw [if_pos c50] at H
         have c50b0 := beq_iff_eq.mpr c50; have c50b1 := bne_eq_false_iff_eq.mpr c50; clear c50; replace H := Option.bind_eq_some_iff.mp H; obtain ⟨t146, A510, H⟩ := H; have A51 := am A510; clear A510
         by_cases c52 : t146 = true
         ·subst c52
          rw [if_pos rfl] at H
          by_cases c53 : a0_9 = 0
          ·rw [if_pos c53] at H
           have c53b0 := beq_iff_eq.mpr c53; have c53b1 := bne_eq_false_iff_eq.mpr c53; clear c53; replace H := Option.bind_eq_some_iff.mp H; obtain ⟨t147, A540, H⟩ := H; have A54 := am A540; clear A540
           by_cases c55 : t147 = true
           ·subst c55
            rw [if_pos rfl] at H; replace H := Option.bind_eq_some_iff.mp H; obtain ⟨t148, A560, H⟩ := H; have A56 := am A560; clear A560; obtain rfl := Option.some.inj H; obtain ⟨_, _, _, _, _, _, _, _, _, _, _, _⟩ := c12 BK135.out; go_wp2_with (first | (refine gl (some 98) Try.func54 #[.int .i64 a0_8, .int .i64 0, .int .i64 1099511627776] ?_; (with_reducible refine (job_in.calls a0_8 0 1099511627776 true _ A51.out).mono ?_); rintro e w' ⟨rfl, ⟨nd, rfl⟩⟩; refine ⟨_, rfl, ?_⟩) | (go_at_call 54; (with_reducible refine (job_in.calls a0_10 0 a0_3 true _ A54.out).mono ?_); rintro e w' ⟨rfl, ⟨nd, rfl⟩⟩; (try clear A54)) | (go_at_call 56; (with_reducible refine (job_draws.calls kj23 _ _ l0_11 t148 _ ?side1 ?side2 A56.out).mono ?_); (case side1 => repeat (first | exact (Kd.C_below HR0_11.out bx) | (with_reducible refine Kd.C_alloc ?_ _) | (with_reducible refine Kd.C_drewN ?_ _) | (with_reducible refine Kd.C_drew ?_))); (case side2 => exact HC0_11.out); rintro e w58 ⟨rfl, hb⟩; (try clear A56); replace BK135 := am (blk_below (kk BK135) hb); replace HB := am (below_step bx hb); (try clear hb); (try clear hb2); (try clear hk); (try clear hi)))
            go_ret; exact ⟨by first | rfl | (simp [*, errW_none, errW_some] <;> rfl), HB.out⟩
           ·replace c55 := Bool.eq_false_iff.mpr c55
            subst c55; rw [if_neg (show ¬ (false = true) by decide)] at H; obtain rfl := Option.some.inj H; obtain ⟨_, _, _, _, _, _, _, _, _, _, _, _⟩ := c12 BK135.out; go_wp2_with (first | (refine gl (some 98) Try.func54 #[.int .i64 a0_8, .int .i64 0, .int .i64 1099511627776] ?_; (with_reducible refine (job_in.calls a0_8 0 1099511627776 true _ A51.out).mono ?_); rintro e w' ⟨rfl, ⟨nd, rfl⟩⟩; refine ⟨_, rfl, ?_⟩) | (go_at_call 54; (with_reducible refine (job_in.calls a0_10 0 a0_3 false _ A54.out).mono ?_); rintro e w' ⟨rfl, ⟨nd, rfl⟩⟩; (try clear A54)))
            go_ret; exact ⟨by first | rfl | (simp [*, errW_none, errW_some] <;> rfl), bx⟩
          ·rw [if_neg c53] at H
           have c53b0 := beq_eq_false_iff_ne.mpr c53; have c53b1 := bne_iff_ne.mpr c53; obtain rfl := Option.some.inj H; obtain ⟨_, _, _, _, _, _, _, _, _, _, _, _⟩ := c12 BK135.out; go_wp2_with (first | (refine gl (some 98) Try.func54 #[.int .i64 a0_8, .int .i64 0, .int .i64 1099511627776] ?_; (with_reducible refine (job_in.calls a0_8 0 1099511627776 true _ A51.out).mono ?_); rintro e w' ⟨rfl, ⟨nd, rfl⟩⟩; refine ⟨_, rfl, ?_⟩))
           go_ret; exact ⟨by first | rfl | (simp [*, errW_none, errW_some] <;> rfl), bx⟩
         ·replace c52 := Bool.eq_false_iff.mpr c52
          subst c52; rw [if_neg (show ¬ (false = true) by decide)] at H; obtain rfl := Option.some.inj H; obtain ⟨_, _, _, _, _, _, _, _, _, _, _, _⟩ := c12 BK135.out; go_wp2_with (first | (refine gl (some 98) Try.func54 #[.int .i64 a0_8, .int .i64 0, .int .i64 1099511627776] ?_; (with_reducible refine (job_in.calls a0_8 0 1099511627776 false _ A51.out).mono ?_); rintro e w' ⟨rfl, ⟨nd, rfl⟩⟩; refine ⟨_, rfl, ?_⟩))
          go_ret; exact ⟨by first | rfl | (simp [*, errW_none, errW_some] <;> rfl), bx⟩
        ·rw [if_neg c50] at H
         have c50b0 := beq_eq_false_iff_ne.mpr c50; have c50b1 := bne_iff_ne.mpr c50; obtain rfl := Option.some.inj H; go_wp2; go_ret; exact ⟨by first | rfl | (simp [*, errW_none, errW_some] <;> rfl), HB.out⟩

end Go.Proofs.Ytijeigiilgapdaa.QSoundTells
