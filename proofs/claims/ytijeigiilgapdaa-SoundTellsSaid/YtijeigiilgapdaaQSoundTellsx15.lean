/- Written by a program of this session (wip/tools/mp.sh): functions as Lean functions, with proofs that the calls come to what they say. Lean checks it. -/
import Derived.Test.YtijeigiilgapdaaQSoundTellsx0
import Derived.Test.YtijeigiilgapdaaXWd
import Derived.Test.YtijeigiilgapdaaQSoundTellsx14
namespace Go.Proofs.Ytijeigiilgapdaa.QSoundTells
open Go.RowKit Go.Proofs.YtijeigiilgapdaaW.PrintWords Go.Proofs.YtijeigiilgapdaaW.PrintLast Go.Proofs.YtijeigiilgapdaaW.PrintMore
attribute [local go_sem] max2_int min2_int max_two min_two max_three min_three max_four min_four   -- for this text's walks alone
set_option linter.unusedVariables false
set_option linter.unusedSimpArgs false

/-! ### prebendref19_Good: function 48 -/
mutual
def prebendref19_Good.j0 : Nat → Bool → Int → Int → Int → Int → Int → Int → Int → Int → Int → Int → Int → List (S60) → Option (Bool)
 | 0, _, _, _, _, _, _, _, _, _, _, _, _, _ => none
 | k + 1, x65, x307000, x307001, x307002, x307003, x307004, x307005, x307006, x307007, x307008, x307009, x307010, x307011 => if x65 = true then (some false) else (if x307007 = 1 then (prebendref19_Good.j1 k true x307000 x307001 x307002 x307003 x307004 x307005 x307006 x307007 x307008 x307009 x307010 x307011) else (prebendref19_Good.j1 k (x307007 == 2) x307000 x307001 x307002 x307003 x307004 x307005 x307006 x307007 x307008 x307009 x307010 x307011))
def prebendref19_Good.j1 : Nat → Bool → Int → Int → Int → Int → Int → Int → Int → Int → Int → Int → Int → List (S60) → Option (Bool)
 | 0, _, _, _, _, _, _, _, _, _, _, _, _, _ => none
 | k + 1, x73, x307000, x307001, x307002, x307003, x307004, x307005, x307006, x307007, x307008, x307009, x307010, x307011 => if x73 = true then (if x307008 = 0 then (if x307009 = 0 then (if x307010 = 0 then (some ((x307011.length : Int) == 0)) else (some false)) else (some false)) else (some false)) else (if x307008 < 0 then (prebendref19_Good.j2 k true x307000 x307001 x307002 x307003 x307004 x307005 x307006 x307007 x307008 x307009 x307010 x307011) else (if x307008 > 1099511627776 then (prebendref19_Good.j2 k true x307000 x307001 x307002 x307003 x307004 x307005 x307006 x307007 x307008 x307009 x307010 x307011) else ((prebendref19_draws.f k x307011).bind fun t307 => (prebendref19_Good.j2 k (!t307) x307000 x307001 x307002 x307003 x307004 x307005 x307006 x307007 x307008 x307009 x307010 x307011))))
def prebendref19_Good.j2 : Nat → Bool → Int → Int → Int → Int → Int → Int → Int → Int → Int → Int → Int → List (S60) → Option (Bool)
 | 0, _, _, _, _, _, _, _, _, _, _, _, _, _ => none
 | k + 1, x106, x307000, x307001, x307002, x307003, x307004, x307005, x307006, x307007, x307008, x307009, x307010, x307011 => if x106 = true then (some false) else (if x307007 = 3 then (if x307009 ≥ 0 then (if x307009 < 4294967296 then ((prebendref14_Count.f k x307009).bind fun t308 => (if t308 = x307002 then (some (x307010 == 0)) else (some false))) else (some false)) else (some false)) else (if x307007 = 4 then (if x307009 = 0 then (if x307010 ≥ 0 then (some (decide (x307010 ≤ x307003))) else (some false)) else (some false)) else (some false)))
end
def prebendref19_Good.f (k : Nat) (a0_0 : Int) (a0_1 : Int) (a0_2 : Int) (a0_3 : Int) (a0_4 : Int) (a0_5 : Int) (a0_6 : Int) (a0_7 : Int) (a0_8 : Int) (a0_9 : Int) (a0_10 : Int) (l0_11 : List (S60)) : Option (Bool) := if a0_0 < 1 then (prebendref19_Good.j0 k true a0_0 a0_1 a0_2 a0_3 a0_4 a0_5 a0_6 a0_7 a0_8 a0_9 a0_10 l0_11) else (if a0_1 < 0 then (prebendref19_Good.j0 k true a0_0 a0_1 a0_2 a0_3 a0_4 a0_5 a0_6 a0_7 a0_8 a0_9 a0_10 l0_11) else (if a0_1 > 7 then (prebendref19_Good.j0 k true a0_0 a0_1 a0_2 a0_3 a0_4 a0_5 a0_6 a0_7 a0_8 a0_9 a0_10 l0_11) else (if a0_2 < 1 then (prebendref19_Good.j0 k true a0_0 a0_1 a0_2 a0_3 a0_4 a0_5 a0_6 a0_7 a0_8 a0_9 a0_10 l0_11) else (if a0_2 > 32 then (prebendref19_Good.j0 k true a0_0 a0_1 a0_2 a0_3 a0_4 a0_5 a0_6 a0_7 a0_8 a0_9 a0_10 l0_11) else (if a0_3 < 1 then (prebendref19_Good.j0 k true a0_0 a0_1 a0_2 a0_3 a0_4 a0_5 a0_6 a0_7 a0_8 a0_9 a0_10 l0_11) else (if a0_3 > 1048576 then (prebendref19_Good.j0 k true a0_0 a0_1 a0_2 a0_3 a0_4 a0_5 a0_6 a0_7 a0_8 a0_9 a0_10 l0_11) else (if a0_4 < 0 then (prebendref19_Good.j0 k true a0_0 a0_1 a0_2 a0_3 a0_4 a0_5 a0_6 a0_7 a0_8 a0_9 a0_10 l0_11) else (if a0_4 > 7 then (prebendref19_Good.j0 k true a0_0 a0_1 a0_2 a0_3 a0_4 a0_5 a0_6 a0_7 a0_8 a0_9 a0_10 l0_11) else (if a0_5 < 0 then (prebendref19_Good.j0 k true a0_0 a0_1 a0_2 a0_3 a0_4 a0_5 a0_6 a0_7 a0_8 a0_9 a0_10 l0_11) else (if a0_5 > 1048576 then (prebendref19_Good.j0 k true a0_0 a0_1 a0_2 a0_3 a0_4 a0_5 a0_6 a0_7 a0_8 a0_9 a0_10 l0_11) else (if a0_6 < 0 then (prebendref19_Good.j0 k true a0_0 a0_1 a0_2 a0_3 a0_4 a0_5 a0_6 a0_7 a0_8 a0_9 a0_10 l0_11) else (prebendref19_Good.j0 k (decide (a0_6 > 1099511627776)) a0_0 a0_1 a0_2 a0_3 a0_4 a0_5 a0_6 a0_7 a0_8 a0_9 a0_10 l0_11))))))))))))
theorem prebendref19_Good.mono_l : ∀ k, (∀ y0 y1 y2 y3 y4 y5 y6 y7 y8 y9 y10 y11 y12, LeO (prebendref19_Good.j0 k y0 y1 y2 y3 y4 y5 y6 y7 y8 y9 y10 y11 y12) (prebendref19_Good.j0 (k + 1) y0 y1 y2 y3 y4 y5 y6 y7 y8 y9 y10 y11 y12)) ∧ (∀ y0 y1 y2 y3 y4 y5 y6 y7 y8 y9 y10 y11 y12, LeO (prebendref19_Good.j1 k y0 y1 y2 y3 y4 y5 y6 y7 y8 y9 y10 y11 y12) (prebendref19_Good.j1 (k + 1) y0 y1 y2 y3 y4 y5 y6 y7 y8 y9 y10 y11 y12)) ∧ (∀ y0 y1 y2 y3 y4 y5 y6 y7 y8 y9 y10 y11 y12, LeO (prebendref19_Good.j2 k y0 y1 y2 y3 y4 y5 y6 y7 y8 y9 y10 y11 y12) (prebendref19_Good.j2 (k + 1) y0 y1 y2 y3 y4 y5 y6 y7 y8 y9 y10 y11 y12))
 | 0 => ⟨fun _ _ _ _ _ _ _ _ _ _ _ _ _ r h => by simp [prebendref19_Good.j0] at h, fun _ _ _ _ _ _ _ _ _ _ _ _ _ r h => by simp [prebendref19_Good.j1] at h, fun _ _ _ _ _ _ _ _ _ _ _ _ _ r h => by simp [prebendref19_Good.j2] at h⟩
 | k + 1 => by
  obtain ⟨ih0, ih1, ih2⟩ := prebendref19_Good.mono_l k; refine ⟨?_, ?_, ?_⟩
  ·intro y0 y1 y2 y3 y4 y5 y6 y7 y8 y9 y10 y11 y12
   unfold prebendref19_Good.j0
   have ih9 := @prebendref14_Count.mono; have ih8 := @prebendref19_draws.mono; exact lo
  ·intro y0 y1 y2 y3 y4 y5 y6 y7 y8 y9 y10 y11 y12
   unfold prebendref19_Good.j1
   have ih9 := @prebendref14_Count.mono; have ih8 := @prebendref19_draws.mono; exact lo
  ·intro y0 y1 y2 y3 y4 y5 y6 y7 y8 y9 y10 y11 y12
   unfold prebendref19_Good.j2
   have ih9 := @prebendref14_Count.mono; have ih8 := @prebendref19_draws.mono; exact lo
theorem prebendref19_Good.mono : ∀ a0 a1 a2 a3 a4 a5 a6 a7 a8 a9 a10 a11 k, LeO (prebendref19_Good.f k a0 a1 a2 a3 a4 a5 a6 a7 a8 a9 a10 a11) (prebendref19_Good.f (k + 1) a0 a1 a2 a3 a4 a5 a6 a7 a8 a9 a10 a11) := by
 intro a0 a1 a2 a3 a4 a5 a6 a7 a8 a9 a10 a11 k; obtain ⟨ih0, ih1, ih2⟩ := prebendref19_Good.mono_l k; unfold prebendref19_Good.f
 have ih9 := @prebendref14_Count.mono; have ih8 := @prebendref19_draws.mono; exact lo
set_option maxHeartbeats 8000000 in
set_option maxRecDepth 100000 in
theorem prebendref19_Good.calls (k : Nat) (a0_0 : Int) (a0_1 : Int) (a0_2 : Int) (a0_3 : Int) (a0_4 : Int) (a0_5 : Int) (a0_6 : Int) (a0_7 : Int) (a0_8 : Int) (a0_9 : Int) (a0_10 : Int) (A0_11 : Option Addr) (c0_11 : Nat) (l0_11 : List (S60)) (r : Bool) (w : World) (hr0_11 : Kd.C k60 w A0_11 l0_11.length l0_11) (hc0_11 : l0_11.length ≤ c0_11) (h : prebendref19_Good.f k a0_0 a0_1 a0_2 a0_3 a0_4 a0_5 a0_6 a0_7 a0_8 a0_9 a0_10 l0_11 = some r) :
  Calls Try.prog 48 #[.agg #[.int .i64 a0_0, .int .i64 a0_1, .int .i64 a0_2, .int .i64 a0_3, .int .i64 a0_4, .int .i64 a0_5, .int .i64 a0_6, .int .i64 a0_7, .int .i64 a0_8, .int .i64 a0_9, .int .i64 a0_10, .slice A0_11 l0_11.length c0_11]] w fun e w' => e = .returned (.bool r) ∧ Below w.heap.size w w' := by
 have hu50 := Try.underlying50; have HR0_11 := am hr0_11; have HC0_11 := am hc0_11; clear hr0_11 hc0_11; have HB := am (Below.refl w.heap.size w); have H : (if a0_0 < 1 then (prebendref19_Good.j0 k true a0_0 a0_1 a0_2 a0_3 a0_4 a0_5 a0_6 a0_7 a0_8 a0_9 a0_10 l0_11) else (if a0_1 < 0 then (prebendref19_Good.j0 k true a0_0 a0_1 a0_2 a0_3 a0_4 a0_5 a0_6 a0_7 a0_8 a0_9 a0_10 l0_11) else (if a0_1 > 7 then (prebendref19_Good.j0 k true a0_0 a0_1 a0_2 a0_3 a0_4 a0_5 a0_6 a0_7 a0_8 a0_9 a0_10 l0_11) else (if a0_2 < 1 then (prebendref19_Good.j0 k true a0_0 a0_1 a0_2 a0_3 a0_4 a0_5 a0_6 a0_7 a0_8 a0_9 a0_10 l0_11) else (if a0_2 > 32 then (prebendref19_Good.j0 k true a0_0 a0_1 a0_2 a0_3 a0_4 a0_5 a0_6 a0_7 a0_8 a0_9 a0_10 l0_11) else (if a0_3 < 1 then (prebendref19_Good.j0 k true a0_0 a0_1 a0_2 a0_3 a0_4 a0_5 a0_6 a0_7 a0_8 a0_9 a0_10 l0_11) else (if a0_3 > 1048576 then (prebendref19_Good.j0 k true a0_0 a0_1 a0_2 a0_3 a0_4 a0_5 a0_6 a0_7 a0_8 a0_9 a0_10 l0_11) else (if a0_4 < 0 then (prebendref19_Good.j0 k true a0_0 a0_1 a0_2 a0_3 a0_4 a0_5 a0_6 a0_7 a0_8 a0_9 a0_10 l0_11) else (if a0_4 > 7 then (prebendref19_Good.j0 k true a0_0 a0_1 a0_2 a0_3 a0_4 a0_5 a0_6 a0_7 a0_8 a0_9 a0_10 l0_11) else (if a0_5 < 0 then (prebendref19_Good.j0 k true a0_0 a0_1 a0_2 a0_3 a0_4 a0_5 a0_6 a0_7 a0_8 a0_9 a0_10 l0_11) else (if a0_5 > 1048576 then (prebendref19_Good.j0 k true a0_0 a0_1 a0_2 a0_3 a0_4 a0_5 a0_6 a0_7 a0_8 a0_9 a0_10 l0_11) else (if a0_6 < 0 then (prebendref19_Good.j0 k true a0_0 a0_1 a0_2 a0_3 a0_4 a0_5 a0_6 a0_7 a0_8 a0_9 a0_10 l0_11) else (prebendref19_Good.j0 k (decide (a0_6 > 1099511627776)) a0_0 a0_1 a0_2 a0_3 a0_4 a0_5 a0_6 a0_7 a0_8 a0_9 a0_10 l0_11))))))))))))) = some r := h; clear h; have HC2 := am H; clear H
 go_enter Try.func48, Try.ntmps48
 go_upto_region 1 with (first | ((with_reducible refine gate_dst (N := 1) rfl ?_); (try (refine gate_guard (by rfl) ?_; dsimp only)); refine be (N := 1) (cs := #[.int .i64 a0_0, .int .i64 a0_1, .int .i64 a0_2, .int .i64 a0_3, .int .i64 a0_4, .int .i64 a0_5, .int .i64 a0_6, .int .i64 a0_7, .int .i64 a0_8, .int .i64 a0_9, .int .i64 a0_10, .slice A0_11 l0_11.length c0_11]) (t := 50) ?_; intro gb306 hg w3 hbox hb; have BK306 := am (hbox); have GW306 := am ((by rw [hg]; exact (below_size HB.out) : w.heap.size ≤ gb306)); have GE306 := am ((by rw [hg]; exact (below_size HB.out) : w.heap.size ≤ gb306)); replace HB := am (below_step HB.out hb); clear hb hbox hg))
 repeat (go_quiet (first | ((with_reducible refine gate_dst (N := 1) rfl ?_); (try (refine gate_guard (by rfl) ?_; dsimp only)); refine be (N := 1) (cs := #[.int .i64 a0_0, .int .i64 a0_1, .int .i64 a0_2, .int .i64 a0_3, .int .i64 a0_4, .int .i64 a0_5, .int .i64 a0_6, .int .i64 a0_7, .int .i64 a0_8, .int .i64 a0_9, .int .i64 a0_10, .slice A0_11 l0_11.length c0_11]) (t := 50) ?_; intro gb306 hg w3 hbox hb; have BK306 := am (hbox); have GW306 := am ((by rw [hg]; exact (below_size HB.out) : w.heap.size ≤ gb306)); have GE306 := am ((by rw [hg]; exact (below_size HB.out) : w.heap.size ≤ gb306)); replace HB := am (below_step HB.out hb); clear hb hbox hg)); go_upto_region 1 with (first | ((with_reducible refine gate_dst (N := 1) rfl ?_); (try (refine gate_guard (by rfl) ?_; dsimp only)); refine be (N := 1) (cs := #[.int .i64 a0_0, .int .i64 a0_1, .int .i64 a0_2, .int .i64 a0_3, .int .i64 a0_4, .int .i64 a0_5, .int .i64 a0_6, .int .i64 a0_7, .int .i64 a0_8, .int .i64 a0_9, .int .i64 a0_10, .slice A0_11 l0_11.length c0_11]) (t := 50) ?_; intro gb306 hg w3 hbox hb; have BK306 := am (hbox); have GW306 := am ((by rw [hg]; exact (below_size HB.out) : w.heap.size ≤ gb306)); have GE306 := am ((by rw [hg]; exact (below_size HB.out) : w.heap.size ≤ gb306)); replace HB := am (below_step HB.out hb); clear hb hbox hg)))
 (try simp only [Act.put, List.setIfInBounds_toArray, List.set_cons_zero, List.set_cons_succ])
 go_cut [65] (fun v65 wc => ∃ (kq : Nat) (x65_1 : Bool), v65 = .bool x65_1 ∧ Aside0 (prebendref19_Good.j0 kq x65_1 a0_0 a0_1 a0_2 a0_3 a0_4 a0_5 a0_6 a0_7 a0_8 a0_9 a0_10 l0_11 = some r) ∧ Aside0 (kq ≤ k) ∧ Aside0 (wc.heap[gb306]? = some (.cells #[.int .i64 a0_0, .int .i64 a0_1, .int .i64 a0_2, .int .i64 a0_3, .int .i64 a0_4, .int .i64 a0_5, .int .i64 a0_6, .int .i64 a0_7, .int .i64 a0_8, .int .i64 a0_9, .int .i64 a0_10, (.slice A0_11 l0_11.length c0_11)] 50 (0, 0))) ∧ Aside0 (Below w.heap.size w wc))
 case first =>
  have H := HC2.out; clear HC2
  by_cases c4 : a0_0 < 1
  ·rw [if_pos c4] at H
   have c4b0 := decide_eq_true c4; clear c4
   (first | rw [c4b0] | (simp only [i64_w, i32_w]; rw [c4b0]) | skip)
   have H' := am H; clear H; obtain ⟨_, _, _, _, _, _, _, _, _, _, _, _⟩ := c12 BK306.out; go_wp2
   repeat (go_quiet (fail); try go_wp2)
   go_meet
   case rel => exact ⟨_, (true), sx, H', ⟨by first | omega | exact Nat.le_refl _⟩, ⟨BK306.out⟩, ⟨HB.out⟩⟩
  ·rw [if_neg c4] at H
   have c4b0 := decide_eq_false c4; clear c4
   (first | rw [c4b0] | (simp only [i64_w, i32_w]; rw [c4b0]) | skip)
   by_cases c6 : a0_1 < 0
   ·rw [if_pos c6] at H
    have c6b0 := decide_eq_true c6; clear c6; have H' := am H; clear H; obtain ⟨_, _, _, _, _, _, _, _, _, _, _, _⟩ := c12 BK306.out; go_wp2
    repeat (go_quiet (fail); try go_wp2)
    go_meet
    case rel => exact ⟨_, (true), sx, H', ⟨by first | omega | exact Nat.le_refl _⟩, ⟨BK306.out⟩, ⟨HB.out⟩⟩
   ·rw [if_neg c6] at H
    have c6b0 := decide_eq_false c6; clear c6
    by_cases c8 : a0_1 > 7
    ·rw [if_pos c8] at H
     have c8b0 := decide_eq_true c8; clear c8; have H' := am H; clear H; obtain ⟨_, _, _, _, _, _, _, _, _, _, _, _⟩ := c12 BK306.out; go_wp2
     repeat (go_quiet (fail); try go_wp2)
     go_meet
     case rel => exact ⟨_, (true), sx, H', ⟨by first | omega | exact Nat.le_refl _⟩, ⟨BK306.out⟩, ⟨HB.out⟩⟩
    ·rw [if_neg c8] at H
     have c8b0 := decide_eq_false c8; clear c8
     by_cases c10 : a0_2 < 1
     ·rw [if_pos c10] at H
      have c10b0 := decide_eq_true c10; clear c10; have H' := am H; clear H; obtain ⟨_, _, _, _, _, _, _, _, _, _, _, _⟩ := c12 BK306.out; go_wp2
      repeat (go_quiet (fail); try go_wp2)
      go_meet
      case rel => exact ⟨_, (true), sx, H', ⟨by first | omega | exact Nat.le_refl _⟩, ⟨BK306.out⟩, ⟨HB.out⟩⟩
     ·rw [if_neg c10] at H
      have c10b0 := decide_eq_false c10; clear c10
      by_cases c12 : a0_2 > 32
      ·rw [if_pos c12] at H
       have c12b0 := decide_eq_true c12; clear c12; have H' := am H; clear H; obtain ⟨_, _, _, _, _, _, _, _, _, _, _, _⟩ := c12 BK306.out; go_wp2
       repeat (go_quiet (fail); try go_wp2)
       go_meet
       case rel => exact ⟨_, (true), sx, H', ⟨by first | omega | exact Nat.le_refl _⟩, ⟨BK306.out⟩, ⟨HB.out⟩⟩
      ·rw [if_neg c12] at H
       have c12b0 := decide_eq_false c12; clear c12
       by_cases c14 : a0_3 < 1
       ·rw [if_pos c14] at H
        have c14b0 := decide_eq_true c14; clear c14; have H' := am H; clear H; obtain ⟨_, _, _, _, _, _, _, _, _, _, _, _⟩ := c12 BK306.out; go_wp2
        repeat (go_quiet (fail); try go_wp2)
        go_meet
        case rel => exact ⟨_, (true), sx, H', ⟨by first | omega | exact Nat.le_refl _⟩, ⟨BK306.out⟩, ⟨HB.out⟩⟩
       ·rw [if_neg c14] at H
        have c14b0 := decide_eq_false c14; clear c14
        by_cases c16 : a0_3 > 1048576
        ·rw [if_pos c16] at H
         have c16b0 := decide_eq_true c16; clear c16; have H' := am H; clear H; obtain ⟨_, _, _, _, _, _, _, _, _, _, _, _⟩ := c12 BK306.out; go_wp2
         repeat (go_quiet (fail); try go_wp2)
         go_meet
         case rel => exact ⟨_, (true), sx, H', ⟨by first | omega | exact Nat.le_refl _⟩, ⟨BK306.out⟩, ⟨HB.out⟩⟩
        ·rw [if_neg c16] at H
         have c16b0 := decide_eq_false c16; clear c16
         by_cases c18 : a0_4 < 0
         ·rw [if_pos c18] at H
          have c18b0 := decide_eq_true c18; clear c18; have H' := am H; clear H; obtain ⟨_, _, _, _, _, _, _, _, _, _, _, _⟩ := c12 BK306.out; go_wp2
          repeat (go_quiet (fail); try go_wp2)
          go_meet
          case rel => exact ⟨_, (true), sx, H', ⟨by first | omega | exact Nat.le_refl _⟩, ⟨BK306.out⟩, ⟨HB.out⟩⟩
         ·rw [if_neg c18] at H
          have c18b0 := decide_eq_false c18; clear c18
          by_cases c20 : a0_4 > 7
          ·rw [if_pos c20] at H
           have c20b0 := decide_eq_true c20; clear c20; have H' := am H; clear H; obtain ⟨_, _, _, _, _, _, _, _, _, _, _, _⟩ := c12 BK306.out; go_wp2
           repeat (go_quiet (fail); try go_wp2)
           go_meet
           case rel => exact ⟨_, (true), sx, H', ⟨by first | omega | exact Nat.le_refl _⟩, ⟨BK306.out⟩, ⟨HB.out⟩⟩
          ·rw [if_neg c20] at H
           have c20b0 := decide_eq_false c20; clear c20
           by_cases c22 : a0_5 < 0
           ·rw [if_pos c22] at H
            have c22b0 := decide_eq_true c22; clear c22; have H' := am H; clear H; obtain ⟨_, _, _, _, _, _, _, _, _, _, _, _⟩ := c12 BK306.out; go_wp2
            repeat (go_quiet (fail); try go_wp2)
            go_meet
            case rel => exact ⟨_, (true), sx, H', ⟨by first | omega | exact Nat.le_refl _⟩, ⟨BK306.out⟩, ⟨HB.out⟩⟩
           ·rw [if_neg c22] at H
            have c22b0 := decide_eq_false c22; clear c22
            by_cases c24 : a0_5 > 1048576
            ·rw [if_pos c24] at H
             have c24b0 := decide_eq_true c24; clear c24; have H' := am H; clear H; obtain ⟨_, _, _, _, _, _, _, _, _, _, _, _⟩ := c12 BK306.out; go_wp2
             repeat (go_quiet (fail); try go_wp2)
             go_meet
             case rel => exact ⟨_, (true), sx, H', ⟨by first | omega | exact Nat.le_refl _⟩, ⟨BK306.out⟩, ⟨HB.out⟩⟩
            ·rw [if_neg c24] at H
             have c24b0 := decide_eq_false c24; clear c24
             by_cases c26 : a0_6 < 0
             ·rw [if_pos c26] at H
              have c26b0 := decide_eq_true c26; clear c26; have H' := am H; clear H; obtain ⟨_, _, _, _, _, _, _, _, _, _, _, _⟩ := c12 BK306.out; go_wp2
              repeat (go_quiet (fail); try go_wp2)
              go_meet
              case rel => exact ⟨_, (true), sx, H', ⟨by first | omega | exact Nat.le_refl _⟩, ⟨BK306.out⟩, ⟨HB.out⟩⟩
             ·rw [if_neg c26] at H
              have c26b0 := decide_eq_false c26; clear c26; have H' := am H; clear H; obtain ⟨_, _, _, _, _, _, _, _, _, _, _, _⟩ := c12 BK306.out; go_wp2
              repeat (go_quiet (fail); try go_wp2)
              go_meet
              case rel => exact ⟨_, (decide (a0_6 > 1099511627776)), sx, H', ⟨by first | omega | exact Nat.le_refl _⟩, ⟨BK306.out⟩, ⟨HB.out⟩⟩
 case rest =>
  clear HC2; obtain ⟨kq, x65_1, rfl, HA, HJ1, BK306, HB⟩ := hcut
  cases kq with
  | zero => exact absurd HA.out (by simp [prebendref19_Good.j0])
  | succ kj1 =>
   have H := HA.out; clear HA; simp only [prebendref19_Good.j0] at H
   by_cases c29 : x65_1 = true
   ·subst c29
    rw [if_pos rfl] at H; obtain rfl := Option.some.inj H; go_wp2
    repeat (go_quiet (fail); try go_wp2)
    go_ret; exact ⟨by first | rfl | (simp [*, errW_none, errW_some] <;> rfl), HB.out⟩
   ·replace c29 := Bool.eq_false_iff.mpr c29
    subst c29; rw [if_neg (show ¬ (false = true) by decide)] at H; have HC30 := am H; clear H
    go_upto_region 3 with (fail)
    repeat (go_quiet (fail); go_upto_region 3 with (fail))
    go_cut [73] (fun v73 wc => ∃ (kq : Nat) (x73_29 : Bool), v73 = .bool x73_29 ∧ Aside0 (prebendref19_Good.j1 kq x73_29 a0_0 a0_1 a0_2 a0_3 a0_4 a0_5 a0_6 a0_7 a0_8 a0_9 a0_10 l0_11 = some r) ∧ Aside0 (kq ≤ kj1) ∧ Aside0 (wc.heap[gb306]? = some (.cells #[.int .i64 a0_0, .int .i64 a0_1, .int .i64 a0_2, .int .i64 a0_3, .int .i64 a0_4, .int .i64 a0_5, .int .i64 a0_6, .int .i64 a0_7, .int .i64 a0_8, .int .i64 a0_9, .int .i64 a0_10, (.slice A0_11 l0_11.length c0_11)] 50 (0, 0))) ∧ Aside0 (Below w.heap.size w wc))
    case first =>
     have H := HC30.out; clear HC30
     by_cases c31 : a0_7 = 1
     ·rw [if_pos c31] at H
      have c31b0 := beq_iff_eq.mpr c31; have c31b1 := bne_eq_false_iff_eq.mpr c31; clear c31
      (first | rw [c31b0] | (simp only [i64_w, i32_w]; rw [c31b0]) | skip)
      have H' := am H; clear H; obtain ⟨_, _, _, _, _, _, _, _, _, _, _, _⟩ := c12 BK306.out; go_wp2
      repeat (go_quiet (fail); try go_wp2)
      go_meet
      case rel => exact ⟨_, (true), sx, H', ⟨by have := HJ1.out; first | omega | exact Nat.le_refl _⟩, ⟨BK306.out⟩, ⟨HB.out⟩⟩
     ·rw [if_neg c31] at H
      have c31b0 := beq_eq_false_iff_ne.mpr c31; have c31b1 := bne_iff_ne.mpr c31
      (first | rw [c31b0] | (simp only [i64_w, i32_w]; rw [c31b0]) | skip)
      have H' := am H; clear H; obtain ⟨_, _, _, _, _, _, _, _, _, _, _, _⟩ := c12 BK306.out; go_wp2
      repeat (go_quiet (fail); try go_wp2)
      go_meet
      case rel => exact ⟨_, ((a0_7 == 2)), sx, H', ⟨by have := HJ1.out; first | omega | exact Nat.le_refl _⟩, ⟨BK306.out⟩, ⟨HB.out⟩⟩
    case rest =>
     clear HC30
     try clear c29
     obtain ⟨kq, x73_29, rfl, HA, HJ29, BK306, HB⟩ := hcut
     cases kq with
     | zero => exact absurd HA.out (by simp [prebendref19_Good.j1])
     | succ kj29 =>
      have H := HA.out; clear HA; simp only [prebendref19_Good.j1] at H
      by_cases c34 : x73_29 = true
      ·subst c34
       rw [if_pos rfl] at H
       by_cases c35 : a0_8 = 0
       ·rw [if_pos c35] at H
        have c35b0 := beq_iff_eq.mpr c35; have c35b1 := bne_eq_false_iff_eq.mpr c35; clear c35
        by_cases c36 : a0_9 = 0
        ·rw [if_pos c36] at H
         have c36b0 := beq_iff_eq.mpr c36; have c36b1 := bne_eq_false_iff_eq.mpr c36; clear c36
         by_cases c37 : a0_10 = 0
         ·rw [if_pos c37] at H
          have c37b0 := beq_iff_eq.mpr c37; have c37b1 := bne_eq_false_iff_eq.mpr c37; clear c37; obtain rfl := Option.some.inj H; obtain ⟨_, _, _, _, _, _, _, _, _, _, _, _⟩ := c12 BK306.out; go_wp2
          repeat (go_quiet (fail); try go_wp2)
          go_ret; exact ⟨by first | rfl | (simp [*, errW_none, errW_some] <;> rfl), HB.out⟩
         ·rw [if_neg c37] at H
          have c37b0 := beq_eq_false_iff_ne.mpr c37; have c37b1 := bne_iff_ne.mpr c37; obtain rfl := Option.some.inj H; obtain ⟨_, _, _, _, _, _, _, _, _, _, _, _⟩ := c12 BK306.out; go_wp2
          repeat (go_quiet (fail); try go_wp2)
          go_ret; exact ⟨by first | rfl | (simp [*, errW_none, errW_some] <;> rfl), HB.out⟩
        ·rw [if_neg c36] at H
         have c36b0 := beq_eq_false_iff_ne.mpr c36; have c36b1 := bne_iff_ne.mpr c36; obtain rfl := Option.some.inj H; obtain ⟨_, _, _, _, _, _, _, _, _, _, _, _⟩ := c12 BK306.out; go_wp2
         repeat (go_quiet (fail); try go_wp2)
         go_ret; exact ⟨by first | rfl | (simp [*, errW_none, errW_some] <;> rfl), HB.out⟩
       ·rw [if_neg c35] at H
        have c35b0 := beq_eq_false_iff_ne.mpr c35; have c35b1 := bne_iff_ne.mpr c35; obtain rfl := Option.some.inj H; obtain ⟨_, _, _, _, _, _, _, _, _, _, _, _⟩ := c12 BK306.out; go_wp2
        repeat (go_quiet (fail); try go_wp2)
        go_ret; exact ⟨by first | rfl | (simp [*, errW_none, errW_some] <;> rfl), HB.out⟩
      ·replace c34 := Bool.eq_false_iff.mpr c34
       subst c34; rw [if_neg (show ¬ (false = true) by decide)] at H; have HC42 := am H; clear H
       go_upto_region 5 with (fail)
       repeat (go_quiet (fail); go_upto_region 5 with (fail))
       go_cut [106] (fun v106 wc => ∃ (kq : Nat) (x106_41 : Bool), v106 = .bool x106_41 ∧ Aside0 (prebendref19_Good.j2 kq x106_41 a0_0 a0_1 a0_2 a0_3 a0_4 a0_5 a0_6 a0_7 a0_8 a0_9 a0_10 l0_11 = some r) ∧ Aside0 (kq ≤ kj29) ∧ Aside0 (wc.heap[gb306]? = some (.cells #[.int .i64 a0_0, .int .i64 a0_1, .int .i64 a0_2, .int .i64 a0_3, .int .i64 a0_4, .int .i64 a0_5, .int .i64 a0_6, .int .i64 a0_7, .int .i64 a0_8, .int .i64 a0_9, .int .i64 a0_10, (.slice A0_11 l0_11.length c0_11)] 50 (0, 0))) ∧ Aside0 (Below w.heap.size w wc))
       case first =>
        have H := HC42.out; clear HC42
        by_cases c43 : a0_8 < 0
        ·rw [if_pos c43] at H
         have c43b0 := decide_eq_true c43; clear c43
         (first | rw [c43b0] | (simp only [i64_w, i32_w]; rw [c43b0]) | skip)
         have H' := am H; clear H; obtain ⟨_, _, _, _, _, _, _, _, _, _, _, _⟩ := c12 BK306.out; go_wp2
         repeat (go_quiet (fail); try go_wp2)
         go_meet
         case rel => exact ⟨_, (true), sx, H', ⟨by have := HJ1.out; have := HJ29.out; first | omega | exact Nat.le_refl _⟩, ⟨BK306.out⟩, ⟨HB.out⟩⟩
        ·rw [if_neg c43] at H
         have c43b0 := decide_eq_false c43; clear c43
         (first | rw [c43b0] | (simp only [i64_w, i32_w]; rw [c43b0]) | skip)
         by_cases c45 : a0_8 > 1099511627776
         ·rw [if_pos c45] at H
          have c45b0 := decide_eq_true c45; clear c45; have H' := am H; clear H; obtain ⟨_, _, _, _, _, _, _, _, _, _, _, _⟩ := c12 BK306.out; go_wp2
          repeat (go_quiet (fail); try go_wp2)
          go_meet
          case rel => exact ⟨_, (true), sx, H', ⟨by have := HJ1.out; have := HJ29.out; first | omega | exact Nat.le_refl _⟩, ⟨BK306.out⟩, ⟨HB.out⟩⟩
         ·rw [if_neg c45] at H
          have c45b0 := decide_eq_false c45; clear c45; replace H := Option.bind_eq_some_iff.mp H; obtain ⟨t307, A470, H⟩ := H; have A47 := am A470; clear A470; have H' := am H; clear H; obtain ⟨_, _, _, _, _, _, _, _, _, _, _, _⟩ := c12 BK306.out; go_wp2_with (first | (go_at_call 62; (with_reducible refine (prebendref19_draws.calls kj29 _ _ l0_11 t307 _ ?side1 ?side2 A47.out).mono ?_); (case side1 => repeat (first | exact (Kd.C_below HR0_11.out HB.out) | (with_reducible refine Kd.C_alloc ?_ _) | (with_reducible refine Kd.C_drewN ?_ _) | (with_reducible refine Kd.C_drew ?_))); (case side2 => exact HC0_11.out); rintro e w49 ⟨rfl, hb⟩; (try clear A47); replace BK306 := am (blk_below BK306.out hb); replace HB := am (below_step HB.out hb); (try clear hb); (try clear hb2); (try clear hk); (try clear hi)))
          repeat (go_quiet (first | (go_at_call 62; (with_reducible refine (prebendref19_draws.calls kj29 _ _ l0_11 t307 _ ?side1 ?side2 A47.out).mono ?_); (case side1 => repeat (first | exact (Kd.C_below HR0_11.out HB.out) | (with_reducible refine Kd.C_alloc ?_ _) | (with_reducible refine Kd.C_drewN ?_ _) | (with_reducible refine Kd.C_drew ?_))); (case side2 => exact HC0_11.out); rintro e w49 ⟨rfl, hb⟩; (try clear A47); replace BK306 := am (blk_below BK306.out hb); replace HB := am (below_step HB.out hb); (try clear hb); (try clear hb2); (try clear hk); (try clear hi))); try go_wp2_with (first | (go_at_call 62; (with_reducible refine (prebendref19_draws.calls kj29 _ _ l0_11 t307 _ ?side1 ?side2 A47.out).mono ?_); (case side1 => repeat (first | exact (Kd.C_below HR0_11.out HB.out) | (with_reducible refine Kd.C_alloc ?_ _) | (with_reducible refine Kd.C_drewN ?_ _) | (with_reducible refine Kd.C_drew ?_))); (case side2 => exact HC0_11.out); rintro e w49 ⟨rfl, hb⟩; (try clear A47); replace BK306 := am (blk_below BK306.out hb); replace HB := am (below_step HB.out hb); (try clear hb); (try clear hb2); (try clear hk); (try clear hi))))
          go_meet
          case rel => exact ⟨_, (!t307), sx, H', ⟨by have := HJ1.out; have := HJ29.out; first | omega | exact Nat.le_refl _⟩, ⟨BK306.out⟩, ⟨HB.out⟩⟩
       case rest =>
        clear HC42; (try clear c34); obtain ⟨kq, x106_41, rfl, HA, HJ41, BK306, HB⟩ := hcut
        cases kq with
        | zero => exact absurd HA.out (by simp [prebendref19_Good.j2])
        | succ kj41 =>
         have H := HA.out; clear HA; simp only [prebendref19_Good.j2] at H
         by_cases c50 : x106_41 = true
         ·subst c50
          rw [if_pos rfl] at H; obtain rfl := Option.some.inj H; go_wp2
          repeat (go_quiet (fail); try go_wp2)
          go_ret; exact ⟨by first | rfl | (simp [*, errW_none, errW_some] <;> rfl), HB.out⟩
         ·replace c50 := Bool.eq_false_iff.mpr c50
          subst c50; rw [if_neg (show ¬ (false = true) by decide)] at H
          by_cases c51 : a0_7 = 3
          ·rw [if_pos c51] at H
           have c51b0 := beq_iff_eq.mpr c51; have c51b1 := bne_eq_false_iff_eq.mpr c51; clear c51
           by_cases c52 : a0_9 ≥ 0
           ·rw [if_pos c52] at H
            have c52b0 := decide_eq_true c52; clear c52
            by_cases c53 : a0_9 < 4294967296
            ·rw [if_pos c53] at H
             have c53b0 := decide_eq_true c53; clear c53; replace H := Option.bind_eq_some_iff.mp H; obtain ⟨t308, A540, H⟩ := H; have A54 := am A540; clear A540
             by_cases c55 : t308 = a0_2
             ·rw [if_pos c55] at H
              have c55b0 := beq_iff_eq.mpr c55; have c55b1 := bne_eq_false_iff_eq.mpr c55; clear c55; obtain rfl := Option.some.inj H; obtain ⟨_, _, _, _, _, _, _, _, _, _, _, _⟩ := c12 BK306.out; go_wp2_with (first | (go_at_call 63; (with_reducible refine (prebendref14_Count.calls kj41 a0_9 t308 _ A54.out).mono ?_); rintro e w' ⟨rfl, ⟨nd, rfl⟩⟩; (try clear A54); (try first | exact ⟨rfl, _, World.drewN_drewN _ _ _⟩ | exact ⟨rfl, _, Eq.trans (World.drewN_drewN _ _ _) (congrArg (World.drewN _) (Nat.add_assoc _ _ _))⟩)))
              repeat (go_quiet (first | (go_at_call 63; (with_reducible refine (prebendref14_Count.calls kj41 a0_9 t308 _ A54.out).mono ?_); rintro e w' ⟨rfl, ⟨nd, rfl⟩⟩; (try clear A54); (try first | exact ⟨rfl, _, World.drewN_drewN _ _ _⟩ | exact ⟨rfl, _, Eq.trans (World.drewN_drewN _ _ _) (congrArg (World.drewN _) (Nat.add_assoc _ _ _))⟩))); try go_wp2_with (first | (go_at_call 63; (with_reducible refine (prebendref14_Count.calls kj41 a0_9 t308 _ A54.out).mono ?_); rintro e w' ⟨rfl, ⟨nd, rfl⟩⟩; (try clear A54); (try first | exact ⟨rfl, _, World.drewN_drewN _ _ _⟩ | exact ⟨rfl, _, Eq.trans (World.drewN_drewN _ _ _) (congrArg (World.drewN _) (Nat.add_assoc _ _ _))⟩))))
              go_ret; exact ⟨by first | rfl | (simp [*, errW_none, errW_some] <;> rfl), bx⟩
             ·rw [if_neg c55] at H
              have c55b0 := beq_eq_false_iff_ne.mpr c55; have c55b1 := bne_iff_ne.mpr c55; obtain rfl := Option.some.inj H; obtain ⟨_, _, _, _, _, _, _, _, _, _, _, _⟩ := c12 BK306.out; go_wp2_with (first | (go_at_call 63; (with_reducible refine (prebendref14_Count.calls kj41 a0_9 t308 _ A54.out).mono ?_); rintro e w' ⟨rfl, ⟨nd, rfl⟩⟩; (try clear A54); (try first | exact ⟨rfl, _, World.drewN_drewN _ _ _⟩ | exact ⟨rfl, _, Eq.trans (World.drewN_drewN _ _ _) (congrArg (World.drewN _) (Nat.add_assoc _ _ _))⟩)))
              repeat (go_quiet (first | (go_at_call 63; (with_reducible refine (prebendref14_Count.calls kj41 a0_9 t308 _ A54.out).mono ?_); rintro e w' ⟨rfl, ⟨nd, rfl⟩⟩; (try clear A54); (try first | exact ⟨rfl, _, World.drewN_drewN _ _ _⟩ | exact ⟨rfl, _, Eq.trans (World.drewN_drewN _ _ _) (congrArg (World.drewN _) (Nat.add_assoc _ _ _))⟩))); try go_wp2_with (first | (go_at_call 63; (with_reducible refine (prebendref14_Count.calls kj41 a0_9 t308 _ A54.out).mono ?_); rintro e w' ⟨rfl, ⟨nd, rfl⟩⟩; (try clear A54); (try first | exact ⟨rfl, _, World.drewN_drewN _ _ _⟩ | exact ⟨rfl, _, Eq.trans (World.drewN_drewN _ _ _) (congrArg (World.drewN _) (Nat.add_assoc _ _ _))⟩))))
              go_ret; exact ⟨by first | rfl | (simp [*, errW_none, errW_some] <;> rfl), bx⟩
            ·rw [if_neg c53] at H
             have c53b0 := decide_eq_false c53; clear c53; obtain rfl := Option.some.inj H; obtain ⟨_, _, _, _, _, _, _, _, _, _, _, _⟩ := c12 BK306.out; go_wp2
             repeat (go_quiet (fail); try go_wp2)
             go_ret; exact ⟨by first | rfl | (simp [*, errW_none, errW_some] <;> rfl), bx⟩
           ·rw [if_neg c52] at H
            have c52b0 := decide_eq_false c52; clear c52; obtain rfl := Option.some.inj H; obtain ⟨_, _, _, _, _, _, _, _, _, _, _, _⟩ := c12 BK306.out; go_wp2
            repeat (go_quiet (fail); try go_wp2)
            go_ret; exact ⟨by first | rfl | (simp [*, errW_none, errW_some] <;> rfl), bx⟩
          ·rw [if_neg c51] at H
           have c51b0 := beq_eq_false_iff_ne.mpr c51; have c51b1 := bne_iff_ne.mpr c51
           by_cases c60 : a0_7 = 4
           ·rw [if_pos c60] at H
            have c60b0 := beq_iff_eq.mpr c60; have c60b1 := bne_eq_false_iff_eq.mpr c60; clear c60
            by_cases c61 : a0_9 = 0
            ·rw [if_pos c61] at H
             have c61b0 := beq_iff_eq.mpr c61; have c61b1 := bne_eq_false_iff_eq.mpr c61; clear c61
             by_cases c62 : a0_10 ≥ 0
             ·rw [if_pos c62] at H
              have c62b0 := decide_eq_true c62; clear c62; obtain rfl := Option.some.inj H; obtain ⟨_, _, _, _, _, _, _, _, _, _, _, _⟩ := c12 BK306.out; go_wp2
              repeat (go_quiet (fail); try go_wp2)
              go_ret; exact ⟨by first | rfl | (simp [*, errW_none, errW_some] <;> rfl), HB.out⟩
             ·rw [if_neg c62] at H
              have c62b0 := decide_eq_false c62; clear c62; obtain rfl := Option.some.inj H; obtain ⟨_, _, _, _, _, _, _, _, _, _, _, _⟩ := c12 BK306.out; go_wp2
              repeat (go_quiet (fail); try go_wp2)
              go_ret; exact ⟨by first | rfl | (simp [*, errW_none, errW_some] <;> rfl), HB.out⟩
            ·rw [if_neg c61] at H
             have c61b0 := beq_eq_false_iff_ne.mpr c61; have c61b1 := bne_iff_ne.mpr c61; obtain rfl := Option.some.inj H; obtain ⟨_, _, _, _, _, _, _, _, _, _, _, _⟩ := c12 BK306.out; go_wp2
             repeat (go_quiet (fail); try go_wp2)
             go_ret; exact ⟨by first | rfl | (simp [*, errW_none, errW_some] <;> rfl), HB.out⟩
           ·rw [if_neg c60] at H
            have c60b0 := beq_eq_false_iff_ne.mpr c60; have c60b1 := bne_iff_ne.mpr c60; obtain rfl := Option.some.inj H; obtain ⟨_, _, _, _, _, _, _, _, _, _, _, _⟩ := c12 BK306.out; go_wp2
            repeat (go_quiet (fail); try go_wp2)
            go_ret; exact ⟨by first | rfl | (simp [*, errW_none, errW_some] <;> rfl), HB.out⟩

end Go.Proofs.Ytijeigiilgapdaa.QSoundTells
