/- Written by a program of this session (wip/tools/mp.sh): functions as Lean functions, with proofs that the calls come to what they say. Lean checks it. -/
import Derived.Test.YtijeigiilgapdaaQSoundTellsx0
import Derived.Test.YtijeigiilgapdaaXWd
import Derived.Test.YtijeigiilgapdaaQSoundTellsx10
import Derived.Test.YtijeigiilgapdaaXB20
namespace Go.Proofs.Ytijeigiilgapdaa.QSoundTells
open Go.RowKit Go.Proofs.YtijeigiilgapdaaW.PrintWords Go.Proofs.YtijeigiilgapdaaW.PrintLast Go.Proofs.YtijeigiilgapdaaW.PrintMore
attribute [local go_sem] max2_int min2_int max_two min_two max_three min_three max_four min_four   -- for this text's walks alone
set_option linter.unusedVariables false
set_option linter.unusedSimpArgs false

/-! ### prebendlaw25_SoundTells: function 3 -/
def prebendlaw25_SoundTells.j0 : Nat → Int → Bool → Int → Int → Int → List (S34) → List (S36) → List (S68) → List (S50) → List ByteArray → Option (Bool)
 | 0, _, _, _, _, _, _, _, _, _, _ => none
 | k + 1, x1, x20, x417000, x417001, x417002, x417003, x417004, x417005, x417006, x417007 => if x20 = true then ((prebendlaw25_awake.f k).bind fun t417 => (some t417)) else ((prebendlaw25_awake.f k).bind fun t418 => (if t418 = true then ((sound_Broken.f k x417000 x417001 x417002 x417003 x417004 x417005 x417006 x417007 x1).bind fun t419 => ((prebendref25_Broken.f k x417000 x417001 x417002 x417003 x417004 x417005 x417006 x417007 x1).bind fun t420 => (some (t419 == t420)))) else (some false)))
def prebendlaw25_SoundTells.f (k : Nat) (a0_0 : Int) (a0_1 : Int) (a0_2 : Int) (l0_3 : List (S34)) (l0_4 : List (S36)) (l0_5 : List (S68)) (l0_6 : List (S50)) (l0_7 : List ByteArray) (a1 : Int) : Option (Bool) := if (l0_4.length : Int) > 40 then (prebendlaw25_SoundTells.j0 k a1 true a0_0 a0_1 a0_2 l0_3 l0_4 l0_5 l0_6 l0_7) else (if (l0_6.length : Int) > 40 then (prebendlaw25_SoundTells.j0 k a1 true a0_0 a0_1 a0_2 l0_3 l0_4 l0_5 l0_6 l0_7) else (prebendlaw25_SoundTells.j0 k a1 (decide ((l0_3.length : Int) > 40)) a0_0 a0_1 a0_2 l0_3 l0_4 l0_5 l0_6 l0_7))
theorem prebendlaw25_SoundTells.mono_l : ∀ k, (∀ y0 y1 y2 y3 y4 y5 y6 y7 y8 y9, LeO (prebendlaw25_SoundTells.j0 k y0 y1 y2 y3 y4 y5 y6 y7 y8 y9) (prebendlaw25_SoundTells.j0 (k + 1) y0 y1 y2 y3 y4 y5 y6 y7 y8 y9))
 | 0 => fun _ _ _ _ _ _ _ _ _ _ r h => by simp [prebendlaw25_SoundTells.j0] at h
 | k + 1 => by
  have ih0 := prebendlaw25_SoundTells.mono_l k
  ·intro y0 y1 y2 y3 y4 y5 y6 y7 y8 y9
   unfold prebendlaw25_SoundTells.j0
   repeat' first
   | (with_reducible exact ih0 _ _ _ _ _ _ _ _ _ _)
   | (with_reducible exact prebendlaw25_awake.mono _)
   | (with_reducible exact prebendref25_Broken.mono _ _ _ _ _ _ _ _ _ _)
   | (with_reducible exact sound_Broken.mono _ _ _ _ _ _ _ _ _ _)
   | (with_reducible exact LeO.refl _)
   | (with_reducible exact LeO.none _)
   | (with_reducible refine LeO.ite ?_ ?_)
   | (with_reducible refine LeO.bind ?_ (fun _ => ?_))
   | exact ih0 _ _ _ _ _ _ _ _ _ _
   | exact prebendlaw25_awake.mono _
   | exact prebendref25_Broken.mono _ _ _ _ _ _ _ _ _ _
   | exact sound_Broken.mono _ _ _ _ _ _ _ _ _ _
   | exact LeO.none _
   | refine LeO.ite ?_ ?_
   | refine LeO.bind ?_ (fun _ => ?_)
theorem prebendlaw25_SoundTells.mono : ∀ a0 a1 a2 a3 a4 a5 a6 a7 a8 k, LeO (prebendlaw25_SoundTells.f k a0 a1 a2 a3 a4 a5 a6 a7 a8) (prebendlaw25_SoundTells.f (k + 1) a0 a1 a2 a3 a4 a5 a6 a7 a8) := by
 intro a0 a1 a2 a3 a4 a5 a6 a7 a8 k
 have ih0 := prebendlaw25_SoundTells.mono_l k
 unfold prebendlaw25_SoundTells.f
 repeat' first
   | (with_reducible exact ih0 _ _ _ _ _ _ _ _ _ _)
   | (with_reducible exact prebendlaw25_awake.mono _)
   | (with_reducible exact prebendref25_Broken.mono _ _ _ _ _ _ _ _ _ _)
   | (with_reducible exact sound_Broken.mono _ _ _ _ _ _ _ _ _ _)
   | (with_reducible exact LeO.refl _)
   | (with_reducible exact LeO.none _)
   | (with_reducible refine LeO.ite ?_ ?_)
   | (with_reducible refine LeO.bind ?_ (fun _ => ?_))
   | exact ih0 _ _ _ _ _ _ _ _ _ _
   | exact prebendlaw25_awake.mono _
   | exact prebendref25_Broken.mono _ _ _ _ _ _ _ _ _ _
   | exact sound_Broken.mono _ _ _ _ _ _ _ _ _ _
   | exact LeO.none _
   | refine LeO.ite ?_ ?_
   | refine LeO.bind ?_ (fun _ => ?_)
def prebendlaw25_SoundTells.T3 : Bool × List (List Nat × List Nat) := (true, [([], []), ([0, 0], [0]), ([1], [1]), ([1], [1]), ([2, 3, 1, 1], [1, 2, 3]), ([1], [1]), ([1], [1]), ([5, 6, 4, 1], [1, 5, 6]), ([4, 7, 1], [1, 4, 7]), ([1, 8], [1, 8]), ([9, 7, 0, 1, 2, 3, 4, 5, 6, 7, 8, 9], [9])])
def prebendlaw25_SoundTells.B3 : List Nat := [0, 1, 3, 3, 15, 3, 3, 127, 255, 511, 1023]
theorem prebendlaw25_SoundTells.tab3 : rtab .any (opsOf Try.f3 3) = prebendlaw25_SoundTells.T3 := by kernel_rfl
theorem prebendlaw25_SoundTells.bits3 : waitsOk prebendlaw25_SoundTells.T3.2 prebendlaw25_SoundTells.B3 = true := by kernel_rfl
set_option maxHeartbeats 8000000 in
set_option maxRecDepth 100000 in
theorem prebendlaw25_SoundTells.calls (k : Nat) (a0_0 : Int) (a0_1 : Int) (a0_2 : Int) (A0_3 : Option Addr) (c0_3 : Nat) (l0_3 : List (S34)) (A0_4 : Option Addr) (c0_4 : Nat) (l0_4 : List (S36)) (A0_5 : Option Addr) (c0_5 : Nat) (l0_5 : List (S68)) (A0_6 : Option Addr) (c0_6 : Nat) (l0_6 : List (S50)) (A0_7 : Option Addr) (c0_7 : Nat) (l0_7 : List ByteArray) (a1 : Int) (r : Bool) (w : World) (hr0_3 : Kd.C k34 w A0_3 l0_3.length l0_3) (hc0_3 : l0_3.length ≤ c0_3) (hr0_4 : Kd.C k36 w A0_4 l0_4.length l0_4) (hc0_4 : l0_4.length ≤ c0_4) (hr0_5 : Kd.C k68 w A0_5 l0_5.length l0_5) (hc0_5 : l0_5.length ≤ c0_5) (hr0_6 : Kd.C k50 w A0_6 l0_6.length l0_6) (hc0_6 : l0_6.length ≤ c0_6) (hr0_7 : Kd.C Kd.string w A0_7 l0_7.length l0_7) (hc0_7 : l0_7.length ≤ c0_7) (h : prebendlaw25_SoundTells.f k a0_0 a0_1 a0_2 l0_3 l0_4 l0_5 l0_6 l0_7 a1 = some r) :
  Calls Try.prog 3 #[.agg #[.int .i64 a0_0, .int .i64 a0_1, .int .i64 a0_2, .slice A0_3 l0_3.length c0_3, .slice A0_4 l0_4.length c0_4, .slice A0_5 l0_5.length c0_5, .slice A0_6 l0_6.length c0_6, .slice A0_7 l0_7.length c0_7], .int .i64 a1] w fun e w' => e = .returned (.bool r) ∧ Below w.heap.size w w' := by
 have hu28 := Try.underlying28
 have HR0_3 := Aside0.mk hr0_3
 have HC0_3 := Aside0.mk hc0_3
 clear hr0_3 hc0_3
 have HR0_4 := Aside0.mk hr0_4
 have HC0_4 := Aside0.mk hc0_4
 clear hr0_4 hc0_4
 have HR0_5 := Aside0.mk hr0_5
 have HC0_5 := Aside0.mk hc0_5
 clear hr0_5 hc0_5
 have HR0_6 := Aside0.mk hr0_6
 have HC0_6 := Aside0.mk hc0_6
 clear hr0_6 hc0_6
 have HR0_7 := Aside0.mk hr0_7
 have HC0_7 := Aside0.mk hc0_7
 clear hr0_7 hc0_7
 have HB := Aside0.mk (Below.refl w.heap.size w)
 have H : (if (l0_4.length : Int) > 40 then (prebendlaw25_SoundTells.j0 k a1 true a0_0 a0_1 a0_2 l0_3 l0_4 l0_5 l0_6 l0_7) else (if (l0_6.length : Int) > 40 then (prebendlaw25_SoundTells.j0 k a1 true a0_0 a0_1 a0_2 l0_3 l0_4 l0_5 l0_6 l0_7) else (prebendlaw25_SoundTells.j0 k a1 (decide ((l0_3.length : Int) > 40)) a0_0 a0_1 a0_2 l0_3 l0_4 l0_5 l0_6 l0_7))) = some r := h
 clear h
 have HC3 := Aside0.mk H
 clear H
 go_enter Try.func3, Try.ntmps3
 go_upto_region 1 with (first | ((with_reducible refine gate_dst (N := 2) rfl ?_); (try (refine gate_guard (by rfl) ?_; dsimp only)); refine box_event ?hg (N := 2) ?hd (cs := #[.int .i64 a0_0, .int .i64 a0_1, .int .i64 a0_2, .slice A0_3 l0_3.length c0_3, .slice A0_4 l0_4.length c0_4, .slice A0_5 l0_5.length c0_5, .slice A0_6 l0_6.length c0_6, .slice A0_7 l0_7.length c0_7]) (t := 28) ?hr ?_; (case hd => rfl); (case hg => rfl); (case hr => first | (go_simp; done) | (go_simp; rfl)); intro gb416 hg w4 hbox hb; have n0_ := Aside0.mk (below_step (by repeat (first | (with_reducible first | exact HB.out | apply ba | apply bn | apply bd) | exact HB.out)) hb); have n1_ := Aside0.mk (hbox); have n2_ := Aside0.mk ((by rw [hg]; exact (below_size (by repeat (first | (with_reducible first | exact HB.out | apply ba | apply bn | apply bd) | exact HB.out))) : w.heap.size ≤ gb416)); have n3_ := Aside0.mk ((by rw [hg]; exact (below_size (by repeat (first | (with_reducible first | exact HB.out | apply ba | apply bn | apply bd) | exact HB.out))) : w.heap.size ≤ gb416)); clear HB; have HB := n0_; have BK416 := n1_; have GW416 := n2_; have GE416 := n3_; clear n0_ n1_ n2_ n3_; clear hb hbox hg))
 (try simp only [Act.put, List.setIfInBounds_toArray, List.set_cons_zero, List.set_cons_succ])
 go_cut [20] (fun v20 wc => ∃ (kq : Nat) (x20_2 : Bool), v20 = .bool x20_2 ∧ Aside0 (prebendlaw25_SoundTells.j0 kq a1 x20_2 a0_0 a0_1 a0_2 l0_3 l0_4 l0_5 l0_6 l0_7 = some r) ∧ Aside0 (kq ≤ k) ∧ Aside0 (wc.heap[gb416]? = some (.cells #[.int .i64 a0_0, .int .i64 a0_1, .int .i64 a0_2, (.slice A0_3 l0_3.length c0_3), (.slice A0_4 l0_4.length c0_4), (.slice A0_5 l0_5.length c0_5), (.slice A0_6 l0_6.length c0_6), (.slice A0_7 l0_7.length c0_7)] 28 (0, 0))) ∧ Aside0 (Below w.heap.size w wc))
 case first =>
  have H := HC3.out
  clear HC3
  by_cases c5 : (l0_4.length : Int) > 40
  ·rw [if_pos c5] at H
   have c5b0 : decide (40 < (l0_4.length : Int)) = true := decide_eq_true c5
   have c5b1 : decide (40 < l0_4.length) = true := decide_eq_true (by omega)
   clear c5
   (first | rw [c5b0] | (simp only [i64_w, i32_w]; rw [c5b0]) | skip)
   have H' := Aside0.mk H
   clear H
   obtain ⟨hcz6_0, hcz6_1, hcz6_2, hcz6_3, hcz6_4, hcz6_5, hcz6_6, hcz6_7⟩ := c8 BK416.out
   go_wp2
   go_meet
   case rel => exact ⟨_, (true), (by first | rfl | (simp; done) | (simp [*]; done)), H', ⟨by first | omega | exact Nat.le_refl _⟩, ⟨by (with_reducible repeat first | apply kn | apply kd | apply ka); exact BK416.out⟩, ⟨by repeat (first | (with_reducible first | exact HB.out | apply ba | apply bn | apply bd | apply bs _ GE416.out) | exact HB.out)⟩⟩
  ·rw [if_neg c5] at H
   have c5b0 : decide (40 < (l0_4.length : Int)) = false := decide_eq_false c5
   have c5b1 : decide (40 < l0_4.length) = false := decide_eq_false (by omega)
   clear c5
   (first | rw [c5b0] | (simp only [i64_w, i32_w]; rw [c5b0]) | skip)
   by_cases c7 : (l0_6.length : Int) > 40
   ·rw [if_pos c7] at H
    have c7b0 : decide (40 < (l0_6.length : Int)) = true := decide_eq_true c7
    have c7b1 : decide (40 < l0_6.length) = true := decide_eq_true (by omega)
    clear c7
    have H' := Aside0.mk H
    clear H
    obtain ⟨hcz8_0, hcz8_1, hcz8_2, hcz8_3, hcz8_4, hcz8_5, hcz8_6, hcz8_7⟩ := c8 BK416.out
    go_wp2
    go_meet
    case rel => exact ⟨_, (true), (by first | rfl | (simp; done) | (simp [*]; done)), H', ⟨by first | omega | exact Nat.le_refl _⟩, ⟨by (with_reducible repeat first | apply kn | apply kd | apply ka); exact BK416.out⟩, ⟨by repeat (first | (with_reducible first | exact HB.out | apply ba | apply bn | apply bd | apply bs _ GE416.out) | exact HB.out)⟩⟩
   ·rw [if_neg c7] at H
    have c7b0 : decide (40 < (l0_6.length : Int)) = false := decide_eq_false c7
    have c7b1 : decide (40 < l0_6.length) = false := decide_eq_false (by omega)
    clear c7
    have H' := Aside0.mk H
    clear H
    obtain ⟨hcz9_0, hcz9_1, hcz9_2, hcz9_3, hcz9_4, hcz9_5, hcz9_6, hcz9_7⟩ := c8 BK416.out
    go_wp2
    go_meet
    case rel => exact ⟨_, (decide ((l0_3.length : Int) > 40)), (by first | rfl | (simp; done) | (simp [*]; done)), H', ⟨by first | omega | exact Nat.le_refl _⟩, ⟨by (with_reducible repeat first | apply kn | apply kd | apply ka); exact BK416.out⟩, ⟨by repeat (first | (with_reducible first | exact HB.out | apply ba | apply bn | apply bd | apply bs _ GE416.out) | exact HB.out)⟩⟩
 case rest =>
  clear HC3
  obtain ⟨kq, x20_2, rfl, HA, HJ2, BK416, HB⟩ := hcut
  cases kq with
  | zero => exact absurd HA.out (by simp [prebendlaw25_SoundTells.j0])
  | succ kj2 =>
   have H := HA.out
   clear HA
   simp only [prebendlaw25_SoundTells.j0] at H
   by_cases c10 : x20_2 = true
   ·subst c10
    rw [if_pos rfl] at H
    replace H := Option.bind_eq_some_iff.mp H
    obtain ⟨t417, A110, H⟩ := H
    have A11 := Aside0.mk A110
    clear A110
    obtain rfl := Option.some.inj H
    go_wp2_with (first | ((with_reducible refine gate_callee (f := 4) rfl ?_); refine goesL_ (some 21) rfl rfl Try.func4 (by kernel_rfl) rfl #[] rfl (by (try simp only [List.map_toArray, List.map_cons, List.map_nil]); first | done | rfl | (simp only [List.length_drop, List.length_take]; rfl)) ?_; (with_reducible refine (prebendlaw25_awake.calls kj2  t417 _ A11.out).mono ?_); rintro e w12 ⟨rfl, hb⟩; refine ⟨_, rfl, ?_⟩; have n0_ := Aside0.mk (blk_below (by (with_reducible repeat first | apply kn | apply kd | apply ka); exact BK416.out) hb); have n1_ := Aside0.mk (below_step (by repeat (first | (with_reducible first | exact HB.out | apply ba | apply bn | apply bd | apply bs _ GE416.out) | exact HB.out)) hb); clear BK416; clear HB; have BK416 := n0_; have HB := n1_; clear n0_ n1_; (try clear hb); (try clear hb2); (try clear hk); (try clear hi)))
    go_ret
    exact ⟨by first | rfl | (simp [*, errW_none, errW_some] <;> rfl), by repeat (first | (with_reducible first | exact HB.out | apply ba | apply bn | apply bd | apply bs _ GE416.out) | exact HB.out)⟩
   ·replace c10 := Bool.eq_false_iff.mpr c10
    subst c10
    rw [if_neg (show ¬ (false = true) by decide)] at H
    replace H := Option.bind_eq_some_iff.mp H
    obtain ⟨t418, A130, H⟩ := H
    have A13 := Aside0.mk A130
    clear A130
    by_cases c14 : t418 = true
    ·subst c14
     rw [if_pos rfl] at H
     replace H := Option.bind_eq_some_iff.mp H
     obtain ⟨t419, A150, H⟩ := H
     have A15 := Aside0.mk A150
     clear A150
     replace H := Option.bind_eq_some_iff.mp H
     obtain ⟨t420, A160, H⟩ := H
     have A16 := Aside0.mk A160
     clear A160
     obtain rfl := Option.some.inj H
     try go_wp2
     have n0_ := Aside0.mk (blk_drew BK416.out)
     have n1_ := Aside0.mk (below_drew1 HB.out)
     clear BK416
     clear HB
     have BK416 := n0_
     have HB := n1_
     clear n0_ n1_
     refine start_ (n := 11) (S := fun w' => w'.cell? ⟨gb416, 0, none⟩ = some (.int .i64 a0_0) ∧ w'.cell? ⟨gb416, 1, none⟩ = some (.int .i64 a0_1) ∧ w'.cell? ⟨gb416, 2, none⟩ = some (.int .i64 a0_2) ∧ w'.cell? ⟨gb416, 3, none⟩ = some (.slice A0_3 l0_3.length c0_3) ∧ w'.cell? ⟨gb416, 4, none⟩ = some (.slice A0_4 l0_4.length c0_4) ∧ w'.cell? ⟨gb416, 5, none⟩ = some (.slice A0_5 l0_5.length c0_5) ∧ w'.cell? ⟨gb416, 6, none⟩ = some (.slice A0_6 l0_6.length c0_6) ∧ w'.cell? ⟨gb416, 7, none⟩ = some (.slice A0_7 l0_7.length c0_7)) (ds := []) (tb 11 0) (by kernel_rfl) rfl rfl ⟨(blk_cell BK416.out 0).trans rfl, (blk_cell BK416.out 1).trans rfl, (blk_cell BK416.out 2).trans rfl, (blk_cell BK416.out 3).trans rfl, (blk_cell BK416.out 4).trans rfl, (blk_cell BK416.out 5).trans rfl, (blk_cell BK416.out 6).trans rfl, (blk_cell BK416.out 7).trans rfl⟩ (fun hHeld => ?_); refine with_tabW prebendlaw25_SoundTells.tab3 prebendlaw25_SoundTells.bits3 (fun HT_ HW_ => ?_)
     generalize wc.drew = w17 at BK416 HB hHeld ⊢
     refine one_ (i := 0) (N := some 22) (tb 11 1) rfl rfl (one_of HT_.out (by kernel_rfl)) (by decide) (fun K hK => ?_)
     refine goes_ Try.func4 (by kernel_rfl) rfl #[] (by rfl) rfl rfl (by (try simp only [List.map_toArray, List.map_cons, List.map_nil]); first | done | rfl | (simp only [List.length_drop, List.length_take]; rfl)) ?_
     with_reducible refine (prebendlaw25_awake.calls kj2  true _ A13.out).mono ?_
     rintro e w18 ⟨rfl, hb⟩
     refine ⟨_, rfl, ?_⟩
     have n0_ := Aside0.mk (blk_below (by (with_reducible repeat first | apply kn | apply kd | apply ka); exact BK416.out) hb)
     have n1_ := Aside0.mk (below_step (by repeat (first | (with_reducible first | exact HB.out | apply ba | apply bn | apply bd | apply bs _ GE416.out) | exact HB.out)) hb)
     clear BK416
     clear HB
     have BK416 := n0_
     have HB := n1_
     clear n0_ n1_
     (try clear hb)
     (try clear hb2)
     (try clear hk)
     (try clear hi)
     refine hK.out _ _ ⟨(blk_cell BK416.out 0).trans rfl, (blk_cell BK416.out 1).trans rfl, (blk_cell BK416.out 2).trans rfl, (blk_cell BK416.out 3).trans rfl, (blk_cell BK416.out 4).trans rfl, (blk_cell BK416.out 5).trans rfl, (blk_cell BK416.out 6).trans rfl, (blk_cell BK416.out 7).trans rfl⟩ (fun hHeld => ?_)
     clear hK K
     refine norm_ (a' := ?_) ?_ ?_
     rotate_left
     ·show Act.put _ (some 22) _ = _
      simp only [Act.put, List.setIfInBounds_toArray, List.set_cons_zero, List.set_cons_succ, i64_w, i32_w]
      rfl
     refine pu 1 23 (tb 11 3) HT_ ?_
     refine pu 3 25 (tb 11 11) HT_ ?_
     refine pu 6 28 (tb 11 75) HT_ ?_
     refine tk 2 24 (tb 11 79) HT_ HW_ hHeld ?_
     refine tk 5 27 (tb 11 111) HT_ HW_ hHeld ?_
     refine one_ (i := 4) (N := some 26) (tb 11 127) rfl rfl (one_of HT_.out (by kernel_rfl)) (by decide) (fun K hK => ?_)
     refine goes_ Try.func5 (by kernel_rfl) rfl #[.agg #[.int .i64 a0_0, .int .i64 a0_1, .int .i64 a0_2, .slice A0_3 l0_3.length c0_3, .slice A0_4 l0_4.length c0_4, .slice A0_5 l0_5.length c0_5, .slice A0_6 l0_6.length c0_6, .slice A0_7 l0_7.length c0_7], .int .i64 a1] (by rfl) rfl rfl (by (try simp only [List.map_toArray, List.map_cons, List.map_nil]); first | done | rfl | (simp only [List.length_drop, List.length_take]; rfl)) ?_
     with_reducible refine (sound_Broken.calls kj2 a0_0 a0_1 a0_2 _ _ l0_3 _ _ l0_4 _ _ l0_5 _ _ l0_6 _ _ l0_7 a1 t419 _ ?side1 ?side2 ?side3 ?side4 ?side5 ?side6 ?side7 ?side8 ?side9 ?side10 A15.out).mono ?_
     (case side1 => repeat (first | exact (Kd.C_below HR0_3.out HB.out) | (with_reducible refine Kd.C_alloc ?_ _) | (with_reducible refine Kd.C_drewN ?_ _) | (with_reducible refine Kd.C_drew ?_)))
     (case side2 => exact HC0_3.out)
     (case side3 => repeat (first | exact (Kd.C_below HR0_4.out HB.out) | (with_reducible refine Kd.C_alloc ?_ _) | (with_reducible refine Kd.C_drewN ?_ _) | (with_reducible refine Kd.C_drew ?_)))
     (case side4 => exact HC0_4.out)
     (case side5 => repeat (first | exact (Kd.C_below HR0_5.out HB.out) | (with_reducible refine Kd.C_alloc ?_ _) | (with_reducible refine Kd.C_drewN ?_ _) | (with_reducible refine Kd.C_drew ?_)))
     (case side6 => exact HC0_5.out)
     (case side7 => repeat (first | exact (Kd.C_below HR0_6.out HB.out) | (with_reducible refine Kd.C_alloc ?_ _) | (with_reducible refine Kd.C_drewN ?_ _) | (with_reducible refine Kd.C_drew ?_)))
     (case side8 => exact HC0_6.out)
     (case side9 => repeat (first | exact (Kd.C_below HR0_7.out HB.out) | (with_reducible refine Kd.C_alloc ?_ _) | (with_reducible refine Kd.C_drewN ?_ _) | (with_reducible refine Kd.C_drew ?_)))
     (case side10 => exact HC0_7.out)
     rintro e w19 ⟨rfl, hb⟩
     refine ⟨_, rfl, ?_⟩
     (try clear A15)
     have n0_ := Aside0.mk (blk_below (by (with_reducible repeat first | apply kn | apply kd | apply ka); exact BK416.out) hb)
     have n1_ := Aside0.mk (below_step (by repeat (first | (with_reducible first | exact HB.out | apply ba | apply bn | apply bd | apply bs _ GE416.out) | exact HB.out)) hb)
     clear BK416
     clear HB
     have BK416 := n0_
     have HB := n1_
     clear n0_ n1_
     (try clear hb)
     (try clear hb2)
     (try clear hk)
     (try clear hi)
     refine hK.out _ _ ⟨(blk_cell BK416.out 0).trans rfl, (blk_cell BK416.out 1).trans rfl, (blk_cell BK416.out 2).trans rfl, (blk_cell BK416.out 3).trans rfl, (blk_cell BK416.out 4).trans rfl, (blk_cell BK416.out 5).trans rfl, (blk_cell BK416.out 6).trans rfl, (blk_cell BK416.out 7).trans rfl⟩ (fun hHeld => ?_)
     clear hK K
     refine norm_ (a' := ?_) ?_ ?_
     rotate_left
     ·show Act.put _ (some 26) _ = _
      simp only [Act.put, List.setIfInBounds_toArray, List.set_cons_zero, List.set_cons_succ, i64_w, i32_w]
      rfl
     refine one_ (i := 7) (N := some 29) (tb 11 255) rfl rfl (one_of HT_.out (by kernel_rfl)) (by decide) (fun K hK => ?_)
     refine goes_ Try.func6 (by kernel_rfl) rfl #[.agg #[.int .i64 a0_0, .int .i64 a0_1, .int .i64 a0_2, .slice A0_3 l0_3.length c0_3, .slice A0_4 l0_4.length c0_4, .slice A0_5 l0_5.length c0_5, .slice A0_6 l0_6.length c0_6, .slice A0_7 l0_7.length c0_7], .int .i64 a1] (by rfl) rfl rfl (by (try simp only [List.map_toArray, List.map_cons, List.map_nil]); first | done | rfl | (simp only [List.length_drop, List.length_take]; rfl)) ?_
     with_reducible refine (prebendref25_Broken.calls kj2 a0_0 a0_1 a0_2 _ _ l0_3 _ _ l0_4 _ _ l0_5 _ _ l0_6 _ _ l0_7 a1 t420 _ ?side1 ?side2 ?side3 ?side4 ?side5 ?side6 ?side7 ?side8 ?side9 ?side10 A16.out).mono ?_
     (case side1 => repeat (first | exact (Kd.C_below HR0_3.out HB.out) | (with_reducible refine Kd.C_alloc ?_ _) | (with_reducible refine Kd.C_drewN ?_ _) | (with_reducible refine Kd.C_drew ?_)))
     (case side2 => exact HC0_3.out)
     (case side3 => repeat (first | exact (Kd.C_below HR0_4.out HB.out) | (with_reducible refine Kd.C_alloc ?_ _) | (with_reducible refine Kd.C_drewN ?_ _) | (with_reducible refine Kd.C_drew ?_)))
     (case side4 => exact HC0_4.out)
     (case side5 => repeat (first | exact (Kd.C_below HR0_5.out HB.out) | (with_reducible refine Kd.C_alloc ?_ _) | (with_reducible refine Kd.C_drewN ?_ _) | (with_reducible refine Kd.C_drew ?_)))
     (case side6 => exact HC0_5.out)
     (case side7 => repeat (first | exact (Kd.C_below HR0_6.out HB.out) | (with_reducible refine Kd.C_alloc ?_ _) | (with_reducible refine Kd.C_drewN ?_ _) | (with_reducible refine Kd.C_drew ?_)))
     (case side8 => exact HC0_6.out)
     (case side9 => repeat (first | exact (Kd.C_below HR0_7.out HB.out) | (with_reducible refine Kd.C_alloc ?_ _) | (with_reducible refine Kd.C_drewN ?_ _) | (with_reducible refine Kd.C_drew ?_)))
     (case side10 => exact HC0_7.out)
     rintro e w20 ⟨rfl, hb⟩
     refine ⟨_, rfl, ?_⟩
     (try clear A16)
     have n0_ := Aside0.mk (blk_below (by (with_reducible repeat first | apply kn | apply kd | apply ka); exact BK416.out) hb)
     have n1_ := Aside0.mk (below_step (by repeat (first | (with_reducible first | exact HB.out | apply ba | apply bn | apply bd | apply bs _ GE416.out) | exact HB.out)) hb)
     clear BK416
     clear HB
     have BK416 := n0_
     have HB := n1_
     clear n0_ n1_
     (try clear hb)
     (try clear hb2)
     (try clear hk)
     (try clear hi)
     refine hK.out _ _ ⟨(blk_cell BK416.out 0).trans rfl, (blk_cell BK416.out 1).trans rfl, (blk_cell BK416.out 2).trans rfl, (blk_cell BK416.out 3).trans rfl, (blk_cell BK416.out 4).trans rfl, (blk_cell BK416.out 5).trans rfl, (blk_cell BK416.out 6).trans rfl, (blk_cell BK416.out 7).trans rfl⟩ (fun hHeld => ?_)
     clear hK K
     refine norm_ (a' := ?_) ?_ ?_
     rotate_left
     ·show Act.put _ (some 29) _ = _
      simp only [Act.put, List.setIfInBounds_toArray, List.set_cons_zero, List.set_cons_succ, i64_w, i32_w]
      rfl
     refine pu 8 30 (tb 11 511) HT_ ?_
     refine pu 9 31 (tb 11 1023) HT_ ?_
     refine pu 10 4 (tb 11 2047) HT_ ?_
     refine done_ (done_of HT_.out (by kernel_rfl)) ?_
     try go_wp2
     go_ret
     exact ⟨by first | rfl | (simp [*, errW_none, errW_some] <;> rfl), by repeat (first | (with_reducible first | exact HB.out | apply ba | apply bn | apply bd | apply bs _ GE416.out) | exact HB.out)⟩
    ·replace c14 := Bool.eq_false_iff.mpr c14
     subst c14
     rw [if_neg (show ¬ (false = true) by decide)] at H
     obtain rfl := Option.some.inj H
     try go_wp2
     have n0_ := Aside0.mk (blk_drew BK416.out)
     have n1_ := Aside0.mk (below_drew1 HB.out)
     clear BK416
     clear HB
     have BK416 := n0_
     have HB := n1_
     clear n0_ n1_
     refine start_ (n := 11) (S := fun w' => True) (ds := []) (tb 11 0) (by kernel_rfl) rfl rfl trivial (fun hHeld => ?_); refine with_tabW prebendlaw25_SoundTells.tab3 prebendlaw25_SoundTells.bits3 (fun HT_ HW_ => ?_)
     generalize wc.drew = w21 at BK416 HB hHeld ⊢
     refine one_ (i := 0) (N := some 22) (tb 11 1) rfl rfl (one_of HT_.out (by kernel_rfl)) (by decide) (fun K hK => ?_)
     refine goes_ Try.func4 (by kernel_rfl) rfl #[] (by rfl) rfl rfl (by (try simp only [List.map_toArray, List.map_cons, List.map_nil]); first | done | rfl | (simp only [List.length_drop, List.length_take]; rfl)) ?_
     with_reducible refine (prebendlaw25_awake.calls kj2  false _ A13.out).mono ?_
     rintro e w22 ⟨rfl, hb⟩
     refine ⟨_, rfl, ?_⟩
     have n0_ := Aside0.mk (blk_below (by (with_reducible repeat first | apply kn | apply kd | apply ka); exact BK416.out) hb)
     have n1_ := Aside0.mk (below_step (by repeat (first | (with_reducible first | exact HB.out | apply ba | apply bn | apply bd | apply bs _ GE416.out) | exact HB.out)) hb)
     clear BK416
     clear HB
     have BK416 := n0_
     have HB := n1_
     clear n0_ n1_
     (try clear hb)
     (try clear hb2)
     (try clear hk)
     (try clear hi)
     refine hK.out _ _ trivial (fun hHeld => ?_)
     clear hK K
     refine norm_ (a' := ?_) ?_ ?_
     rotate_left
     ·show Act.put _ (some 22) _ = _
      simp only [Act.put, List.setIfInBounds_toArray, List.set_cons_zero, List.set_cons_succ, i64_w, i32_w]
      rfl
     refine pu 1 23 (tb 11 3) HT_ ?_
     refine pz 2 24 (tb 11 7) HT_ ?_
     refine pz 3 25 (tb 11 15) HT_ ?_
     refine pz 4 26 (tb 11 31) HT_ ?_
     refine pz 5 27 (tb 11 63) HT_ ?_
     refine pz 6 28 (tb 11 127) HT_ ?_
     refine pz 7 29 (tb 11 255) HT_ ?_
     refine pz 8 30 (tb 11 511) HT_ ?_
     refine pu 9 31 (tb 11 1023) HT_ ?_
     refine pu 10 4 (tb 11 2047) HT_ ?_
     refine done_ (done_of HT_.out (by kernel_rfl)) ?_
     try go_wp2
     go_ret
     exact ⟨by first | rfl | (simp [*, errW_none, errW_some] <;> rfl), by repeat (first | (with_reducible first | exact HB.out | apply ba | apply bn | apply bd | apply bs _ GE416.out) | exact HB.out)⟩
def wfS34 (x : S34) : Prop := x.f0.size ≤ 140737488351232 ∧ (Lit.int .i64 x.f1).wf = true ∧ (Lit.int .i64 x.f2).wf = true
def wfS36 (x : S36) : Prop := (Lit.int .i64 x.f0).wf = true ∧ (Lit.int .i64 x.f1).wf = true ∧ (Lit.int .i64 x.f2).wf = true ∧ (Lit.int .i64 x.f3).wf = true ∧ (Lit.int .i64 x.f4).wf = true ∧ (Lit.int .i64 x.f5).wf = true
def wfS68 (x : S68) : Prop := (Lit.int .i64 x.f0).wf = true ∧ (Lit.int .i64 x.f1).wf = true ∧ (Lit.int .i64 x.f2).wf = true
def wfS60 (x : S60) : Prop := (Lit.int .i64 x.f0).wf = true ∧ (Lit.int .i64 x.f1).wf = true
def wfS50 (x : S50) : Prop := (Lit.int .i64 x.f0).wf = true ∧ (Lit.int .i64 x.f1).wf = true ∧ (Lit.int .i64 x.f2).wf = true ∧ (Lit.int .i64 x.f3).wf = true ∧ (Lit.int .i64 x.f4).wf = true ∧ (Lit.int .i64 x.f5).wf = true ∧ (Lit.int .i64 x.f6).wf = true ∧ (Lit.int .i64 x.f7).wf = true ∧ (Lit.int .i64 x.f8).wf = true ∧ (Lit.int .i64 x.f9).wf = true ∧ (Lit.int .i64 x.f10).wf = true ∧ (x.f11.length * 16 ≤ 140737488351232 ∧ ∀ y ∈ x.f11, wfS60 y)
def wfS28 (x : S28) : Prop := (Lit.int .i64 x.f0).wf = true ∧ (Lit.int .i64 x.f1).wf = true ∧ (Lit.int .i64 x.f2).wf = true ∧ (x.f3.length * 32 ≤ 140737488351232 ∧ ∀ y ∈ x.f3, wfS34 y) ∧ (x.f4.length * 48 ≤ 140737488351232 ∧ ∀ y ∈ x.f4, wfS36 y) ∧ (x.f5.length * 24 ≤ 140737488351232 ∧ ∀ y ∈ x.f5, wfS68 y) ∧ (x.f6.length * 112 ≤ 140737488351232 ∧ ∀ y ∈ x.f6, wfS50 y) ∧ (x.f7.length * 16 ≤ 140737488351232 ∧ ∀ y ∈ x.f7, y.size ≤ 140737488351232)
def prebendlaw25_SoundTells.Pure : Prop := ∀ (a0_0 : Int) (a0_1 : Int) (a0_2 : Int) (l0_3 : List (S34)) (l0_4 : List (S36)) (l0_5 : List (S68)) (l0_6 : List (S50)) (l0_7 : List ByteArray) (a1 : Int), (Lit.int .i64 a0_0).wf = true → (Lit.int .i64 a0_1).wf = true → (Lit.int .i64 a0_2).wf = true → (l0_3.length * 32 ≤ 140737488351232 ∧ ∀ y ∈ l0_3, wfS34 y) → (l0_4.length * 48 ≤ 140737488351232 ∧ ∀ y ∈ l0_4, wfS36 y) → (l0_5.length * 24 ≤ 140737488351232 ∧ ∀ y ∈ l0_5, wfS68 y) → (l0_6.length * 112 ≤ 140737488351232 ∧ ∀ y ∈ l0_6, wfS50 y) → (l0_7.length * 16 ≤ 140737488351232 ∧ ∀ y ∈ l0_7, y.size ≤ 140737488351232) → (Lit.int .i64 a1).wf = true → ∃ k, prebendlaw25_SoundTells.f k a0_0 a0_1 a0_2 l0_3 l0_4 l0_5 l0_6 l0_7 a1 = some true

end Go.Proofs.Ytijeigiilgapdaa.QSoundTells
