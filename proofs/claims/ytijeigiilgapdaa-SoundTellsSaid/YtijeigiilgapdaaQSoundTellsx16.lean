/- Written by a program of this session (wip/tools/mp.sh): functions as Lean functions, with proofs that the calls come to what they say. Lean checks it. -/
import Derived.Test.YtijeigiilgapdaaQSoundTellsx0
import Derived.Test.YtijeigiilgapdaaXWd
import Derived.Test.YtijeigiilgapdaaQSoundTellsx15
namespace Go.Proofs.Ytijeigiilgapdaa.QSoundTells
open Go.RowKit Go.Proofs.YtijeigiilgapdaaW.PrintWords Go.Proofs.YtijeigiilgapdaaW.PrintLast Go.Proofs.YtijeigiilgapdaaW.PrintMore
attribute [local go_sem] max2_int min2_int max_two min_two max_three min_three max_four min_four   -- for this text's walks alone
set_option linter.unusedVariables false
set_option linter.unusedSimpArgs false

/-! ### prebendref25_jobs: function 31 -/
mutual
def prebendref25_jobs.l0 : Nat → Int → Int → Int → Int → List (S34) → List (S36) → List (S68) → List (S50) → List ByteArray → Option (Bool)
 | 0, _, _, _, _, _, _, _, _, _ => none
 | k + 1, x3, x310000, x310001, x310002, x310003, x310004, x310005, x310006, x310007 => if x3 < (x310006.length : Int) then (if 0 ≤ x3 then ((prebendref19_Good.f k ((rd_T50 x310006 x3).f0) ((rd_T50 x310006 x3).f1) ((rd_T50 x310006 x3).f2) ((rd_T50 x310006 x3).f3) ((rd_T50 x310006 x3).f4) ((rd_T50 x310006 x3).f5) ((rd_T50 x310006 x3).f6) ((rd_T50 x310006 x3).f7) ((rd_T50 x310006 x3).f8) ((rd_T50 x310006 x3).f9) ((rd_T50 x310006 x3).f10) ((rd_T50 x310006 x3).f11)).bind fun t312 => (if t312 = true then (if ((rd_T50 x310006 x3).f1) ≥ (x310003.length : Int) then (prebendref25_jobs.j1 k x3 true x310000 x310001 x310002 x310003 x310004 x310005 x310006 x310007 ((rd_T50 x310006 x3).f0) ((rd_T50 x310006 x3).f1) ((rd_T50 x310006 x3).f2) ((rd_T50 x310006 x3).f3) ((rd_T50 x310006 x3).f4) ((rd_T50 x310006 x3).f5) ((rd_T50 x310006 x3).f6) ((rd_T50 x310006 x3).f7) ((rd_T50 x310006 x3).f8) ((rd_T50 x310006 x3).f9) ((rd_T50 x310006 x3).f10) ((rd_T50 x310006 x3).f11)) else (prebendref25_jobs.j1 k x3 (decide (((rd_T50 x310006 x3).f0) ≥ x310002)) x310000 x310001 x310002 x310003 x310004 x310005 x310006 x310007 ((rd_T50 x310006 x3).f0) ((rd_T50 x310006 x3).f1) ((rd_T50 x310006 x3).f2) ((rd_T50 x310006 x3).f3) ((rd_T50 x310006 x3).f4) ((rd_T50 x310006 x3).f5) ((rd_T50 x310006 x3).f6) ((rd_T50 x310006 x3).f7) ((rd_T50 x310006 x3).f8) ((rd_T50 x310006 x3).f9) ((rd_T50 x310006 x3).f10) ((rd_T50 x310006 x3).f11))) else (prebendref25_jobs.j1 k x3 true x310000 x310001 x310002 x310003 x310004 x310005 x310006 x310007 ((rd_T50 x310006 x3).f0) ((rd_T50 x310006 x3).f1) ((rd_T50 x310006 x3).f2) ((rd_T50 x310006 x3).f3) ((rd_T50 x310006 x3).f4) ((rd_T50 x310006 x3).f5) ((rd_T50 x310006 x3).f6) ((rd_T50 x310006 x3).f7) ((rd_T50 x310006 x3).f8) ((rd_T50 x310006 x3).f9) ((rd_T50 x310006 x3).f10) ((rd_T50 x310006 x3).f11)))) else (none)) else (some (decide ((x310006.length : Int) ≤ 16)))
def prebendref25_jobs.j1 : Nat → Int → Bool → Int → Int → Int → List (S34) → List (S36) → List (S68) → List (S50) → List ByteArray → Int → Int → Int → Int → Int → Int → Int → Int → Int → Int → Int → List (S60) → Option (Bool)
 | 0, _, _, _, _, _, _, _, _, _, _, _, _, _, _, _, _, _, _, _, _, _, _ => none
 | k + 1, x3, x36, x310000, x310001, x310002, x310003, x310004, x310005, x310006, x310007, x312000, x312001, x312002, x312003, x312004, x312005, x312006, x312007, x312008, x312009, x312010, x312011 => if x36 = true then (some false) else (prebendref25_jobs.l1 k x3 0 x310000 x310001 x310002 x310003 x310004 x310005 x310006 x310007 x312000 x312001 x312002 x312003 x312004 x312005 x312006 x312007 x312008 x312009 x312010 x312011)
def prebendref25_jobs.l1 : Nat → Int → Int → Int → Int → Int → List (S34) → List (S36) → List (S68) → List (S50) → List ByteArray → Int → Int → Int → Int → Int → Int → Int → Int → Int → Int → Int → List (S60) → Option (Bool)
 | 0, _, _, _, _, _, _, _, _, _, _, _, _, _, _, _, _, _, _, _, _, _, _ => none
 | k + 1, x3, x5, x310000, x310001, x310002, x310003, x310004, x310005, x310006, x310007, x312000, x312001, x312002, x312003, x312004, x312005, x312006, x312007, x312008, x312009, x312010, x312011 => if x5 < x3 then (if 0 ≤ x5 then (if x5 < (x310006.length : Int) then (if ((rd_T50 x310006 x5).f0) = x312000 then (some false) else (prebendref25_jobs.l1 k x3 (wrap64 (x5 + 1)) x310000 x310001 x310002 x310003 x310004 x310005 x310006 x310007 x312000 x312001 x312002 x312003 x312004 x312005 x312006 x312007 x312008 x312009 x312010 x312011)) else (none)) else (none)) else (prebendref25_jobs.l2 k x3 0 x310000 x310001 x310002 x310003 x310004 x310005 x310006 x310007 x312000 x312001 x312002 x312003 x312004 x312005 x312006 x312007 x312008 x312009 x312010 x312011)
def prebendref25_jobs.l2 : Nat → Int → Int → Int → Int → Int → List (S34) → List (S36) → List (S68) → List (S50) → List ByteArray → Int → Int → Int → Int → Int → Int → Int → Int → Int → Int → Int → List (S60) → Option (Bool)
 | 0, _, _, _, _, _, _, _, _, _, _, _, _, _, _, _, _, _, _, _, _, _, _ => none
 | k + 1, x3, x6, x310000, x310001, x310002, x310003, x310004, x310005, x310006, x310007, x312000, x312001, x312002, x312003, x312004, x312005, x312006, x312007, x312008, x312009, x312010, x312011 => if x6 < (x312011.length : Int) then (if 0 ≤ x6 then (if ((rd_T60 x312011 x6).f0) ≥ (x310004.length : Int) then (some false) else (prebendref25_jobs.l2 k x3 (wrap64 (x6 + 1)) x310000 x310001 x310002 x310003 x310004 x310005 x310006 x310007 x312000 x312001 x312002 x312003 x312004 x312005 x312006 x312007 x312008 x312009 x312010 x312011)) else (none)) else (prebendref25_jobs.l0 k (wrap64 (x3 + 1)) x310000 x310001 x310002 x310003 x310004 x310005 x310006 x310007)
end
def prebendref25_jobs.f (k : Nat) (a0_0 : Int) (a0_1 : Int) (a0_2 : Int) (l0_3 : List (S34)) (l0_4 : List (S36)) (l0_5 : List (S68)) (l0_6 : List (S50)) (l0_7 : List ByteArray) : Option (Bool) := prebendref25_jobs.l0 k 0 a0_0 a0_1 a0_2 l0_3 l0_4 l0_5 l0_6 l0_7
theorem prebendref25_jobs.mono_l : ∀ k, (∀ y0 y1 y2 y3 y4 y5 y6 y7 y8, LeO (prebendref25_jobs.l0 k y0 y1 y2 y3 y4 y5 y6 y7 y8) (prebendref25_jobs.l0 (k + 1) y0 y1 y2 y3 y4 y5 y6 y7 y8)) ∧ (∀ y0 y1 y2 y3 y4 y5 y6 y7 y8 y9 y10 y11 y12 y13 y14 y15 y16 y17 y18 y19 y20 y21, LeO (prebendref25_jobs.j1 k y0 y1 y2 y3 y4 y5 y6 y7 y8 y9 y10 y11 y12 y13 y14 y15 y16 y17 y18 y19 y20 y21) (prebendref25_jobs.j1 (k + 1) y0 y1 y2 y3 y4 y5 y6 y7 y8 y9 y10 y11 y12 y13 y14 y15 y16 y17 y18 y19 y20 y21)) ∧ (∀ y0 y1 y2 y3 y4 y5 y6 y7 y8 y9 y10 y11 y12 y13 y14 y15 y16 y17 y18 y19 y20 y21, LeO (prebendref25_jobs.l1 k y0 y1 y2 y3 y4 y5 y6 y7 y8 y9 y10 y11 y12 y13 y14 y15 y16 y17 y18 y19 y20 y21) (prebendref25_jobs.l1 (k + 1) y0 y1 y2 y3 y4 y5 y6 y7 y8 y9 y10 y11 y12 y13 y14 y15 y16 y17 y18 y19 y20 y21)) ∧ (∀ y0 y1 y2 y3 y4 y5 y6 y7 y8 y9 y10 y11 y12 y13 y14 y15 y16 y17 y18 y19 y20 y21, LeO (prebendref25_jobs.l2 k y0 y1 y2 y3 y4 y5 y6 y7 y8 y9 y10 y11 y12 y13 y14 y15 y16 y17 y18 y19 y20 y21) (prebendref25_jobs.l2 (k + 1) y0 y1 y2 y3 y4 y5 y6 y7 y8 y9 y10 y11 y12 y13 y14 y15 y16 y17 y18 y19 y20 y21))
 | 0 => ⟨fun _ _ _ _ _ _ _ _ _ r h => by simp [prebendref25_jobs.l0] at h, fun _ _ _ _ _ _ _ _ _ _ _ _ _ _ _ _ _ _ _ _ _ _ r h => by simp [prebendref25_jobs.j1] at h, fun _ _ _ _ _ _ _ _ _ _ _ _ _ _ _ _ _ _ _ _ _ _ r h => by simp [prebendref25_jobs.l1] at h, fun _ _ _ _ _ _ _ _ _ _ _ _ _ _ _ _ _ _ _ _ _ _ r h => by simp [prebendref25_jobs.l2] at h⟩
 | k + 1 => by
  obtain ⟨ih0, ih1, ih2, ih3⟩ := prebendref25_jobs.mono_l k; refine ⟨?_, ?_, ?_, ?_⟩
  ·intro y0 y1 y2 y3 y4 y5 y6 y7 y8
   unfold prebendref25_jobs.l0
   have ih9 := @prebendref19_Good.mono; exact lo
  ·intro y0 y1 y2 y3 y4 y5 y6 y7 y8 y9 y10 y11 y12 y13 y14 y15 y16 y17 y18 y19 y20 y21
   unfold prebendref25_jobs.j1
   have ih9 := @prebendref19_Good.mono; exact lo
  ·intro y0 y1 y2 y3 y4 y5 y6 y7 y8 y9 y10 y11 y12 y13 y14 y15 y16 y17 y18 y19 y20 y21
   unfold prebendref25_jobs.l1
   have ih9 := @prebendref19_Good.mono; exact lo
  ·intro y0 y1 y2 y3 y4 y5 y6 y7 y8 y9 y10 y11 y12 y13 y14 y15 y16 y17 y18 y19 y20 y21
   unfold prebendref25_jobs.l2
   have ih9 := @prebendref19_Good.mono; exact lo
theorem prebendref25_jobs.mono : ∀ a0 a1 a2 a3 a4 a5 a6 a7 k, LeO (prebendref25_jobs.f k a0 a1 a2 a3 a4 a5 a6 a7) (prebendref25_jobs.f (k + 1) a0 a1 a2 a3 a4 a5 a6 a7) := by
 intro a0 a1 a2 a3 a4 a5 a6 a7 k; obtain ⟨ih0, ih1, ih2, ih3⟩ := prebendref25_jobs.mono_l k; unfold prebendref25_jobs.f
 have ih9 := @prebendref19_Good.mono; exact lo
set_option maxHeartbeats 8000000 in
set_option maxRecDepth 100000 in
theorem prebendref25_jobs.calls (k : Nat) (a0_0 : Int) (a0_1 : Int) (a0_2 : Int) (A0_3 : Option Addr) (c0_3 : Nat) (l0_3 : List (S34)) (A0_4 : Option Addr) (c0_4 : Nat) (l0_4 : List (S36)) (A0_5 : Option Addr) (c0_5 : Nat) (l0_5 : List (S68)) (A0_6 : Option Addr) (c0_6 : Nat) (l0_6 : List (S50)) (A0_7 : Option Addr) (c0_7 : Nat) (l0_7 : List ByteArray) (r : Bool) (w : World) (hr0_3 : Kd.C k34 w A0_3 l0_3.length l0_3) (hc0_3 : l0_3.length ≤ c0_3) (hr0_4 : Kd.C k36 w A0_4 l0_4.length l0_4) (hc0_4 : l0_4.length ≤ c0_4) (hr0_5 : Kd.C k68 w A0_5 l0_5.length l0_5) (hc0_5 : l0_5.length ≤ c0_5) (hr0_6 : Kd.C k50 w A0_6 l0_6.length l0_6) (hc0_6 : l0_6.length ≤ c0_6) (hr0_7 : Kd.C Kd.string w A0_7 l0_7.length l0_7) (hc0_7 : l0_7.length ≤ c0_7) (h : prebendref25_jobs.f k a0_0 a0_1 a0_2 l0_3 l0_4 l0_5 l0_6 l0_7 = some r) :
  Calls Try.prog 31 #[.agg #[.int .i64 a0_0, .int .i64 a0_1, .int .i64 a0_2, .slice A0_3 l0_3.length c0_3, .slice A0_4 l0_4.length c0_4, .slice A0_5 l0_5.length c0_5, .slice A0_6 l0_6.length c0_6, .slice A0_7 l0_7.length c0_7]] w fun e w' => e = .returned (.bool r) ∧ Below w.heap.size w w' := by
 have hu28 := Try.underlying28; have hu50 := Try.underlying50; have HR0_3 := am hr0_3; have HC0_3 := am hc0_3; clear hr0_3 hc0_3; have HR0_4 := am hr0_4; have HC0_4 := am hc0_4; clear hr0_4 hc0_4; have HR0_5 := am hr0_5; have HC0_5 := am hc0_5; clear hr0_5 hc0_5; have HR0_6 := am hr0_6; have HC0_6 := am hc0_6; clear hr0_6 hc0_6; have HR0_7 := am hr0_7; have HC0_7 := am hc0_7; clear hr0_7 hc0_7; have HB := am (Below.refl w.heap.size w); have H : (prebendref25_jobs.l0 k 0 a0_0 a0_1 a0_2 l0_3 l0_4 l0_5 l0_6 l0_7) = some r := h; clear h; have H' := am H; clear H
 go_enter Try.func31, Try.ntmps31
 go_wp2_with (first | ((with_reducible refine gate_dst (N := 1) rfl ?_); (try (refine gate_guard (by rfl) ?_; dsimp only)); refine be (N := 1) (cs := #[.int .i64 a0_0, .int .i64 a0_1, .int .i64 a0_2, .slice A0_3 l0_3.length c0_3, .slice A0_4 l0_4.length c0_4, .slice A0_5 l0_5.length c0_5, .slice A0_6 l0_6.length c0_6, .slice A0_7 l0_7.length c0_7]) (t := 28) ?_; intro gb309 hg w2 hbox hb; have BK309 := am (hbox); have GW309 := am ((by rw [hg]; exact (below_size bx) : w.heap.size ≤ gb309)); have GE309 := am ((by rw [hg]; exact (below_size bx) : w.heap.size ≤ gb309)); replace HB := am (below_step bx hb); clear hb hbox hg))
 repeat (go_quiet (first | ((with_reducible refine gate_dst (N := 1) rfl ?_); (try (refine gate_guard (by rfl) ?_; dsimp only)); refine be (N := 1) (cs := #[.int .i64 a0_0, .int .i64 a0_1, .int .i64 a0_2, .slice A0_3 l0_3.length c0_3, .slice A0_4 l0_4.length c0_4, .slice A0_5 l0_5.length c0_5, .slice A0_6 l0_6.length c0_6, .slice A0_7 l0_7.length c0_7]) (t := 28) ?_; intro gb309 hg w2 hbox hb; have BK309 := am (hbox); have GW309 := am ((by rw [hg]; exact (below_size bx) : w.heap.size ≤ gb309)); have GE309 := am ((by rw [hg]; exact (below_size bx) : w.heap.size ≤ gb309)); replace HB := am (below_step bx hb); clear hb hbox hg)); try go_wp2_with (first | ((with_reducible refine gate_dst (N := 1) rfl ?_); (try (refine gate_guard (by rfl) ?_; dsimp only)); refine be (N := 1) (cs := #[.int .i64 a0_0, .int .i64 a0_1, .int .i64 a0_2, .slice A0_3 l0_3.length c0_3, .slice A0_4 l0_4.length c0_4, .slice A0_5 l0_5.length c0_5, .slice A0_6 l0_6.length c0_6, .slice A0_7 l0_7.length c0_7]) (t := 28) ?_; intro gb309 hg w2 hbox hb; have BK309 := am (hbox); have GW309 := am ((by rw [hg]; exact (below_size bx) : w.heap.size ≤ gb309)); have GE309 := am ((by rw [hg]; exact (below_size bx) : w.heap.size ≤ gb309)); replace HB := am (below_step bx hb); clear hb hbox hg)))
 go_loopg [3] k (fun kq v3 w' => ∃ (x3_1 : Int), v3 = .int .i64 x3_1 ∧ Aside0 (prebendref25_jobs.l0 kq x3_1 a0_0 a0_1 a0_2 l0_3 l0_4 l0_5 l0_6 l0_7 = some r) ∧ Aside0 (kq ≤ k) ∧ Aside0 (w'.heap[gb309]? = some (.cells #[.int .i64 a0_0, .int .i64 a0_1, .int .i64 a0_2, (.slice A0_3 l0_3.length c0_3), (.slice A0_4 l0_4.length c0_4), (.slice A0_5 l0_5.length c0_5), (.slice A0_6 l0_6.length c0_6), (.slice A0_7 l0_7.length c0_7)] 28 (0, 0))) ∧ Aside0 (Below w.heap.size w w'))
 case atStart => exact ⟨(0), sx, H', ⟨Nat.le_refl _⟩, ⟨BK309.out⟩, ⟨bx⟩⟩
 case round =>
  clear H'; obtain ⟨x3_1, rfl, HA, HK1, BK309, HB⟩ := hrel
  cases gk with
  | zero => exact absurd HA.out (by simp [prebendref25_jobs.l0])
  | succ k1 =>
   have H := HA.out; clear HA; simp only [prebendref25_jobs.l0] at H
   by_cases c3 : x3_1 < (l0_6.length : Int)
   ·rw [if_pos c3] at H
    have c3b0 := decide_eq_true c3; clear c3
    by_cases c4 : 0 ≤ x3_1
    ·rw [if_pos c4] at H
     have c4b0 := decide_eq_true c4; clear c4; have HC5 := am H; clear H; obtain ⟨_, _, _, _, _, _, _, _⟩ := c8 BK309.out; have p310 : 0 ≤ (x3_1 : Int) := of_decide_eq_true (by assumption); have q310 : x3_1 < (l0_6.length : Int) := of_decide_eq_true (by assumption); obtain ⟨ad310, A310_11, c310_11, e310, hx310_0, hx310_1, hx310_2, hx310_3, hx310_4, hx310_5, hx310_6, hx310_7, hx310_8, hx310_9, hx310_10, hx310_11, hl310_11, hi310_11⟩ := at_T50 HR0_6.out x3_1 p310 q310; cases e310; replace hx310_0 := cb HB.out hx310_0; replace hx310_1 := cb HB.out hx310_1; replace hx310_2 := cb HB.out hx310_2; replace hx310_3 := cb HB.out hx310_3; replace hx310_4 := cb HB.out hx310_4; replace hx310_5 := cb HB.out hx310_5; replace hx310_6 := cb HB.out hx310_6; replace hx310_7 := cb HB.out hx310_7; replace hx310_8 := cb HB.out hx310_8; replace hx310_9 := cb HB.out hx310_9; replace hx310_10 := cb HB.out hx310_10; replace hx310_11 := cb HB.out hx310_11; have HR310_11 := am hi310_11; have HC310_11 := am hl310_11; clear hi310_11 hl310_11; replace p310 := eq_true p310; replace q310 := eq_true q310
     go_upto_region 5 with (first | ((with_reducible refine gate_dst (N := 4) rfl ?_); (try (refine gate_guard (by rfl) ?_; dsimp only)); refine be (N := 4) (cs := #[.int .i64 0, .int .i64 0, .int .i64 0, .int .i64 0, .int .i64 0, .int .i64 0, .int .i64 0, .int .i64 0, .int .i64 0, .int .i64 0, .int .i64 0, .slice none 0 0]) (t := 50) ?_; intro gb311 hg w7 hbox hb; have BK311 := am (hbox); have GW311 := am ((by rw [hg]; exact (below_size bx) : w.heap.size ≤ gb311)); have GE311 := am ((by rw [hg]; exact (below_size bx) : w.heap.size ≤ gb311)); replace HB := am (below_step bx hb); have NB309_311 := am ((by rw [hg]; exact Nat.ne_of_lt (blk_lt BK309.out) : gb309 ≠ gb311)); have NB311_309 := am ((by rw [hg]; exact Nat.ne_of_gt (blk_lt BK309.out) : gb311 ≠ gb309)); replace BK309 := am (blk_below BK309.out hb); clear hb hbox hg; have hnb8 := NB311_309.out; have hnc8 := NB309_311.out; obtain ⟨_, _, _, _, _, _, _, _, _, _, _, _⟩ := c12 BK311.out; obtain ⟨_, _, _, _, _, _, _, _, _, _, _, _⟩ := f12 BK311.out))
     repeat (go_quiet (first | ((with_reducible refine gate_dst (N := 4) rfl ?_); (try (refine gate_guard (by rfl) ?_; dsimp only)); refine be (N := 4) (cs := #[.int .i64 0, .int .i64 0, .int .i64 0, .int .i64 0, .int .i64 0, .int .i64 0, .int .i64 0, .int .i64 0, .int .i64 0, .int .i64 0, .int .i64 0, .slice none 0 0]) (t := 50) ?_; intro gb311 hg w7 hbox hb; have BK311 := am (hbox); have GW311 := am ((by rw [hg]; exact (below_size bx) : w.heap.size ≤ gb311)); have GE311 := am ((by rw [hg]; exact (below_size bx) : w.heap.size ≤ gb311)); replace HB := am (below_step bx hb); have NB309_311 := am ((by rw [hg]; exact Nat.ne_of_lt (blk_lt BK309.out) : gb309 ≠ gb311)); have NB311_309 := am ((by rw [hg]; exact Nat.ne_of_gt (blk_lt BK309.out) : gb311 ≠ gb309)); replace BK309 := am (blk_below BK309.out hb); clear hb hbox hg; have hnb8 := NB311_309.out; have hnc8 := NB309_311.out; obtain ⟨_, _, _, _, _, _, _, _, _, _, _, _⟩ := c12 BK311.out; obtain ⟨_, _, _, _, _, _, _, _, _, _, _, _⟩ := f12 BK311.out)); go_upto_region 5 with (first | ((with_reducible refine gate_dst (N := 4) rfl ?_); (try (refine gate_guard (by rfl) ?_; dsimp only)); refine be (N := 4) (cs := #[.int .i64 0, .int .i64 0, .int .i64 0, .int .i64 0, .int .i64 0, .int .i64 0, .int .i64 0, .int .i64 0, .int .i64 0, .int .i64 0, .int .i64 0, .slice none 0 0]) (t := 50) ?_; intro gb311 hg w7 hbox hb; have BK311 := am (hbox); have GW311 := am ((by rw [hg]; exact (below_size bx) : w.heap.size ≤ gb311)); have GE311 := am ((by rw [hg]; exact (below_size bx) : w.heap.size ≤ gb311)); replace HB := am (below_step bx hb); have NB309_311 := am ((by rw [hg]; exact Nat.ne_of_lt (blk_lt BK309.out) : gb309 ≠ gb311)); have NB311_309 := am ((by rw [hg]; exact Nat.ne_of_gt (blk_lt BK309.out) : gb311 ≠ gb309)); replace BK309 := am (blk_below BK309.out hb); clear hb hbox hg; have hnb8 := NB311_309.out; have hnc8 := NB309_311.out; obtain ⟨_, _, _, _, _, _, _, _, _, _, _, _⟩ := c12 BK311.out; obtain ⟨_, _, _, _, _, _, _, _, _, _, _, _⟩ := f12 BK311.out)))
     (try simp only [Act.put, List.setIfInBounds_toArray, List.set_cons_zero, List.set_cons_succ])
     go_cut [36] (fun v36 wc => ∃ (kq : Nat) (x36_4 : Bool), v36 = .bool x36_4 ∧ Aside0 (prebendref25_jobs.j1 kq x3_1 x36_4 a0_0 a0_1 a0_2 l0_3 l0_4 l0_5 l0_6 l0_7 ((rd_T50 l0_6 x3_1).f0) ((rd_T50 l0_6 x3_1).f1) ((rd_T50 l0_6 x3_1).f2) ((rd_T50 l0_6 x3_1).f3) ((rd_T50 l0_6 x3_1).f4) ((rd_T50 l0_6 x3_1).f5) ((rd_T50 l0_6 x3_1).f6) ((rd_T50 l0_6 x3_1).f7) ((rd_T50 l0_6 x3_1).f8) ((rd_T50 l0_6 x3_1).f9) ((rd_T50 l0_6 x3_1).f10) ((rd_T50 l0_6 x3_1).f11) = some r) ∧ Aside0 (kq ≤ k1) ∧ Aside0 (wc.heap[gb309]? = some (.cells #[.int .i64 a0_0, .int .i64 a0_1, .int .i64 a0_2, (.slice A0_3 l0_3.length c0_3), (.slice A0_4 l0_4.length c0_4), (.slice A0_5 l0_5.length c0_5), (.slice (some ad310) l0_6.length c0_6), (.slice A0_7 l0_7.length c0_7)] 28 (0, 0))) ∧ Aside0 (wc.heap[gb311]? = some (.cells #[.int .i64 ((rd_T50 l0_6 x3_1).f0), .int .i64 ((rd_T50 l0_6 x3_1).f1), .int .i64 ((rd_T50 l0_6 x3_1).f2), .int .i64 ((rd_T50 l0_6 x3_1).f3), .int .i64 ((rd_T50 l0_6 x3_1).f4), .int .i64 ((rd_T50 l0_6 x3_1).f5), .int .i64 ((rd_T50 l0_6 x3_1).f6), .int .i64 ((rd_T50 l0_6 x3_1).f7), .int .i64 ((rd_T50 l0_6 x3_1).f8), .int .i64 ((rd_T50 l0_6 x3_1).f9), .int .i64 ((rd_T50 l0_6 x3_1).f10), (.slice A310_11 ((rd_T50 l0_6 x3_1).f11).length c310_11)] 50 (0, 0))) ∧ Aside0 (Below w.heap.size w wc))
     case first =>
      have H := HC5.out; clear HC5; replace H := Option.bind_eq_some_iff.mp H; obtain ⟨t312, A100, H⟩ := H; have A10 := am A100; clear A100
      by_cases c11 : t312 = true
      ·subst c11
       rw [if_pos rfl] at H
       by_cases c12 : ((rd_T50 l0_6 x3_1).f1) ≥ (l0_3.length : Int)
       ·rw [if_pos c12] at H
        have c12b0 := decide_eq_true c12; clear c12
        (first | rw [c12b0] | (simp only [i64_w, i32_w]; rw [c12b0]) | skip)
        have H' := am H; clear H; have hnb13 := NB311_309.out; have hnc13 := NB309_311.out; obtain ⟨_, _, _, _, _, _, _, _, _, _, _, _⟩ := c12 BK311.out; go_wp2_with (first | (go_at_call 48; (with_reducible refine (prebendref19_Good.calls k1 ((rd_T50 l0_6 x3_1).f0) ((rd_T50 l0_6 x3_1).f1) ((rd_T50 l0_6 x3_1).f2) ((rd_T50 l0_6 x3_1).f3) ((rd_T50 l0_6 x3_1).f4) ((rd_T50 l0_6 x3_1).f5) ((rd_T50 l0_6 x3_1).f6) ((rd_T50 l0_6 x3_1).f7) ((rd_T50 l0_6 x3_1).f8) ((rd_T50 l0_6 x3_1).f9) ((rd_T50 l0_6 x3_1).f10) _ _ ((rd_T50 l0_6 x3_1).f11) true _ ?side1 ?side2 A10.out).mono ?_); (case side1 => exact Kd.C_below HR310_11.out bx); (case side2 => exact HC310_11.out); rintro e w15 ⟨rfl, hb⟩; replace BK309 := am (blk_below (g := gb309) (o := .cells #[.int .i64 a0_0, .int .i64 a0_1, .int .i64 a0_2, .slice A0_3 l0_3.length c0_3, .slice A0_4 l0_4.length c0_4, .slice A0_5 l0_5.length c0_5, .slice (some ad310) l0_6.length c0_6, .slice A0_7 l0_7.length c0_7] 28 (0, 0)) (by (iterate 12 ((with_reducible repeat first | apply kn | apply kd | apply ka); refine blk_far ?_ NB309_311.out _)); (with_reducible repeat first | apply kn | apply kd | apply ka); exact BK309.out) hb); replace BK311 := am (blk_below (g := gb311) (o := .cells #[.int .i64 ((rd_T50 l0_6 x3_1).f0), .int .i64 ((rd_T50 l0_6 x3_1).f1), .int .i64 ((rd_T50 l0_6 x3_1).f2), .int .i64 ((rd_T50 l0_6 x3_1).f3), .int .i64 ((rd_T50 l0_6 x3_1).f4), .int .i64 ((rd_T50 l0_6 x3_1).f5), .int .i64 ((rd_T50 l0_6 x3_1).f6), .int .i64 ((rd_T50 l0_6 x3_1).f7), .int .i64 ((rd_T50 l0_6 x3_1).f8), .int .i64 ((rd_T50 l0_6 x3_1).f9), .int .i64 ((rd_T50 l0_6 x3_1).f10), .slice A310_11 ((rd_T50 l0_6 x3_1).f11).length c310_11] 50 (0, 0)) (by (with_reducible repeat first | apply kn | apply kd | apply ka); refine bp (.slice none 0 0) rfl ?_; (iterate 11 (simp only [List.set]; (with_reducible repeat first | apply kn | apply kd | apply ka); refine bp (.int .i64 0) rfl ?_)); simp only [List.set]; (with_reducible repeat first | apply kn | apply kd | apply ka); exact BK311.out) hb); replace HB := am (below_step bx hb); (try clear hb); (try clear hb2); (try clear hk); (try clear hi); obtain ⟨_, _, _, _, _, _, _, _, _, _, _, _⟩ := c12 BK311.out; obtain ⟨_, _, _, _, _, _, _, _, _, _, _, _⟩ := f12 BK311.out; obtain ⟨_, _, _, _, _, _, _, _⟩ := c8 BK309.out; obtain ⟨_, _, _, _, _, _, _, _⟩ := f8 BK309.out))
        repeat (go_quiet (first | (go_at_call 48; (with_reducible refine (prebendref19_Good.calls k1 ((rd_T50 l0_6 x3_1).f0) ((rd_T50 l0_6 x3_1).f1) ((rd_T50 l0_6 x3_1).f2) ((rd_T50 l0_6 x3_1).f3) ((rd_T50 l0_6 x3_1).f4) ((rd_T50 l0_6 x3_1).f5) ((rd_T50 l0_6 x3_1).f6) ((rd_T50 l0_6 x3_1).f7) ((rd_T50 l0_6 x3_1).f8) ((rd_T50 l0_6 x3_1).f9) ((rd_T50 l0_6 x3_1).f10) _ _ ((rd_T50 l0_6 x3_1).f11) true _ ?side1 ?side2 A10.out).mono ?_); (case side1 => exact Kd.C_below HR310_11.out bx); (case side2 => exact HC310_11.out); rintro e w15 ⟨rfl, hb⟩; replace BK309 := am (blk_below (g := gb309) (o := .cells #[.int .i64 a0_0, .int .i64 a0_1, .int .i64 a0_2, .slice A0_3 l0_3.length c0_3, .slice A0_4 l0_4.length c0_4, .slice A0_5 l0_5.length c0_5, .slice (some ad310) l0_6.length c0_6, .slice A0_7 l0_7.length c0_7] 28 (0, 0)) (by (iterate 12 ((with_reducible repeat first | apply kn | apply kd | apply ka); refine blk_far ?_ NB309_311.out _)); (with_reducible repeat first | apply kn | apply kd | apply ka); exact BK309.out) hb); replace BK311 := am (blk_below (g := gb311) (o := .cells #[.int .i64 ((rd_T50 l0_6 x3_1).f0), .int .i64 ((rd_T50 l0_6 x3_1).f1), .int .i64 ((rd_T50 l0_6 x3_1).f2), .int .i64 ((rd_T50 l0_6 x3_1).f3), .int .i64 ((rd_T50 l0_6 x3_1).f4), .int .i64 ((rd_T50 l0_6 x3_1).f5), .int .i64 ((rd_T50 l0_6 x3_1).f6), .int .i64 ((rd_T50 l0_6 x3_1).f7), .int .i64 ((rd_T50 l0_6 x3_1).f8), .int .i64 ((rd_T50 l0_6 x3_1).f9), .int .i64 ((rd_T50 l0_6 x3_1).f10), .slice A310_11 ((rd_T50 l0_6 x3_1).f11).length c310_11] 50 (0, 0)) (by (with_reducible repeat first | apply kn | apply kd | apply ka); refine bp (.slice none 0 0) rfl ?_; (iterate 11 (simp only [List.set]; (with_reducible repeat first | apply kn | apply kd | apply ka); refine bp (.int .i64 0) rfl ?_)); simp only [List.set]; (with_reducible repeat first | apply kn | apply kd | apply ka); exact BK311.out) hb); replace HB := am (below_step bx hb); (try clear hb); (try clear hb2); (try clear hk); (try clear hi); obtain ⟨_, _, _, _, _, _, _, _, _, _, _, _⟩ := c12 BK311.out; obtain ⟨_, _, _, _, _, _, _, _, _, _, _, _⟩ := f12 BK311.out; obtain ⟨_, _, _, _, _, _, _, _⟩ := c8 BK309.out; obtain ⟨_, _, _, _, _, _, _, _⟩ := f8 BK309.out)); try go_wp2_with (first | (go_at_call 48; (with_reducible refine (prebendref19_Good.calls k1 ((rd_T50 l0_6 x3_1).f0) ((rd_T50 l0_6 x3_1).f1) ((rd_T50 l0_6 x3_1).f2) ((rd_T50 l0_6 x3_1).f3) ((rd_T50 l0_6 x3_1).f4) ((rd_T50 l0_6 x3_1).f5) ((rd_T50 l0_6 x3_1).f6) ((rd_T50 l0_6 x3_1).f7) ((rd_T50 l0_6 x3_1).f8) ((rd_T50 l0_6 x3_1).f9) ((rd_T50 l0_6 x3_1).f10) _ _ ((rd_T50 l0_6 x3_1).f11) true _ ?side1 ?side2 A10.out).mono ?_); (case side1 => exact Kd.C_below HR310_11.out bx); (case side2 => exact HC310_11.out); rintro e w15 ⟨rfl, hb⟩; replace BK309 := am (blk_below (g := gb309) (o := .cells #[.int .i64 a0_0, .int .i64 a0_1, .int .i64 a0_2, .slice A0_3 l0_3.length c0_3, .slice A0_4 l0_4.length c0_4, .slice A0_5 l0_5.length c0_5, .slice (some ad310) l0_6.length c0_6, .slice A0_7 l0_7.length c0_7] 28 (0, 0)) (by (iterate 12 ((with_reducible repeat first | apply kn | apply kd | apply ka); refine blk_far ?_ NB309_311.out _)); (with_reducible repeat first | apply kn | apply kd | apply ka); exact BK309.out) hb); replace BK311 := am (blk_below (g := gb311) (o := .cells #[.int .i64 ((rd_T50 l0_6 x3_1).f0), .int .i64 ((rd_T50 l0_6 x3_1).f1), .int .i64 ((rd_T50 l0_6 x3_1).f2), .int .i64 ((rd_T50 l0_6 x3_1).f3), .int .i64 ((rd_T50 l0_6 x3_1).f4), .int .i64 ((rd_T50 l0_6 x3_1).f5), .int .i64 ((rd_T50 l0_6 x3_1).f6), .int .i64 ((rd_T50 l0_6 x3_1).f7), .int .i64 ((rd_T50 l0_6 x3_1).f8), .int .i64 ((rd_T50 l0_6 x3_1).f9), .int .i64 ((rd_T50 l0_6 x3_1).f10), .slice A310_11 ((rd_T50 l0_6 x3_1).f11).length c310_11] 50 (0, 0)) (by (with_reducible repeat first | apply kn | apply kd | apply ka); refine bp (.slice none 0 0) rfl ?_; (iterate 11 (simp only [List.set]; (with_reducible repeat first | apply kn | apply kd | apply ka); refine bp (.int .i64 0) rfl ?_)); simp only [List.set]; (with_reducible repeat first | apply kn | apply kd | apply ka); exact BK311.out) hb); replace HB := am (below_step bx hb); (try clear hb); (try clear hb2); (try clear hk); (try clear hi); obtain ⟨_, _, _, _, _, _, _, _, _, _, _, _⟩ := c12 BK311.out; obtain ⟨_, _, _, _, _, _, _, _, _, _, _, _⟩ := f12 BK311.out; obtain ⟨_, _, _, _, _, _, _, _⟩ := c8 BK309.out; obtain ⟨_, _, _, _, _, _, _, _⟩ := f8 BK309.out)))
        go_meet
        case rel => exact ⟨_, (true), sx, H', ⟨by have := HK1.out; first | omega | exact Nat.le_refl _⟩, ⟨BK309.out⟩, ⟨BK311.out⟩, ⟨HB.out⟩⟩
       ·rw [if_neg c12] at H
        have c12b0 := decide_eq_false c12; clear c12
        (first | rw [c12b0] | (simp only [i64_w, i32_w]; rw [c12b0]) | skip)
        have H' := am H; clear H; have hnb18 := NB311_309.out; have hnc18 := NB309_311.out; obtain ⟨_, _, _, _, _, _, _, _, _, _, _, _⟩ := c12 BK311.out; go_wp2_with (first | (go_at_call 48; (with_reducible refine (prebendref19_Good.calls k1 ((rd_T50 l0_6 x3_1).f0) ((rd_T50 l0_6 x3_1).f1) ((rd_T50 l0_6 x3_1).f2) ((rd_T50 l0_6 x3_1).f3) ((rd_T50 l0_6 x3_1).f4) ((rd_T50 l0_6 x3_1).f5) ((rd_T50 l0_6 x3_1).f6) ((rd_T50 l0_6 x3_1).f7) ((rd_T50 l0_6 x3_1).f8) ((rd_T50 l0_6 x3_1).f9) ((rd_T50 l0_6 x3_1).f10) _ _ ((rd_T50 l0_6 x3_1).f11) true _ ?side1 ?side2 A10.out).mono ?_); (case side1 => exact Kd.C_below HR310_11.out bx); (case side2 => exact HC310_11.out); rintro e w20 ⟨rfl, hb⟩; replace BK309 := am (blk_below (g := gb309) (o := .cells #[.int .i64 a0_0, .int .i64 a0_1, .int .i64 a0_2, .slice A0_3 l0_3.length c0_3, .slice A0_4 l0_4.length c0_4, .slice A0_5 l0_5.length c0_5, .slice (some ad310) l0_6.length c0_6, .slice A0_7 l0_7.length c0_7] 28 (0, 0)) (by (iterate 12 ((with_reducible repeat first | apply kn | apply kd | apply ka); refine blk_far ?_ NB309_311.out _)); (with_reducible repeat first | apply kn | apply kd | apply ka); exact BK309.out) hb); replace BK311 := am (blk_below (g := gb311) (o := .cells #[.int .i64 ((rd_T50 l0_6 x3_1).f0), .int .i64 ((rd_T50 l0_6 x3_1).f1), .int .i64 ((rd_T50 l0_6 x3_1).f2), .int .i64 ((rd_T50 l0_6 x3_1).f3), .int .i64 ((rd_T50 l0_6 x3_1).f4), .int .i64 ((rd_T50 l0_6 x3_1).f5), .int .i64 ((rd_T50 l0_6 x3_1).f6), .int .i64 ((rd_T50 l0_6 x3_1).f7), .int .i64 ((rd_T50 l0_6 x3_1).f8), .int .i64 ((rd_T50 l0_6 x3_1).f9), .int .i64 ((rd_T50 l0_6 x3_1).f10), .slice A310_11 ((rd_T50 l0_6 x3_1).f11).length c310_11] 50 (0, 0)) (by (with_reducible repeat first | apply kn | apply kd | apply ka); refine bp (.slice none 0 0) rfl ?_; (iterate 11 (simp only [List.set]; (with_reducible repeat first | apply kn | apply kd | apply ka); refine bp (.int .i64 0) rfl ?_)); simp only [List.set]; (with_reducible repeat first | apply kn | apply kd | apply ka); exact BK311.out) hb); replace HB := am (below_step bx hb); (try clear hb); (try clear hb2); (try clear hk); (try clear hi); obtain ⟨_, _, _, _, _, _, _, _, _, _, _, _⟩ := c12 BK311.out; obtain ⟨_, _, _, _, _, _, _, _, _, _, _, _⟩ := f12 BK311.out; obtain ⟨_, _, _, _, _, _, _, _⟩ := c8 BK309.out; obtain ⟨_, _, _, _, _, _, _, _⟩ := f8 BK309.out))
        repeat (go_quiet (first | (go_at_call 48; (with_reducible refine (prebendref19_Good.calls k1 ((rd_T50 l0_6 x3_1).f0) ((rd_T50 l0_6 x3_1).f1) ((rd_T50 l0_6 x3_1).f2) ((rd_T50 l0_6 x3_1).f3) ((rd_T50 l0_6 x3_1).f4) ((rd_T50 l0_6 x3_1).f5) ((rd_T50 l0_6 x3_1).f6) ((rd_T50 l0_6 x3_1).f7) ((rd_T50 l0_6 x3_1).f8) ((rd_T50 l0_6 x3_1).f9) ((rd_T50 l0_6 x3_1).f10) _ _ ((rd_T50 l0_6 x3_1).f11) true _ ?side1 ?side2 A10.out).mono ?_); (case side1 => exact Kd.C_below HR310_11.out HB.out); (case side2 => exact HC310_11.out); rintro e w20 ⟨rfl, hb⟩; replace BK309 := am (blk_below (g := gb309) (o := .cells #[.int .i64 a0_0, .int .i64 a0_1, .int .i64 a0_2, .slice A0_3 l0_3.length c0_3, .slice A0_4 l0_4.length c0_4, .slice A0_5 l0_5.length c0_5, .slice (some ad310) l0_6.length c0_6, .slice A0_7 l0_7.length c0_7] 28 (0, 0)) (by (iterate 12 ((with_reducible repeat first | apply kn | apply kd | apply ka); refine blk_far ?_ NB309_311.out _)); (with_reducible repeat first | apply kn | apply kd | apply ka); exact BK309.out) hb); replace BK311 := am (blk_below (g := gb311) (o := .cells #[.int .i64 ((rd_T50 l0_6 x3_1).f0), .int .i64 ((rd_T50 l0_6 x3_1).f1), .int .i64 ((rd_T50 l0_6 x3_1).f2), .int .i64 ((rd_T50 l0_6 x3_1).f3), .int .i64 ((rd_T50 l0_6 x3_1).f4), .int .i64 ((rd_T50 l0_6 x3_1).f5), .int .i64 ((rd_T50 l0_6 x3_1).f6), .int .i64 ((rd_T50 l0_6 x3_1).f7), .int .i64 ((rd_T50 l0_6 x3_1).f8), .int .i64 ((rd_T50 l0_6 x3_1).f9), .int .i64 ((rd_T50 l0_6 x3_1).f10), .slice A310_11 ((rd_T50 l0_6 x3_1).f11).length c310_11] 50 (0, 0)) (by (with_reducible repeat first | apply kn | apply kd | apply ka); refine bp (.slice none 0 0) rfl ?_; (iterate 11 (simp only [List.set]; (with_reducible repeat first | apply kn | apply kd | apply ka); refine bp (.int .i64 0) rfl ?_)); simp only [List.set]; (with_reducible repeat first | apply kn | apply kd | apply ka); exact BK311.out) hb); replace HB := am (below_step HB.out hb); (try clear hb); (try clear hb2); (try clear hk); (try clear hi); obtain ⟨_, _, _, _, _, _, _, _, _, _, _, _⟩ := c12 BK311.out; obtain ⟨_, _, _, _, _, _, _, _, _, _, _, _⟩ := f12 BK311.out; obtain ⟨_, _, _, _, _, _, _, _⟩ := c8 BK309.out; obtain ⟨_, _, _, _, _, _, _, _⟩ := f8 BK309.out)); try go_wp2_with (first | (go_at_call 48; (with_reducible refine (prebendref19_Good.calls k1 ((rd_T50 l0_6 x3_1).f0) ((rd_T50 l0_6 x3_1).f1) ((rd_T50 l0_6 x3_1).f2) ((rd_T50 l0_6 x3_1).f3) ((rd_T50 l0_6 x3_1).f4) ((rd_T50 l0_6 x3_1).f5) ((rd_T50 l0_6 x3_1).f6) ((rd_T50 l0_6 x3_1).f7) ((rd_T50 l0_6 x3_1).f8) ((rd_T50 l0_6 x3_1).f9) ((rd_T50 l0_6 x3_1).f10) _ _ ((rd_T50 l0_6 x3_1).f11) true _ ?side1 ?side2 A10.out).mono ?_); (case side1 => exact Kd.C_below HR310_11.out HB.out); (case side2 => exact HC310_11.out); rintro e w20 ⟨rfl, hb⟩; replace BK309 := am (blk_below (g := gb309) (o := .cells #[.int .i64 a0_0, .int .i64 a0_1, .int .i64 a0_2, .slice A0_3 l0_3.length c0_3, .slice A0_4 l0_4.length c0_4, .slice A0_5 l0_5.length c0_5, .slice (some ad310) l0_6.length c0_6, .slice A0_7 l0_7.length c0_7] 28 (0, 0)) (by (iterate 12 ((with_reducible repeat first | apply kn | apply kd | apply ka); refine blk_far ?_ NB309_311.out _)); (with_reducible repeat first | apply kn | apply kd | apply ka); exact BK309.out) hb); replace BK311 := am (blk_below (g := gb311) (o := .cells #[.int .i64 ((rd_T50 l0_6 x3_1).f0), .int .i64 ((rd_T50 l0_6 x3_1).f1), .int .i64 ((rd_T50 l0_6 x3_1).f2), .int .i64 ((rd_T50 l0_6 x3_1).f3), .int .i64 ((rd_T50 l0_6 x3_1).f4), .int .i64 ((rd_T50 l0_6 x3_1).f5), .int .i64 ((rd_T50 l0_6 x3_1).f6), .int .i64 ((rd_T50 l0_6 x3_1).f7), .int .i64 ((rd_T50 l0_6 x3_1).f8), .int .i64 ((rd_T50 l0_6 x3_1).f9), .int .i64 ((rd_T50 l0_6 x3_1).f10), .slice A310_11 ((rd_T50 l0_6 x3_1).f11).length c310_11] 50 (0, 0)) (by (with_reducible repeat first | apply kn | apply kd | apply ka); refine bp (.slice none 0 0) rfl ?_; (iterate 11 (simp only [List.set]; (with_reducible repeat first | apply kn | apply kd | apply ka); refine bp (.int .i64 0) rfl ?_)); simp only [List.set]; (with_reducible repeat first | apply kn | apply kd | apply ka); exact BK311.out) hb); replace HB := am (below_step HB.out hb); (try clear hb); (try clear hb2); (try clear hk); (try clear hi); obtain ⟨_, _, _, _, _, _, _, _, _, _, _, _⟩ := c12 BK311.out; obtain ⟨_, _, _, _, _, _, _, _, _, _, _, _⟩ := f12 BK311.out; obtain ⟨_, _, _, _, _, _, _, _⟩ := c8 BK309.out; obtain ⟨_, _, _, _, _, _, _, _⟩ := f8 BK309.out)))
        go_meet
        case rel => exact ⟨_, (decide (((rd_T50 l0_6 x3_1).f0) ≥ a0_2)), sx, H', ⟨by have := HK1.out; first | omega | exact Nat.le_refl _⟩, ⟨BK309.out⟩, ⟨BK311.out⟩, ⟨HB.out⟩⟩
      ·replace c11 := Bool.eq_false_iff.mpr c11
       subst c11; rw [if_neg (show ¬ (false = true) by decide)] at H; have H' := am H; clear H; have hnb23 := NB311_309.out; have hnc23 := NB309_311.out; obtain ⟨_, _, _, _, _, _, _, _, _, _, _, _⟩ := c12 BK311.out; go_wp2_with (first | (go_at_call 48; (with_reducible refine (prebendref19_Good.calls k1 ((rd_T50 l0_6 x3_1).f0) ((rd_T50 l0_6 x3_1).f1) ((rd_T50 l0_6 x3_1).f2) ((rd_T50 l0_6 x3_1).f3) ((rd_T50 l0_6 x3_1).f4) ((rd_T50 l0_6 x3_1).f5) ((rd_T50 l0_6 x3_1).f6) ((rd_T50 l0_6 x3_1).f7) ((rd_T50 l0_6 x3_1).f8) ((rd_T50 l0_6 x3_1).f9) ((rd_T50 l0_6 x3_1).f10) _ _ ((rd_T50 l0_6 x3_1).f11) false _ ?side1 ?side2 A10.out).mono ?_); (case side1 => exact Kd.C_below HR310_11.out bx); (case side2 => exact HC310_11.out); rintro e w25 ⟨rfl, hb⟩; replace BK309 := am (blk_below (g := gb309) (o := .cells #[.int .i64 a0_0, .int .i64 a0_1, .int .i64 a0_2, .slice A0_3 l0_3.length c0_3, .slice A0_4 l0_4.length c0_4, .slice A0_5 l0_5.length c0_5, .slice (some ad310) l0_6.length c0_6, .slice A0_7 l0_7.length c0_7] 28 (0, 0)) (by (iterate 12 ((with_reducible repeat first | apply kn | apply kd | apply ka); refine blk_far ?_ NB309_311.out _)); (with_reducible repeat first | apply kn | apply kd | apply ka); exact BK309.out) hb); replace BK311 := am (blk_below (g := gb311) (o := .cells #[.int .i64 ((rd_T50 l0_6 x3_1).f0), .int .i64 ((rd_T50 l0_6 x3_1).f1), .int .i64 ((rd_T50 l0_6 x3_1).f2), .int .i64 ((rd_T50 l0_6 x3_1).f3), .int .i64 ((rd_T50 l0_6 x3_1).f4), .int .i64 ((rd_T50 l0_6 x3_1).f5), .int .i64 ((rd_T50 l0_6 x3_1).f6), .int .i64 ((rd_T50 l0_6 x3_1).f7), .int .i64 ((rd_T50 l0_6 x3_1).f8), .int .i64 ((rd_T50 l0_6 x3_1).f9), .int .i64 ((rd_T50 l0_6 x3_1).f10), .slice A310_11 ((rd_T50 l0_6 x3_1).f11).length c310_11] 50 (0, 0)) (by (with_reducible repeat first | apply kn | apply kd | apply ka); refine bp (.slice none 0 0) rfl ?_; (iterate 11 (simp only [List.set]; (with_reducible repeat first | apply kn | apply kd | apply ka); refine bp (.int .i64 0) rfl ?_)); simp only [List.set]; (with_reducible repeat first | apply kn | apply kd | apply ka); exact BK311.out) hb); replace HB := am (below_step bx hb); (try clear hb); (try clear hb2); (try clear hk); (try clear hi)))
       repeat (go_quiet (first | (go_at_call 48; (with_reducible refine (prebendref19_Good.calls k1 ((rd_T50 l0_6 x3_1).f0) ((rd_T50 l0_6 x3_1).f1) ((rd_T50 l0_6 x3_1).f2) ((rd_T50 l0_6 x3_1).f3) ((rd_T50 l0_6 x3_1).f4) ((rd_T50 l0_6 x3_1).f5) ((rd_T50 l0_6 x3_1).f6) ((rd_T50 l0_6 x3_1).f7) ((rd_T50 l0_6 x3_1).f8) ((rd_T50 l0_6 x3_1).f9) ((rd_T50 l0_6 x3_1).f10) _ _ ((rd_T50 l0_6 x3_1).f11) false _ ?side1 ?side2 A10.out).mono ?_); (case side1 => exact Kd.C_below HR310_11.out HB.out); (case side2 => exact HC310_11.out); rintro e w25 ⟨rfl, hb⟩; replace BK309 := am (blk_below (g := gb309) (o := .cells #[.int .i64 a0_0, .int .i64 a0_1, .int .i64 a0_2, .slice A0_3 l0_3.length c0_3, .slice A0_4 l0_4.length c0_4, .slice A0_5 l0_5.length c0_5, .slice (some ad310) l0_6.length c0_6, .slice A0_7 l0_7.length c0_7] 28 (0, 0)) (by (iterate 12 ((with_reducible repeat first | apply kn | apply kd | apply ka); refine blk_far ?_ NB309_311.out _)); (with_reducible repeat first | apply kn | apply kd | apply ka); exact BK309.out) hb); replace BK311 := am (blk_below (g := gb311) (o := .cells #[.int .i64 ((rd_T50 l0_6 x3_1).f0), .int .i64 ((rd_T50 l0_6 x3_1).f1), .int .i64 ((rd_T50 l0_6 x3_1).f2), .int .i64 ((rd_T50 l0_6 x3_1).f3), .int .i64 ((rd_T50 l0_6 x3_1).f4), .int .i64 ((rd_T50 l0_6 x3_1).f5), .int .i64 ((rd_T50 l0_6 x3_1).f6), .int .i64 ((rd_T50 l0_6 x3_1).f7), .int .i64 ((rd_T50 l0_6 x3_1).f8), .int .i64 ((rd_T50 l0_6 x3_1).f9), .int .i64 ((rd_T50 l0_6 x3_1).f10), .slice A310_11 ((rd_T50 l0_6 x3_1).f11).length c310_11] 50 (0, 0)) (by (with_reducible repeat first | apply kn | apply kd | apply ka); refine bp (.slice none 0 0) rfl ?_; (iterate 11 (simp only [List.set]; (with_reducible repeat first | apply kn | apply kd | apply ka); refine bp (.int .i64 0) rfl ?_)); simp only [List.set]; (with_reducible repeat first | apply kn | apply kd | apply ka); exact BK311.out) hb); replace HB := am (below_step HB.out hb); (try clear hb); (try clear hb2); (try clear hk); (try clear hi))); try go_wp2_with (first | (go_at_call 48; (with_reducible refine (prebendref19_Good.calls k1 ((rd_T50 l0_6 x3_1).f0) ((rd_T50 l0_6 x3_1).f1) ((rd_T50 l0_6 x3_1).f2) ((rd_T50 l0_6 x3_1).f3) ((rd_T50 l0_6 x3_1).f4) ((rd_T50 l0_6 x3_1).f5) ((rd_T50 l0_6 x3_1).f6) ((rd_T50 l0_6 x3_1).f7) ((rd_T50 l0_6 x3_1).f8) ((rd_T50 l0_6 x3_1).f9) ((rd_T50 l0_6 x3_1).f10) _ _ ((rd_T50 l0_6 x3_1).f11) false _ ?side1 ?side2 A10.out).mono ?_); (case side1 => exact Kd.C_below HR310_11.out HB.out); (case side2 => exact HC310_11.out); rintro e w25 ⟨rfl, hb⟩; replace BK309 := am (blk_below (g := gb309) (o := .cells #[.int .i64 a0_0, .int .i64 a0_1, .int .i64 a0_2, .slice A0_3 l0_3.length c0_3, .slice A0_4 l0_4.length c0_4, .slice A0_5 l0_5.length c0_5, .slice (some ad310) l0_6.length c0_6, .slice A0_7 l0_7.length c0_7] 28 (0, 0)) (by (iterate 12 ((with_reducible repeat first | apply kn | apply kd | apply ka); refine blk_far ?_ NB309_311.out _)); (with_reducible repeat first | apply kn | apply kd | apply ka); exact BK309.out) hb); replace BK311 := am (blk_below (g := gb311) (o := .cells #[.int .i64 ((rd_T50 l0_6 x3_1).f0), .int .i64 ((rd_T50 l0_6 x3_1).f1), .int .i64 ((rd_T50 l0_6 x3_1).f2), .int .i64 ((rd_T50 l0_6 x3_1).f3), .int .i64 ((rd_T50 l0_6 x3_1).f4), .int .i64 ((rd_T50 l0_6 x3_1).f5), .int .i64 ((rd_T50 l0_6 x3_1).f6), .int .i64 ((rd_T50 l0_6 x3_1).f7), .int .i64 ((rd_T50 l0_6 x3_1).f8), .int .i64 ((rd_T50 l0_6 x3_1).f9), .int .i64 ((rd_T50 l0_6 x3_1).f10), .slice A310_11 ((rd_T50 l0_6 x3_1).f11).length c310_11] 50 (0, 0)) (by (with_reducible repeat first | apply kn | apply kd | apply ka); refine bp (.slice none 0 0) rfl ?_; (iterate 11 (simp only [List.set]; (with_reducible repeat first | apply kn | apply kd | apply ka); refine bp (.int .i64 0) rfl ?_)); simp only [List.set]; (with_reducible repeat first | apply kn | apply kd | apply ka); exact BK311.out) hb); replace HB := am (below_step HB.out hb); (try clear hb); (try clear hb2); (try clear hk); (try clear hi))))
       go_meet
       case rel => exact ⟨_, (true), sx, H', ⟨by have := HK1.out; first | omega | exact Nat.le_refl _⟩, ⟨BK309.out⟩, ⟨BK311.out⟩, ⟨HB.out⟩⟩
     case rest =>
      clear HC5
      try clear c3
      try clear c3b0
      try clear c4
      try clear c4b0
      try clear _ _ _ _ _ _ _ _
      try clear _ _ _ _ _ _ _ _ _ _ _ _
      try clear hx310_0
      try clear hx310_1
      try clear hx310_10
      try clear hx310_11
      try clear hx310_2
      try clear hx310_3
      try clear hx310_4
      try clear hx310_5
      try clear hx310_6
      try clear hx310_7
      try clear hx310_8
      try clear hx310_9
      try clear p310
      try clear q310
      obtain ⟨kq, x36_4, rfl, HA, HJ4, BK309, BK311, HB⟩ := hcut
      cases kq with
      | zero => exact absurd HA.out (by simp [prebendref25_jobs.j1])
      | succ kj4 =>
       have H := HA.out; clear HA; simp only [prebendref25_jobs.j1] at H
       by_cases c26 : x36_4 = true
       ·subst c26
        rw [if_pos rfl] at H; obtain rfl := Option.some.inj H; go_wp2
        repeat (go_quiet (fail); try go_wp2)
        go_ret; exact ⟨by first | rfl | (simp [*, errW_none, errW_some] <;> rfl), HB.out⟩
       ·replace c26 := Bool.eq_false_iff.mpr c26
        subst c26
        rw [if_neg (show ¬ (false = true) by decide)] at H
        have H' := am H
        clear H
        go_wp2
        repeat (go_quiet (fail); try go_wp2)
        go_loopg [5] kj4 (fun kq v5 w' => ∃ (x5_3 : Int), v5 = .int .i64 x5_3 ∧ Aside0 (prebendref25_jobs.l1 kq x3_1 x5_3 a0_0 a0_1 a0_2 l0_3 l0_4 l0_5 l0_6 l0_7 ((rd_T50 l0_6 x3_1).f0) ((rd_T50 l0_6 x3_1).f1) ((rd_T50 l0_6 x3_1).f2) ((rd_T50 l0_6 x3_1).f3) ((rd_T50 l0_6 x3_1).f4) ((rd_T50 l0_6 x3_1).f5) ((rd_T50 l0_6 x3_1).f6) ((rd_T50 l0_6 x3_1).f7) ((rd_T50 l0_6 x3_1).f8) ((rd_T50 l0_6 x3_1).f9) ((rd_T50 l0_6 x3_1).f10) ((rd_T50 l0_6 x3_1).f11) = some r) ∧ Aside0 (kq ≤ kj4) ∧ Aside0 (w'.heap[gb309]? = some (.cells #[.int .i64 a0_0, .int .i64 a0_1, .int .i64 a0_2, (.slice A0_3 l0_3.length c0_3), (.slice A0_4 l0_4.length c0_4), (.slice A0_5 l0_5.length c0_5), (.slice (some ad310) l0_6.length c0_6), (.slice A0_7 l0_7.length c0_7)] 28 (0, 0))) ∧ Aside0 (w'.heap[gb311]? = some (.cells #[.int .i64 ((rd_T50 l0_6 x3_1).f0), .int .i64 ((rd_T50 l0_6 x3_1).f1), .int .i64 ((rd_T50 l0_6 x3_1).f2), .int .i64 ((rd_T50 l0_6 x3_1).f3), .int .i64 ((rd_T50 l0_6 x3_1).f4), .int .i64 ((rd_T50 l0_6 x3_1).f5), .int .i64 ((rd_T50 l0_6 x3_1).f6), .int .i64 ((rd_T50 l0_6 x3_1).f7), .int .i64 ((rd_T50 l0_6 x3_1).f8), .int .i64 ((rd_T50 l0_6 x3_1).f9), .int .i64 ((rd_T50 l0_6 x3_1).f10), (.slice A310_11 ((rd_T50 l0_6 x3_1).f11).length c310_11)] 50 (0, 0))) ∧ Aside0 (Below w.heap.size w w'))
        case atStart => exact ⟨(0), sx, H', ⟨Nat.le_refl _⟩, ⟨BK309.out⟩, ⟨BK311.out⟩, ⟨HB.out⟩⟩
        case round =>
         clear H'
         try clear c3
         try clear c3b0
         try clear c4
         try clear c4b0
         try clear c26
         try clear _ _ _ _ _ _ _ _
         try clear _ _ _ _ _ _ _ _ _ _ _ _
         try clear hx310_0
         try clear hx310_1
         try clear hx310_10
         try clear hx310_11
         try clear hx310_2
         try clear hx310_3
         try clear hx310_4
         try clear hx310_5
         try clear hx310_6
         try clear hx310_7
         try clear hx310_8
         try clear hx310_9
         try clear p310
         try clear q310
         obtain ⟨x5_3, rfl, HA, HK3, BK309, BK311, HB⟩ := hrel
         cases gk with
         | zero => exact absurd HA.out (by simp [prebendref25_jobs.l1])
         | succ k3 =>
          have H := HA.out
          clear HA
          simp only [prebendref25_jobs.l1] at H
          by_cases c27 : x5_3 < x3_1
          ·rw [if_pos c27] at H
           have c27b0 := decide_eq_true c27; clear c27
           by_cases c28 : 0 ≤ x5_3
           ·rw [if_pos c28] at H
            have c28b0 := decide_eq_true c28; clear c28
            by_cases c29 : x5_3 < (l0_6.length : Int)
            ·rw [if_pos c29] at H
             have c29b0 := decide_eq_true c29; clear c29
             by_cases c30 : ((rd_T50 l0_6 x5_3).f0) = ((rd_T50 l0_6 x3_1).f0)
             ·rw [if_pos c30] at H
              have c30b0 := beq_iff_eq.mpr c30; have c30b1 := bne_eq_false_iff_eq.mpr c30; clear c30; obtain rfl := Option.some.inj H; have hnb31 := NB309_311.out; have hnc31 := NB311_309.out; obtain ⟨_, _, _, _, _, _, _, _⟩ := c8 BK309.out; have p313 : 0 ≤ (x5_3 : Int) := of_decide_eq_true (by assumption); have q313 : x5_3 < (l0_6.length : Int) := of_decide_eq_true (by assumption); obtain ⟨ad313, A313_11, c313_11, e313, hx313_0, hx313_1, hx313_2, hx313_3, hx313_4, hx313_5, hx313_6, hx313_7, hx313_8, hx313_9, hx313_10, hx313_11, hl313_11, hi313_11⟩ := at_T50 HR0_6.out x5_3 p313 q313; obtain rfl : ad310 = ad313 := (by injection e313); replace hx313_0 := cb HB.out hx313_0; replace hx313_1 := cb HB.out hx313_1; replace hx313_2 := cb HB.out hx313_2; replace hx313_3 := cb HB.out hx313_3; replace hx313_4 := cb HB.out hx313_4; replace hx313_5 := cb HB.out hx313_5; replace hx313_6 := cb HB.out hx313_6; replace hx313_7 := cb HB.out hx313_7; replace hx313_8 := cb HB.out hx313_8; replace hx313_9 := cb HB.out hx313_9; replace hx313_10 := cb HB.out hx313_10; replace hx313_11 := cb HB.out hx313_11; have HR313_11 := am hi313_11; have HC313_11 := am hl313_11; clear hi313_11 hl313_11; replace p313 := eq_true p313; replace q313 := eq_true q313; obtain ⟨_, _, _, _, _, _, _, _, _, _, _, _⟩ := c12 BK311.out; go_wp2
              repeat (go_quiet (fail); try go_wp2)
              go_ret; exact ⟨by first | rfl | (simp [*, errW_none, errW_some] <;> rfl), bx⟩
             ·rw [if_neg c30] at H
              have c30b0 := beq_eq_false_iff_ne.mpr c30
              have c30b1 := bne_iff_ne.mpr c30
              have H' := am H
              clear H
              have hnb34 := NB309_311.out
              have hnc34 := NB311_309.out
              obtain ⟨_, _, _, _, _, _, _, _⟩ := c8 BK309.out
              have p313 : 0 ≤ (x5_3 : Int) := of_decide_eq_true (by assumption)
              have q313 : x5_3 < (l0_6.length : Int) := of_decide_eq_true (by assumption)
              obtain ⟨ad313, A313_11, c313_11, e313, hx313_0, hx313_1, hx313_2, hx313_3, hx313_4, hx313_5, hx313_6, hx313_7, hx313_8, hx313_9, hx313_10, hx313_11, hl313_11, hi313_11⟩ := at_T50 HR0_6.out x5_3 p313 q313
              obtain rfl : ad310 = ad313 := (by injection e313)
              replace hx313_0 := cb HB.out hx313_0
              replace hx313_1 := cb HB.out hx313_1
              replace hx313_2 := cb HB.out hx313_2
              replace hx313_3 := cb HB.out hx313_3
              replace hx313_4 := cb HB.out hx313_4
              replace hx313_5 := cb HB.out hx313_5
              replace hx313_6 := cb HB.out hx313_6
              replace hx313_7 := cb HB.out hx313_7
              replace hx313_8 := cb HB.out hx313_8
              replace hx313_9 := cb HB.out hx313_9
              replace hx313_10 := cb HB.out hx313_10
              replace hx313_11 := cb HB.out hx313_11
              have HR313_11 := am hi313_11
              have HC313_11 := am hl313_11
              clear hi313_11 hl313_11
              replace p313 := eq_true p313
              replace q313 := eq_true q313
              obtain ⟨_, _, _, _, _, _, _, _, _, _, _, _⟩ := c12 BK311.out
              go_wp2
              repeat (go_quiet (fail); try go_wp2)
              go_roundg k3
              case measure => have := HK1.out; have := HJ4.out; have := HK3.out; omega
              case rel => exact ⟨(wrap64 (x5_3 + 1)), sx, H', ⟨by have := HK1.out; have := HJ4.out; have := HK3.out; omega⟩, ⟨BK309.out⟩, ⟨BK311.out⟩, ⟨bx⟩⟩
            ·rw [if_neg c29] at H
             exact absurd H (by simp)
           ·rw [if_neg c28] at H
            exact absurd H (by simp)
          ·rw [if_neg c27] at H
           have c27b0 := decide_eq_false c27
           clear c27
           have H' := am H
           clear H
           go_wp2
           repeat (go_quiet (fail); try go_wp2)
           go_loopg [6] k3 (fun kq v6 w' => ∃ (x6_4 : Int), v6 = .int .i64 x6_4 ∧ Aside0 (prebendref25_jobs.l2 kq x3_1 x6_4 a0_0 a0_1 a0_2 l0_3 l0_4 l0_5 l0_6 l0_7 ((rd_T50 l0_6 x3_1).f0) ((rd_T50 l0_6 x3_1).f1) ((rd_T50 l0_6 x3_1).f2) ((rd_T50 l0_6 x3_1).f3) ((rd_T50 l0_6 x3_1).f4) ((rd_T50 l0_6 x3_1).f5) ((rd_T50 l0_6 x3_1).f6) ((rd_T50 l0_6 x3_1).f7) ((rd_T50 l0_6 x3_1).f8) ((rd_T50 l0_6 x3_1).f9) ((rd_T50 l0_6 x3_1).f10) ((rd_T50 l0_6 x3_1).f11) = some r) ∧ Aside0 (kq ≤ k3) ∧ Aside0 (w'.heap[gb309]? = some (.cells #[.int .i64 a0_0, .int .i64 a0_1, .int .i64 a0_2, (.slice A0_3 l0_3.length c0_3), (.slice A0_4 l0_4.length c0_4), (.slice A0_5 l0_5.length c0_5), (.slice (some ad310) l0_6.length c0_6), (.slice A0_7 l0_7.length c0_7)] 28 (0, 0))) ∧ Aside0 (w'.heap[gb311]? = some (.cells #[.int .i64 ((rd_T50 l0_6 x3_1).f0), .int .i64 ((rd_T50 l0_6 x3_1).f1), .int .i64 ((rd_T50 l0_6 x3_1).f2), .int .i64 ((rd_T50 l0_6 x3_1).f3), .int .i64 ((rd_T50 l0_6 x3_1).f4), .int .i64 ((rd_T50 l0_6 x3_1).f5), .int .i64 ((rd_T50 l0_6 x3_1).f6), .int .i64 ((rd_T50 l0_6 x3_1).f7), .int .i64 ((rd_T50 l0_6 x3_1).f8), .int .i64 ((rd_T50 l0_6 x3_1).f9), .int .i64 ((rd_T50 l0_6 x3_1).f10), (.slice A310_11 ((rd_T50 l0_6 x3_1).f11).length c310_11)] 50 (0, 0))) ∧ Aside0 (Below w.heap.size w w'))
           case atStart => exact ⟨(0), sx, H', ⟨Nat.le_refl _⟩, ⟨BK309.out⟩, ⟨BK311.out⟩, ⟨HB.out⟩⟩
           case round =>
            clear H'
            try clear c3
            try clear c3b0
            try clear c4
            try clear c4b0
            try clear c26
            try clear c27
            try clear c27b0
            try clear _ _ _ _ _ _ _ _
            try clear _ _ _ _ _ _ _ _ _ _ _ _
            try clear hx310_0
            try clear hx310_1
            try clear hx310_10
            try clear hx310_11
            try clear hx310_2
            try clear hx310_3
            try clear hx310_4
            try clear hx310_5
            try clear hx310_6
            try clear hx310_7
            try clear hx310_8
            try clear hx310_9
            try clear p310
            try clear q310
            obtain ⟨x6_4, rfl, HA, HK4, BK309, BK311, HB⟩ := hrel
            cases gk with
            | zero => exact absurd HA.out (by simp [prebendref25_jobs.l2])
            | succ k4 =>
             have H := HA.out
             clear HA
             simp only [prebendref25_jobs.l2] at H
             by_cases c37 : x6_4 < (((rd_T50 l0_6 x3_1).f11).length : Int)
             ·rw [if_pos c37] at H
              have c37b0 := decide_eq_true c37; clear c37
              by_cases c38 : 0 ≤ x6_4
              ·rw [if_pos c38] at H
               have c38b0 := decide_eq_true c38; clear c38
               by_cases c39 : ((rd_T60 ((rd_T50 l0_6 x3_1).f11) x6_4).f0) ≥ (l0_4.length : Int)
               ·rw [if_pos c39] at H
                have c39b0 := decide_eq_true c39; clear c39; obtain rfl := Option.some.inj H; have hnb40 := NB311_309.out; have hnc40 := NB309_311.out; obtain ⟨_, _, _, _, _, _, _, _, _, _, _, _⟩ := c12 BK311.out; have p314 : 0 ≤ (x6_4 : Int) := of_decide_eq_true (by assumption); have q314 : x6_4 < (((rd_T50 l0_6 x3_1).f11).length : Int) := of_decide_eq_true (by assumption); obtain ⟨ad314, e314, hx314_0, hx314_1⟩ := at_T60 HR310_11.out x6_4 p314 q314; cases e314; replace hx314_0 := cb HB.out hx314_0; replace hx314_1 := cb HB.out hx314_1; replace p314 := eq_true p314; replace q314 := eq_true q314; obtain ⟨_, _, _, _, _, _, _, _⟩ := c8 BK309.out; go_wp2
                repeat (go_quiet (fail); try go_wp2)
                go_ret; exact ⟨by first | rfl | (simp [*, errW_none, errW_some] <;> rfl), bx⟩
               ·rw [if_neg c39] at H
                have c39b0 := decide_eq_false c39; clear c39; have H' := am H; clear H; have hnb43 := NB311_309.out; have hnc43 := NB309_311.out; obtain ⟨_, _, _, _, _, _, _, _, _, _, _, _⟩ := c12 BK311.out; have p314 : 0 ≤ (x6_4 : Int) := of_decide_eq_true (by assumption); have q314 : x6_4 < (((rd_T50 l0_6 x3_1).f11).length : Int) := of_decide_eq_true (by assumption); obtain ⟨ad314, e314, hx314_0, hx314_1⟩ := at_T60 HR310_11.out x6_4 p314 q314; cases e314; replace hx314_0 := cb HB.out hx314_0; replace hx314_1 := cb HB.out hx314_1; replace p314 := eq_true p314; replace q314 := eq_true q314; obtain ⟨_, _, _, _, _, _, _, _⟩ := c8 BK309.out; go_wp2
                repeat (go_quiet (fail); try go_wp2)
                go_roundg k4
                case measure => have := HK1.out; have := HJ4.out; have := HK3.out; have := HK4.out; omega
                case rel => exact ⟨(wrap64 (x6_4 + 1)), sx, H', ⟨by have := HK1.out; have := HJ4.out; have := HK3.out; have := HK4.out; omega⟩, ⟨BK309.out⟩, ⟨BK311.out⟩, ⟨bx⟩⟩
              ·rw [if_neg c38] at H
               exact absurd H (by simp)
             ·rw [if_neg c37] at H
              have c37b0 := decide_eq_false c37; clear c37; have H' := am H; clear H; have hnb46 := NB311_309.out; have hnc46 := NB309_311.out; obtain ⟨_, _, _, _, _, _, _, _, _, _, _, _⟩ := c12 BK311.out; go_wp2
              repeat (go_quiet (fail); try go_wp2)
              go_roundg k4
              case measure => have := HK1.out; have := HJ4.out; have := HK3.out; have := HK4.out; omega
              case rel => exact ⟨(wrap64 (x3_1 + 1)), sx, H', ⟨by have := HK1.out; have := HJ4.out; have := HK3.out; have := HK4.out; omega⟩, ⟨BK309.out⟩, ⟨HB.out⟩⟩
    ·rw [if_neg c4] at H
     exact absurd H (by simp)
   ·rw [if_neg c3] at H
    have c3b0 := decide_eq_false c3; clear c3; obtain rfl := Option.some.inj H; obtain ⟨_, _, _, _, _, _, _, _⟩ := c8 BK309.out; go_wp2
    repeat (go_quiet (fail); try go_wp2)
    go_ret; exact ⟨by first | rfl | (simp [*, errW_none, errW_some] <;> rfl), HB.out⟩

end Go.Proofs.Ytijeigiilgapdaa.QSoundTells
