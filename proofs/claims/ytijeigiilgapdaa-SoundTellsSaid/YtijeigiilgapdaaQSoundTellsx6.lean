/- Written by a program of this session (wip/tools/mp.sh): functions as Lean functions, with proofs that the calls come to what they say. Lean checks it. -/
import Derived.Test.YtijeigiilgapdaaQSoundTellsx0
import Derived.Test.YtijeigiilgapdaaXWd
import Derived.Test.YtijeigiilgapdaaQSoundTellsx4
import Derived.Test.YtijeigiilgapdaaQSoundTellsx5
namespace Go.Proofs.Ytijeigiilgapdaa.QSoundTells
open Go.RowKit Go.Proofs.YtijeigiilgapdaaW.PrintWords Go.Proofs.YtijeigiilgapdaaW.PrintLast Go.Proofs.YtijeigiilgapdaaW.PrintMore
attribute [local go_sem] max2_int min2_int max_two min_two max_three min_three max_four min_four   -- for this text's walks alone
set_option linter.unusedVariables false
set_option linter.unusedSimpArgs false

/-! ### sound_jobs: function 15 -/
mutual
def sound_jobs.l0 : Nat → List (S50) → Int → Int → Int → Int → Int → List (S34) → List (S36) → List (S68) → List (S50) → List ByteArray → Option (Bool)
 | 0, _, _, _, _, _, _, _, _, _, _, _ => none
 | k + 1, x12, x13, x14, x150000, x150001, x150002, x150003, x150004, x150005, x150006, x150007 => if x14 < x13 then (if 0 ≤ x14 then (if x14 < (x12.length : Int) then ((job_Good.f k ((rd_T50 x12 x14).f0) ((rd_T50 x12 x14).f1) ((rd_T50 x12 x14).f2) ((rd_T50 x12 x14).f3) ((rd_T50 x12 x14).f4) ((rd_T50 x12 x14).f5) ((rd_T50 x12 x14).f6) ((rd_T50 x12 x14).f7) ((rd_T50 x12 x14).f8) ((rd_T50 x12 x14).f9) ((rd_T50 x12 x14).f10) ((rd_T50 x12 x14).f11)).bind fun t152 => (if t152 = true then (if ((rd_T50 x12 x14).f1) ≥ (x150003.length : Int) then (sound_jobs.j1 k x12 x13 x14 true x150000 x150001 x150002 x150003 x150004 x150005 x150006 x150007 ((rd_T50 x12 x14).f0) ((rd_T50 x12 x14).f1) ((rd_T50 x12 x14).f2) ((rd_T50 x12 x14).f3) ((rd_T50 x12 x14).f4) ((rd_T50 x12 x14).f5) ((rd_T50 x12 x14).f6) ((rd_T50 x12 x14).f7) ((rd_T50 x12 x14).f8) ((rd_T50 x12 x14).f9) ((rd_T50 x12 x14).f10) ((rd_T50 x12 x14).f11)) else (if ((rd_T50 x12 x14).f0) ≥ x150002 then (sound_jobs.j1 k x12 x13 x14 true x150000 x150001 x150002 x150003 x150004 x150005 x150006 x150007 ((rd_T50 x12 x14).f0) ((rd_T50 x12 x14).f1) ((rd_T50 x12 x14).f2) ((rd_T50 x12 x14).f3) ((rd_T50 x12 x14).f4) ((rd_T50 x12 x14).f5) ((rd_T50 x12 x14).f6) ((rd_T50 x12 x14).f7) ((rd_T50 x12 x14).f8) ((rd_T50 x12 x14).f9) ((rd_T50 x12 x14).f10) ((rd_T50 x12 x14).f11)) else ((job_Find.f x150006 ((rd_T50 x12 x14).f0)).bind fun t153 => (sound_jobs.j1 k x12 x13 x14 (t153 != x14) x150000 x150001 x150002 x150003 x150004 x150005 x150006 x150007 ((rd_T50 x12 x14).f0) ((rd_T50 x12 x14).f1) ((rd_T50 x12 x14).f2) ((rd_T50 x12 x14).f3) ((rd_T50 x12 x14).f4) ((rd_T50 x12 x14).f5) ((rd_T50 x12 x14).f6) ((rd_T50 x12 x14).f7) ((rd_T50 x12 x14).f8) ((rd_T50 x12 x14).f9) ((rd_T50 x12 x14).f10) ((rd_T50 x12 x14).f11))))) else (sound_jobs.j1 k x12 x13 x14 true x150000 x150001 x150002 x150003 x150004 x150005 x150006 x150007 ((rd_T50 x12 x14).f0) ((rd_T50 x12 x14).f1) ((rd_T50 x12 x14).f2) ((rd_T50 x12 x14).f3) ((rd_T50 x12 x14).f4) ((rd_T50 x12 x14).f5) ((rd_T50 x12 x14).f6) ((rd_T50 x12 x14).f7) ((rd_T50 x12 x14).f8) ((rd_T50 x12 x14).f9) ((rd_T50 x12 x14).f10) ((rd_T50 x12 x14).f11)))) else (none)) else (none)) else (some true)
def sound_jobs.j1 : Nat → List (S50) → Int → Int → Bool → Int → Int → Int → List (S34) → List (S36) → List (S68) → List (S50) → List ByteArray → Int → Int → Int → Int → Int → Int → Int → Int → Int → Int → Int → List (S60) → Option (Bool)
 | 0, _, _, _, _, _, _, _, _, _, _, _, _, _, _, _, _, _, _, _, _, _, _, _, _ => none
 | k + 1, x12, x13, x14, x45, x150000, x150001, x150002, x150003, x150004, x150005, x150006, x150007, x152000, x152001, x152002, x152003, x152004, x152005, x152006, x152007, x152008, x152009, x152010, x152011 => if x45 = true then (some false) else (sound_jobs.l1 k x12 x13 x14 x152011 (x152011.length : Int) 0 x150000 x150001 x150002 x150003 x150004 x150005 x150006 x150007)
def sound_jobs.l1 : Nat → List (S50) → Int → Int → List (S60) → Int → Int → Int → Int → Int → List (S34) → List (S36) → List (S68) → List (S50) → List ByteArray → Option (Bool)
 | 0, _, _, _, _, _, _, _, _, _, _, _, _, _, _ => none
 | k + 1, x12, x13, x14, x47, x48, x49, x150000, x150001, x150002, x150003, x150004, x150005, x150006, x150007 => if x49 < x48 then (if 0 ≤ x49 then (if x49 < (x47.length : Int) then (if ((rd_T60 x47 x49).f0) ≥ (x150004.length : Int) then (some false) else (sound_jobs.l1 k x12 x13 x14 x47 x48 (wrap64 (x49 + 1)) x150000 x150001 x150002 x150003 x150004 x150005 x150006 x150007)) else (none)) else (none)) else (sound_jobs.l0 k x12 x13 (wrap64 (x14 + 1)) x150000 x150001 x150002 x150003 x150004 x150005 x150006 x150007)
end
def sound_jobs.f (k : Nat) (a0_0 : Int) (a0_1 : Int) (a0_2 : Int) (l0_3 : List (S34)) (l0_4 : List (S36)) (l0_5 : List (S68)) (l0_6 : List (S50)) (l0_7 : List ByteArray) : Option (Bool) := if (l0_6.length : Int) > 16 then (some false) else (sound_jobs.l0 k l0_6 (l0_6.length : Int) 0 a0_0 a0_1 a0_2 l0_3 l0_4 l0_5 l0_6 l0_7)
theorem sound_jobs.mono_l : ∀ k, (∀ y0 y1 y2 y3 y4 y5 y6 y7 y8 y9 y10, LeO (sound_jobs.l0 k y0 y1 y2 y3 y4 y5 y6 y7 y8 y9 y10) (sound_jobs.l0 (k + 1) y0 y1 y2 y3 y4 y5 y6 y7 y8 y9 y10)) ∧ (∀ y0 y1 y2 y3 y4 y5 y6 y7 y8 y9 y10 y11 y12 y13 y14 y15 y16 y17 y18 y19 y20 y21 y22 y23, LeO (sound_jobs.j1 k y0 y1 y2 y3 y4 y5 y6 y7 y8 y9 y10 y11 y12 y13 y14 y15 y16 y17 y18 y19 y20 y21 y22 y23) (sound_jobs.j1 (k + 1) y0 y1 y2 y3 y4 y5 y6 y7 y8 y9 y10 y11 y12 y13 y14 y15 y16 y17 y18 y19 y20 y21 y22 y23)) ∧ (∀ y0 y1 y2 y3 y4 y5 y6 y7 y8 y9 y10 y11 y12 y13, LeO (sound_jobs.l1 k y0 y1 y2 y3 y4 y5 y6 y7 y8 y9 y10 y11 y12 y13) (sound_jobs.l1 (k + 1) y0 y1 y2 y3 y4 y5 y6 y7 y8 y9 y10 y11 y12 y13))
 | 0 => ⟨fun _ _ _ _ _ _ _ _ _ _ _ r h => by simp [sound_jobs.l0] at h, fun _ _ _ _ _ _ _ _ _ _ _ _ _ _ _ _ _ _ _ _ _ _ _ _ r h => by simp [sound_jobs.j1] at h, fun _ _ _ _ _ _ _ _ _ _ _ _ _ _ r h => by simp [sound_jobs.l1] at h⟩
 | k + 1 => by
  obtain ⟨ih0, ih1, ih2⟩ := sound_jobs.mono_l k; refine ⟨?_, ?_, ?_⟩
  ·intro y0 y1 y2 y3 y4 y5 y6 y7 y8 y9 y10
   unfold sound_jobs.l0
   have ih9 := @job_Good.mono; exact lo
  ·intro y0 y1 y2 y3 y4 y5 y6 y7 y8 y9 y10 y11 y12 y13 y14 y15 y16 y17 y18 y19 y20 y21 y22 y23
   unfold sound_jobs.j1
   have ih9 := @job_Good.mono; exact lo
  ·intro y0 y1 y2 y3 y4 y5 y6 y7 y8 y9 y10 y11 y12 y13
   unfold sound_jobs.l1
   have ih9 := @job_Good.mono; exact lo
theorem sound_jobs.mono : ∀ a0 a1 a2 a3 a4 a5 a6 a7 k, LeO (sound_jobs.f k a0 a1 a2 a3 a4 a5 a6 a7) (sound_jobs.f (k + 1) a0 a1 a2 a3 a4 a5 a6 a7) := by
 intro a0 a1 a2 a3 a4 a5 a6 a7 k; obtain ⟨ih0, ih1, ih2⟩ := sound_jobs.mono_l k; unfold sound_jobs.f
 have ih9 := @job_Good.mono; exact lo
set_option maxHeartbeats 8000000 in
set_option maxRecDepth 100000 in
theorem sound_jobs.calls (k : Nat) (a0_0 : Int) (a0_1 : Int) (a0_2 : Int) (A0_3 : Option Addr) (c0_3 : Nat) (l0_3 : List (S34)) (A0_4 : Option Addr) (c0_4 : Nat) (l0_4 : List (S36)) (A0_5 : Option Addr) (c0_5 : Nat) (l0_5 : List (S68)) (A0_6 : Option Addr) (c0_6 : Nat) (l0_6 : List (S50)) (A0_7 : Option Addr) (c0_7 : Nat) (l0_7 : List ByteArray) (r : Bool) (w : World) (hr0_3 : Kd.C k34 w A0_3 l0_3.length l0_3) (hc0_3 : l0_3.length ≤ c0_3) (hr0_4 : Kd.C k36 w A0_4 l0_4.length l0_4) (hc0_4 : l0_4.length ≤ c0_4) (hr0_5 : Kd.C k68 w A0_5 l0_5.length l0_5) (hc0_5 : l0_5.length ≤ c0_5) (hr0_6 : Kd.C k50 w A0_6 l0_6.length l0_6) (hc0_6 : l0_6.length ≤ c0_6) (hr0_7 : Kd.C Kd.string w A0_7 l0_7.length l0_7) (hc0_7 : l0_7.length ≤ c0_7) (h : sound_jobs.f k a0_0 a0_1 a0_2 l0_3 l0_4 l0_5 l0_6 l0_7 = some r) :
  Calls Try.prog 15 #[.agg #[.int .i64 a0_0, .int .i64 a0_1, .int .i64 a0_2, .slice A0_3 l0_3.length c0_3, .slice A0_4 l0_4.length c0_4, .slice A0_5 l0_5.length c0_5, .slice A0_6 l0_6.length c0_6, .slice A0_7 l0_7.length c0_7]] w fun e w' => e = .returned (.bool r) ∧ Below w.heap.size w w' := by
 have hu28 := Try.underlying28; have hu50 := Try.underlying50; have hu60 := Try.underlying60; have HR0_3 := am hr0_3; have HC0_3 := am hc0_3; clear hr0_3 hc0_3; have HR0_4 := am hr0_4; have HC0_4 := am hc0_4; clear hr0_4 hc0_4; have HR0_5 := am hr0_5; have HC0_5 := am hc0_5; clear hr0_5 hc0_5; have HR0_6 := am hr0_6; have HC0_6 := am hc0_6; clear hr0_6 hc0_6; have HR0_7 := am hr0_7; have HC0_7 := am hc0_7; clear hr0_7 hc0_7; have HB := am (Below.refl w.heap.size w); have H : (if (l0_6.length : Int) > 16 then (some false) else (sound_jobs.l0 k l0_6 (l0_6.length : Int) 0 a0_0 a0_1 a0_2 l0_3 l0_4 l0_5 l0_6 l0_7)) = some r := h; clear h
 by_cases c2 : (l0_6.length : Int) > 16
 ·rw [if_pos c2] at H
  have c2b0 := decide_eq_true c2; have c2b1 : decide (16 < l0_6.length) = true := decide_eq_true (by omega); clear c2; obtain rfl := Option.some.inj H
  go_enter Try.func15, Try.ntmps15
  go_wp2_with (first | ((with_reducible refine gate_dst (N := 1) rfl ?_); (try (refine gate_guard (by rfl) ?_; dsimp only)); refine be (N := 1) (cs := #[.int .i64 a0_0, .int .i64 a0_1, .int .i64 a0_2, .slice A0_3 l0_3.length c0_3, .slice A0_4 l0_4.length c0_4, .slice A0_5 l0_5.length c0_5, .slice A0_6 l0_6.length c0_6, .slice A0_7 l0_7.length c0_7]) (t := 28) ?_; intro gb149 hg w3 hbox hb; have BK149 := am (hbox); have GW149 := am ((by rw [hg]; exact (below_size bx) : w.heap.size ≤ gb149)); have GE149 := am ((by rw [hg]; exact (below_size bx) : w.heap.size ≤ gb149)); replace HB := am (below_step bx hb); clear hb hbox hg; obtain ⟨_, _, _, _, _, _, _, _⟩ := c8 BK149.out; obtain ⟨_, _, _, _, _, _, _, _⟩ := f8 BK149.out))
  go_ret; exact ⟨by first | rfl | (simp [*, errW_none, errW_some] <;> rfl), bx⟩
 ·rw [if_neg c2] at H
  have c2b0 := decide_eq_false c2; have c2b1 : decide (16 < l0_6.length) = false := decide_eq_false (by omega); clear c2; have H' := am H; clear H
  go_enter Try.func15, Try.ntmps15
  go_wp2_with (first | ((with_reducible refine gate_dst (N := 1) rfl ?_); (try (refine gate_guard (by rfl) ?_; dsimp only)); refine be (N := 1) (cs := #[.int .i64 a0_0, .int .i64 a0_1, .int .i64 a0_2, .slice A0_3 l0_3.length c0_3, .slice A0_4 l0_4.length c0_4, .slice A0_5 l0_5.length c0_5, .slice A0_6 l0_6.length c0_6, .slice A0_7 l0_7.length c0_7]) (t := 28) ?_; intro gb149 hg w5 hbox hb; have BK149 := am (hbox); have GW149 := am ((by rw [hg]; exact (below_size bx) : w.heap.size ≤ gb149)); have GE149 := am ((by rw [hg]; exact (below_size bx) : w.heap.size ≤ gb149)); replace HB := am (below_step bx hb); clear hb hbox hg; obtain ⟨_, _, _, _, _, _, _, _⟩ := c8 BK149.out; obtain ⟨_, _, _, _, _, _, _, _⟩ := f8 BK149.out))
  go_loopg [14] k (fun kq v14 w' => ∃ (x14_1 : Int), v14 = .int .i64 x14_1 ∧ Aside0 (sound_jobs.l0 kq l0_6 (l0_6.length : Int) x14_1 a0_0 a0_1 a0_2 l0_3 l0_4 l0_5 l0_6 l0_7 = some r) ∧ Aside0 (kq ≤ k) ∧ Aside0 (w'.heap[gb149]? = some (.cells #[.int .i64 a0_0, .int .i64 a0_1, .int .i64 a0_2, (.slice A0_3 l0_3.length c0_3), (.slice A0_4 l0_4.length c0_4), (.slice A0_5 l0_5.length c0_5), (.slice A0_6 l0_6.length c0_6), (.slice A0_7 l0_7.length c0_7)] 28 (0, 0))) ∧ Aside0 (Below w.heap.size w w'))
  case atStart => exact ⟨(0), sx, H', ⟨Nat.le_refl _⟩, ⟨BK149.out⟩, ⟨bx⟩⟩
  case round =>
   clear H'
   try clear c2
   try clear c2b0
   try clear c2b1
   try clear _ _ _ _ _ _ _ _
   obtain ⟨x14_1, rfl, HA, HK1, BK149, HB⟩ := hrel
   cases gk with
   | zero => exact absurd HA.out (by simp [sound_jobs.l0])
   | succ k1 =>
    have H := HA.out
    clear HA
    simp only [sound_jobs.l0] at H
    by_cases c7 : x14_1 < (l0_6.length : Int)
    ·rw [if_pos c7] at H
     have c7b0 := decide_eq_true c7; clear c7
     by_cases c8 : 0 ≤ x14_1
     ·rw [if_pos c8] at H
      have c8b0 := decide_eq_true c8; clear c8
      by_cases c9 : x14_1 < (l0_6.length : Int)
      ·rw [if_pos c9] at H
       have c9b0 := decide_eq_true c9; clear c9; have HC10 := am H; clear H; have p150 : 0 ≤ (x14_1 : Int) := of_decide_eq_true (by assumption); have q150 : x14_1 < (l0_6.length : Int) := of_decide_eq_true (by assumption); obtain ⟨ad150, A150_11, c150_11, e150, hx150_0, hx150_1, hx150_2, hx150_3, hx150_4, hx150_5, hx150_6, hx150_7, hx150_8, hx150_9, hx150_10, hx150_11, hl150_11, hi150_11⟩ := at_T50 HR0_6.out x14_1 p150 q150; cases e150; replace hx150_0 := cb HB.out hx150_0; replace hx150_1 := cb HB.out hx150_1; replace hx150_2 := cb HB.out hx150_2; replace hx150_3 := cb HB.out hx150_3; replace hx150_4 := cb HB.out hx150_4; replace hx150_5 := cb HB.out hx150_5; replace hx150_6 := cb HB.out hx150_6; replace hx150_7 := cb HB.out hx150_7; replace hx150_8 := cb HB.out hx150_8; replace hx150_9 := cb HB.out hx150_9; replace hx150_10 := cb HB.out hx150_10; replace hx150_11 := cb HB.out hx150_11; have HR150_11 := am hi150_11; have HC150_11 := am hl150_11; clear hi150_11 hl150_11; replace p150 := eq_true p150; replace q150 := eq_true q150
       go_upto_region 6 with (first | ((with_reducible refine gate_dst (N := 4) rfl ?_); (try (refine gate_guard (by rfl) ?_; dsimp only)); refine be (N := 4) (cs := #[.int .i64 0, .int .i64 0, .int .i64 0, .int .i64 0, .int .i64 0, .int .i64 0, .int .i64 0, .int .i64 0, .int .i64 0, .int .i64 0, .int .i64 0, .slice none 0 0]) (t := 50) ?_; intro gb151 hg w11 hbox hb; have BK151 := am (hbox); have GW151 := am ((by rw [hg]; exact (below_size bx) : w.heap.size ≤ gb151)); have GE151 := am ((by rw [hg]; exact (below_size bx) : w.heap.size ≤ gb151)); replace HB := am (below_step bx hb); have NB149_151 := am ((by rw [hg]; exact Nat.ne_of_lt (blk_lt BK149.out) : gb149 ≠ gb151)); have NB151_149 := am ((by rw [hg]; exact Nat.ne_of_gt (blk_lt BK149.out) : gb151 ≠ gb149)); replace BK149 := am (blk_below BK149.out hb); clear hb hbox hg; have hnb12 := NB151_149.out; have hnc12 := NB149_151.out; obtain ⟨_, _, _, _, _, _, _, _, _, _, _, _⟩ := c12 BK151.out; obtain ⟨_, _, _, _, _, _, _, _, _, _, _, _⟩ := f12 BK151.out))
       (try simp only [Act.put, List.setIfInBounds_toArray, List.set_cons_zero, List.set_cons_succ])
       go_cut [45] (fun v45 wc => ∃ (kq : Nat) (x45_9 : Bool), v45 = .bool x45_9 ∧ Aside0 (sound_jobs.j1 kq l0_6 (l0_6.length : Int) x14_1 x45_9 a0_0 a0_1 a0_2 l0_3 l0_4 l0_5 l0_6 l0_7 ((rd_T50 l0_6 x14_1).f0) ((rd_T50 l0_6 x14_1).f1) ((rd_T50 l0_6 x14_1).f2) ((rd_T50 l0_6 x14_1).f3) ((rd_T50 l0_6 x14_1).f4) ((rd_T50 l0_6 x14_1).f5) ((rd_T50 l0_6 x14_1).f6) ((rd_T50 l0_6 x14_1).f7) ((rd_T50 l0_6 x14_1).f8) ((rd_T50 l0_6 x14_1).f9) ((rd_T50 l0_6 x14_1).f10) ((rd_T50 l0_6 x14_1).f11) = some r) ∧ Aside0 (kq ≤ k1) ∧ Aside0 (wc.heap[gb149]? = some (.cells #[.int .i64 a0_0, .int .i64 a0_1, .int .i64 a0_2, (.slice A0_3 l0_3.length c0_3), (.slice A0_4 l0_4.length c0_4), (.slice A0_5 l0_5.length c0_5), (.slice (some ad150) l0_6.length c0_6), (.slice A0_7 l0_7.length c0_7)] 28 (0, 0))) ∧ Aside0 (wc.heap[gb151]? = some (.cells #[.int .i64 ((rd_T50 l0_6 x14_1).f0), .int .i64 ((rd_T50 l0_6 x14_1).f1), .int .i64 ((rd_T50 l0_6 x14_1).f2), .int .i64 ((rd_T50 l0_6 x14_1).f3), .int .i64 ((rd_T50 l0_6 x14_1).f4), .int .i64 ((rd_T50 l0_6 x14_1).f5), .int .i64 ((rd_T50 l0_6 x14_1).f6), .int .i64 ((rd_T50 l0_6 x14_1).f7), .int .i64 ((rd_T50 l0_6 x14_1).f8), .int .i64 ((rd_T50 l0_6 x14_1).f9), .int .i64 ((rd_T50 l0_6 x14_1).f10), (.slice A150_11 ((rd_T50 l0_6 x14_1).f11).length c150_11)] 50 (0, 0))) ∧ Aside0 (Below w.heap.size w wc))
       case first =>
        have H := HC10.out; clear HC10; replace H := Option.bind_eq_some_iff.mp H; obtain ⟨t152, A140, H⟩ := H; have A14 := am A140; clear A140
        by_cases c15 : t152 = true
        ·subst c15
         rw [if_pos rfl] at H
         by_cases c16 : ((rd_T50 l0_6 x14_1).f1) ≥ (l0_3.length : Int)
         ·rw [if_pos c16] at H
          have c16b0 := decide_eq_true c16; clear c16
          (first | rw [c16b0] | (simp only [i64_w, i32_w]; rw [c16b0]) | skip)
          have H' := am H; clear H; have hnb17 := NB151_149.out; have hnc17 := NB149_151.out; obtain ⟨_, _, _, _, _, _, _, _, _, _, _, _⟩ := c12 BK151.out; go_wp2_with (first | (refine gl (some 20) Try.func40 #[.agg #[.int .i64 ((rd_T50 l0_6 x14_1).f0), .int .i64 ((rd_T50 l0_6 x14_1).f1), .int .i64 ((rd_T50 l0_6 x14_1).f2), .int .i64 ((rd_T50 l0_6 x14_1).f3), .int .i64 ((rd_T50 l0_6 x14_1).f4), .int .i64 ((rd_T50 l0_6 x14_1).f5), .int .i64 ((rd_T50 l0_6 x14_1).f6), .int .i64 ((rd_T50 l0_6 x14_1).f7), .int .i64 ((rd_T50 l0_6 x14_1).f8), .int .i64 ((rd_T50 l0_6 x14_1).f9), .int .i64 ((rd_T50 l0_6 x14_1).f10), .slice A150_11 ((rd_T50 l0_6 x14_1).f11).length c150_11]] ?_; (with_reducible refine (job_Good.calls k1 ((rd_T50 l0_6 x14_1).f0) ((rd_T50 l0_6 x14_1).f1) ((rd_T50 l0_6 x14_1).f2) ((rd_T50 l0_6 x14_1).f3) ((rd_T50 l0_6 x14_1).f4) ((rd_T50 l0_6 x14_1).f5) ((rd_T50 l0_6 x14_1).f6) ((rd_T50 l0_6 x14_1).f7) ((rd_T50 l0_6 x14_1).f8) ((rd_T50 l0_6 x14_1).f9) ((rd_T50 l0_6 x14_1).f10) _ _ ((rd_T50 l0_6 x14_1).f11) true _ ?side1 ?side2 A14.out).mono ?_); (case side1 => exact Kd.C_below HR150_11.out bx); (case side2 => exact HC150_11.out); rintro e w19 ⟨rfl, hb⟩; refine ⟨_, rfl, ?_⟩; replace BK149 := am (blk_below (g := gb149) (o := .cells #[.int .i64 a0_0, .int .i64 a0_1, .int .i64 a0_2, .slice A0_3 l0_3.length c0_3, .slice A0_4 l0_4.length c0_4, .slice A0_5 l0_5.length c0_5, .slice (some ad150) l0_6.length c0_6, .slice A0_7 l0_7.length c0_7] 28 (0, 0)) (by (iterate 12 ((with_reducible repeat first | apply kn | apply kd | apply ka); refine blk_far ?_ NB149_151.out _)); (with_reducible repeat first | apply kn | apply kd | apply ka); exact BK149.out) hb); replace BK151 := am (blk_below (g := gb151) (o := .cells #[.int .i64 ((rd_T50 l0_6 x14_1).f0), .int .i64 ((rd_T50 l0_6 x14_1).f1), .int .i64 ((rd_T50 l0_6 x14_1).f2), .int .i64 ((rd_T50 l0_6 x14_1).f3), .int .i64 ((rd_T50 l0_6 x14_1).f4), .int .i64 ((rd_T50 l0_6 x14_1).f5), .int .i64 ((rd_T50 l0_6 x14_1).f6), .int .i64 ((rd_T50 l0_6 x14_1).f7), .int .i64 ((rd_T50 l0_6 x14_1).f8), .int .i64 ((rd_T50 l0_6 x14_1).f9), .int .i64 ((rd_T50 l0_6 x14_1).f10), .slice A150_11 ((rd_T50 l0_6 x14_1).f11).length c150_11] 50 (0, 0)) (by (with_reducible repeat first | apply kn | apply kd | apply ka); refine bp (.slice none 0 0) rfl ?_; (iterate 11 (simp only [List.set]; (with_reducible repeat first | apply kn | apply kd | apply ka); refine bp (.int .i64 0) rfl ?_)); simp only [List.set]; (with_reducible repeat first | apply kn | apply kd | apply ka); exact BK151.out) hb); replace HB := am (below_step bx hb); (try clear hb); (try clear hb2); (try clear hk); (try clear hi); obtain ⟨_, _, _, _, _, _, _, _, _, _, _, _⟩ := c12 BK151.out; obtain ⟨_, _, _, _, _, _, _, _, _, _, _, _⟩ := f12 BK151.out; obtain ⟨_, _, _, _, _, _, _, _⟩ := c8 BK149.out; obtain ⟨_, _, _, _, _, _, _, _⟩ := f8 BK149.out))
          go_meet
          case rel => exact ⟨_, (true), sx, H', ⟨by have := HK1.out; first | omega | exact Nat.le_refl _⟩, ⟨BK149.out⟩, ⟨BK151.out⟩, ⟨bx⟩⟩
         ·rw [if_neg c16] at H
          have c16b0 := decide_eq_false c16; clear c16
          (first | rw [c16b0] | (simp only [i64_w, i32_w]; rw [c16b0]) | skip)
          by_cases c22 : ((rd_T50 l0_6 x14_1).f0) ≥ a0_2
          ·rw [if_pos c22] at H
           have c22b0 := decide_eq_true c22; clear c22; have H' := am H; clear H; have hnb23 := NB151_149.out; have hnc23 := NB149_151.out; obtain ⟨_, _, _, _, _, _, _, _, _, _, _, _⟩ := c12 BK151.out; go_wp2_with (first | (refine gl (some 20) Try.func40 #[.agg #[.int .i64 ((rd_T50 l0_6 x14_1).f0), .int .i64 ((rd_T50 l0_6 x14_1).f1), .int .i64 ((rd_T50 l0_6 x14_1).f2), .int .i64 ((rd_T50 l0_6 x14_1).f3), .int .i64 ((rd_T50 l0_6 x14_1).f4), .int .i64 ((rd_T50 l0_6 x14_1).f5), .int .i64 ((rd_T50 l0_6 x14_1).f6), .int .i64 ((rd_T50 l0_6 x14_1).f7), .int .i64 ((rd_T50 l0_6 x14_1).f8), .int .i64 ((rd_T50 l0_6 x14_1).f9), .int .i64 ((rd_T50 l0_6 x14_1).f10), .slice A150_11 ((rd_T50 l0_6 x14_1).f11).length c150_11]] ?_; (with_reducible refine (job_Good.calls k1 ((rd_T50 l0_6 x14_1).f0) ((rd_T50 l0_6 x14_1).f1) ((rd_T50 l0_6 x14_1).f2) ((rd_T50 l0_6 x14_1).f3) ((rd_T50 l0_6 x14_1).f4) ((rd_T50 l0_6 x14_1).f5) ((rd_T50 l0_6 x14_1).f6) ((rd_T50 l0_6 x14_1).f7) ((rd_T50 l0_6 x14_1).f8) ((rd_T50 l0_6 x14_1).f9) ((rd_T50 l0_6 x14_1).f10) _ _ ((rd_T50 l0_6 x14_1).f11) true _ ?side1 ?side2 A14.out).mono ?_); (case side1 => exact Kd.C_below HR150_11.out bx); (case side2 => exact HC150_11.out); rintro e w25 ⟨rfl, hb⟩; refine ⟨_, rfl, ?_⟩; replace BK149 := am (blk_below (g := gb149) (o := .cells #[.int .i64 a0_0, .int .i64 a0_1, .int .i64 a0_2, .slice A0_3 l0_3.length c0_3, .slice A0_4 l0_4.length c0_4, .slice A0_5 l0_5.length c0_5, .slice (some ad150) l0_6.length c0_6, .slice A0_7 l0_7.length c0_7] 28 (0, 0)) (by (iterate 12 ((with_reducible repeat first | apply kn | apply kd | apply ka); refine blk_far ?_ NB149_151.out _)); (with_reducible repeat first | apply kn | apply kd | apply ka); exact BK149.out) hb); replace BK151 := am (blk_below (g := gb151) (o := .cells #[.int .i64 ((rd_T50 l0_6 x14_1).f0), .int .i64 ((rd_T50 l0_6 x14_1).f1), .int .i64 ((rd_T50 l0_6 x14_1).f2), .int .i64 ((rd_T50 l0_6 x14_1).f3), .int .i64 ((rd_T50 l0_6 x14_1).f4), .int .i64 ((rd_T50 l0_6 x14_1).f5), .int .i64 ((rd_T50 l0_6 x14_1).f6), .int .i64 ((rd_T50 l0_6 x14_1).f7), .int .i64 ((rd_T50 l0_6 x14_1).f8), .int .i64 ((rd_T50 l0_6 x14_1).f9), .int .i64 ((rd_T50 l0_6 x14_1).f10), .slice A150_11 ((rd_T50 l0_6 x14_1).f11).length c150_11] 50 (0, 0)) (by (with_reducible repeat first | apply kn | apply kd | apply ka); refine bp (.slice none 0 0) rfl ?_; (iterate 11 (simp only [List.set]; (with_reducible repeat first | apply kn | apply kd | apply ka); refine bp (.int .i64 0) rfl ?_)); simp only [List.set]; (with_reducible repeat first | apply kn | apply kd | apply ka); exact BK151.out) hb); replace HB := am (below_step bx hb); (try clear hb); (try clear hb2); (try clear hk); (try clear hi); obtain ⟨_, _, _, _, _, _, _, _, _, _, _, _⟩ := c12 BK151.out; obtain ⟨_, _, _, _, _, _, _, _, _, _, _, _⟩ := f12 BK151.out; obtain ⟨_, _, _, _, _, _, _, _⟩ := c8 BK149.out; obtain ⟨_, _, _, _, _, _, _, _⟩ := f8 BK149.out))
           go_meet
           case rel => exact ⟨_, (true), sx, H', ⟨by have := HK1.out; first | omega | exact Nat.le_refl _⟩, ⟨BK149.out⟩, ⟨BK151.out⟩, ⟨bx⟩⟩
          ·rw [if_neg c22] at H
           have c22b0 := decide_eq_false c22; clear c22; replace H := Option.bind_eq_some_iff.mp H; obtain ⟨t153, A280, H⟩ := H; have A28 := am A280; clear A280; have H' := am H; clear H; have hnb29 := NB151_149.out; have hnc29 := NB149_151.out; obtain ⟨_, _, _, _, _, _, _, _, _, _, _, _⟩ := c12 BK151.out; go_wp2_with (first | (refine gl (some 20) Try.func40 #[.agg #[.int .i64 ((rd_T50 l0_6 x14_1).f0), .int .i64 ((rd_T50 l0_6 x14_1).f1), .int .i64 ((rd_T50 l0_6 x14_1).f2), .int .i64 ((rd_T50 l0_6 x14_1).f3), .int .i64 ((rd_T50 l0_6 x14_1).f4), .int .i64 ((rd_T50 l0_6 x14_1).f5), .int .i64 ((rd_T50 l0_6 x14_1).f6), .int .i64 ((rd_T50 l0_6 x14_1).f7), .int .i64 ((rd_T50 l0_6 x14_1).f8), .int .i64 ((rd_T50 l0_6 x14_1).f9), .int .i64 ((rd_T50 l0_6 x14_1).f10), .slice A150_11 ((rd_T50 l0_6 x14_1).f11).length c150_11]] ?_; (with_reducible refine (job_Good.calls k1 ((rd_T50 l0_6 x14_1).f0) ((rd_T50 l0_6 x14_1).f1) ((rd_T50 l0_6 x14_1).f2) ((rd_T50 l0_6 x14_1).f3) ((rd_T50 l0_6 x14_1).f4) ((rd_T50 l0_6 x14_1).f5) ((rd_T50 l0_6 x14_1).f6) ((rd_T50 l0_6 x14_1).f7) ((rd_T50 l0_6 x14_1).f8) ((rd_T50 l0_6 x14_1).f9) ((rd_T50 l0_6 x14_1).f10) _ _ ((rd_T50 l0_6 x14_1).f11) true _ ?side1 ?side2 A14.out).mono ?_); (case side1 => exact Kd.C_below HR150_11.out bx); (case side2 => exact HC150_11.out); rintro e w31 ⟨rfl, hb⟩; refine ⟨_, rfl, ?_⟩; replace BK149 := am (blk_below (g := gb149) (o := .cells #[.int .i64 a0_0, .int .i64 a0_1, .int .i64 a0_2, .slice A0_3 l0_3.length c0_3, .slice A0_4 l0_4.length c0_4, .slice A0_5 l0_5.length c0_5, .slice (some ad150) l0_6.length c0_6, .slice A0_7 l0_7.length c0_7] 28 (0, 0)) (by (iterate 12 ((with_reducible repeat first | apply kn | apply kd | apply ka); refine blk_far ?_ NB149_151.out _)); (with_reducible repeat first | apply kn | apply kd | apply ka); exact BK149.out) hb); replace BK151 := am (blk_below (g := gb151) (o := .cells #[.int .i64 ((rd_T50 l0_6 x14_1).f0), .int .i64 ((rd_T50 l0_6 x14_1).f1), .int .i64 ((rd_T50 l0_6 x14_1).f2), .int .i64 ((rd_T50 l0_6 x14_1).f3), .int .i64 ((rd_T50 l0_6 x14_1).f4), .int .i64 ((rd_T50 l0_6 x14_1).f5), .int .i64 ((rd_T50 l0_6 x14_1).f6), .int .i64 ((rd_T50 l0_6 x14_1).f7), .int .i64 ((rd_T50 l0_6 x14_1).f8), .int .i64 ((rd_T50 l0_6 x14_1).f9), .int .i64 ((rd_T50 l0_6 x14_1).f10), .slice A150_11 ((rd_T50 l0_6 x14_1).f11).length c150_11] 50 (0, 0)) (by (with_reducible repeat first | apply kn | apply kd | apply ka); refine bp (.slice none 0 0) rfl ?_; (iterate 11 (simp only [List.set]; (with_reducible repeat first | apply kn | apply kd | apply ka); refine bp (.int .i64 0) rfl ?_)); simp only [List.set]; (with_reducible repeat first | apply kn | apply kd | apply ka); exact BK151.out) hb); replace HB := am (below_step bx hb); (try clear hb); (try clear hb2); (try clear hk); (try clear hi); obtain ⟨_, _, _, _, _, _, _, _, _, _, _, _⟩ := c12 BK151.out; obtain ⟨_, _, _, _, _, _, _, _, _, _, _, _⟩ := f12 BK151.out; obtain ⟨_, _, _, _, _, _, _, _⟩ := c8 BK149.out; obtain ⟨_, _, _, _, _, _, _, _⟩ := f8 BK149.out) | (go_at_call 41; (with_reducible refine (job_Find.calls _ _ l0_6 ((rd_T50 l0_6 x14_1).f0) t153 _ ?side1 ?side2 A28.out).mono ?_); (case side1 => repeat (first | exact (Kd.C_below HR0_6.out HB.out) | (with_reducible refine Kd.C_alloc ?_ _) | (with_reducible refine Kd.C_drewN ?_ _) | (with_reducible refine Kd.C_drew ?_))); (case side2 => exact HC0_6.out); rintro e w34 ⟨rfl, hb⟩; (try clear A28); replace BK149 := am (blk_below BK149.out hb); replace BK151 := am (blk_below BK151.out hb); replace HB := am (below_step bx hb); (try clear hb); (try clear hb2); (try clear hk); (try clear hi)))
           go_meet
           case rel => exact ⟨_, ((t153 != x14_1)), sx, H', ⟨by have := HK1.out; first | omega | exact Nat.le_refl _⟩, ⟨BK149.out⟩, ⟨BK151.out⟩, ⟨HB.out⟩⟩
        ·replace c15 := Bool.eq_false_iff.mpr c15
         subst c15
         rw [if_neg (show ¬ (false = true) by decide)] at H
         have H' := am H
         clear H
         have hnb35 := NB151_149.out
         have hnc35 := NB149_151.out
         obtain ⟨_, _, _, _, _, _, _, _, _, _, _, _⟩ := c12 BK151.out
         go_wp2_with (first | (refine gl (some 20) Try.func40 #[.agg #[.int .i64 ((rd_T50 l0_6 x14_1).f0), .int .i64 ((rd_T50 l0_6 x14_1).f1), .int .i64 ((rd_T50 l0_6 x14_1).f2), .int .i64 ((rd_T50 l0_6 x14_1).f3), .int .i64 ((rd_T50 l0_6 x14_1).f4), .int .i64 ((rd_T50 l0_6 x14_1).f5), .int .i64 ((rd_T50 l0_6 x14_1).f6), .int .i64 ((rd_T50 l0_6 x14_1).f7), .int .i64 ((rd_T50 l0_6 x14_1).f8), .int .i64 ((rd_T50 l0_6 x14_1).f9), .int .i64 ((rd_T50 l0_6 x14_1).f10), .slice A150_11 ((rd_T50 l0_6 x14_1).f11).length c150_11]] ?_; (with_reducible refine (job_Good.calls k1 ((rd_T50 l0_6 x14_1).f0) ((rd_T50 l0_6 x14_1).f1) ((rd_T50 l0_6 x14_1).f2) ((rd_T50 l0_6 x14_1).f3) ((rd_T50 l0_6 x14_1).f4) ((rd_T50 l0_6 x14_1).f5) ((rd_T50 l0_6 x14_1).f6) ((rd_T50 l0_6 x14_1).f7) ((rd_T50 l0_6 x14_1).f8) ((rd_T50 l0_6 x14_1).f9) ((rd_T50 l0_6 x14_1).f10) _ _ ((rd_T50 l0_6 x14_1).f11) false _ ?side1 ?side2 A14.out).mono ?_); (case side1 => exact Kd.C_below HR150_11.out bx); (case side2 => exact HC150_11.out); rintro e w37 ⟨rfl, hb⟩; refine ⟨_, rfl, ?_⟩; replace BK149 := am (blk_below (g := gb149) (o := .cells #[.int .i64 a0_0, .int .i64 a0_1, .int .i64 a0_2, .slice A0_3 l0_3.length c0_3, .slice A0_4 l0_4.length c0_4, .slice A0_5 l0_5.length c0_5, .slice (some ad150) l0_6.length c0_6, .slice A0_7 l0_7.length c0_7] 28 (0, 0)) (by (iterate 12 ((with_reducible repeat first | apply kn | apply kd | apply ka); refine blk_far ?_ NB149_151.out _)); (with_reducible repeat first | apply kn | apply kd | apply ka); exact BK149.out) hb); replace BK151 := am (blk_below (g := gb151) (o := .cells #[.int .i64 ((rd_T50 l0_6 x14_1).f0), .int .i64 ((rd_T50 l0_6 x14_1).f1), .int .i64 ((rd_T50 l0_6 x14_1).f2), .int .i64 ((rd_T50 l0_6 x14_1).f3), .int .i64 ((rd_T50 l0_6 x14_1).f4), .int .i64 ((rd_T50 l0_6 x14_1).f5), .int .i64 ((rd_T50 l0_6 x14_1).f6), .int .i64 ((rd_T50 l0_6 x14_1).f7), .int .i64 ((rd_T50 l0_6 x14_1).f8), .int .i64 ((rd_T50 l0_6 x14_1).f9), .int .i64 ((rd_T50 l0_6 x14_1).f10), .slice A150_11 ((rd_T50 l0_6 x14_1).f11).length c150_11] 50 (0, 0)) (by (with_reducible repeat first | apply kn | apply kd | apply ka); refine bp (.slice none 0 0) rfl ?_; (iterate 11 (simp only [List.set]; (with_reducible repeat first | apply kn | apply kd | apply ka); refine bp (.int .i64 0) rfl ?_)); simp only [List.set]; (with_reducible repeat first | apply kn | apply kd | apply ka); exact BK151.out) hb); replace HB := am (below_step bx hb); (try clear hb); (try clear hb2); (try clear hk); (try clear hi)))
         go_meet
         case rel => exact ⟨_, (true), sx, H', ⟨by have := HK1.out; first | omega | exact Nat.le_refl _⟩, ⟨BK149.out⟩, ⟨BK151.out⟩, ⟨HB.out⟩⟩
       case rest =>
        clear HC10
        try clear c2
        try clear c2b0
        try clear c2b1
        try clear c7
        try clear c7b0
        try clear c8
        try clear c8b0
        try clear c9
        try clear c9b0
        try clear _ _ _ _ _ _ _ _ _ _ _ _
        try clear _ _ _ _ _ _ _ _
        try clear hx150_0
        try clear hx150_1
        try clear hx150_10
        try clear hx150_11
        try clear hx150_2
        try clear hx150_3
        try clear hx150_4
        try clear hx150_5
        try clear hx150_6
        try clear hx150_7
        try clear hx150_8
        try clear hx150_9
        try clear p150
        try clear q150
        obtain ⟨kq, x45_9, rfl, HA, HJ9, BK149, BK151, HB⟩ := hcut
        cases kq with
        | zero => exact absurd HA.out (by simp [sound_jobs.j1])
        | succ kj9 =>
         have H := HA.out; clear HA; simp only [sound_jobs.j1] at H
         by_cases c38 : x45_9 = true
         ·subst c38
          rw [if_pos rfl] at H
          obtain rfl := Option.some.inj H
          go_wp2
          go_ret
          exact ⟨by first | rfl | (simp [*, errW_none, errW_some] <;> rfl), HB.out⟩
         ·replace c38 := Bool.eq_false_iff.mpr c38
          subst c38
          rw [if_neg (show ¬ (false = true) by decide)] at H
          have H' := am H
          clear H
          have hnb39 := NB151_149.out
          have hnc39 := NB149_151.out
          obtain ⟨_, _, _, _, _, _, _, _, _, _, _, _⟩ := c12 BK151.out
          go_wp2
          go_loopg [49] kj9 (fun kq v49 w' => ∃ (x49_3 : Int), v49 = .int .i64 x49_3 ∧ Aside0 (sound_jobs.l1 kq l0_6 (l0_6.length : Int) x14_1 ((rd_T50 l0_6 x14_1).f11) (((rd_T50 l0_6 x14_1).f11).length : Int) x49_3 a0_0 a0_1 a0_2 l0_3 l0_4 l0_5 l0_6 l0_7 = some r) ∧ Aside0 (kq ≤ kj9) ∧ Aside0 (w'.heap[gb149]? = some (.cells #[.int .i64 a0_0, .int .i64 a0_1, .int .i64 a0_2, (.slice A0_3 l0_3.length c0_3), (.slice A0_4 l0_4.length c0_4), (.slice A0_5 l0_5.length c0_5), (.slice (some ad150) l0_6.length c0_6), (.slice A0_7 l0_7.length c0_7)] 28 (0, 0))) ∧ Aside0 (w'.heap[gb151]? = some (.cells #[.int .i64 ((rd_T50 l0_6 x14_1).f0), .int .i64 ((rd_T50 l0_6 x14_1).f1), .int .i64 ((rd_T50 l0_6 x14_1).f2), .int .i64 ((rd_T50 l0_6 x14_1).f3), .int .i64 ((rd_T50 l0_6 x14_1).f4), .int .i64 ((rd_T50 l0_6 x14_1).f5), .int .i64 ((rd_T50 l0_6 x14_1).f6), .int .i64 ((rd_T50 l0_6 x14_1).f7), .int .i64 ((rd_T50 l0_6 x14_1).f8), .int .i64 ((rd_T50 l0_6 x14_1).f9), .int .i64 ((rd_T50 l0_6 x14_1).f10), (.slice A150_11 ((rd_T50 l0_6 x14_1).f11).length c150_11)] 50 (0, 0))) ∧ Aside0 (Below w.heap.size w w'))
          case atStart => exact ⟨(0), sx, H', ⟨Nat.le_refl _⟩, ⟨BK149.out⟩, ⟨BK151.out⟩, ⟨HB.out⟩⟩
          case round =>
           clear H'
           try clear c2
           try clear c2b0
           try clear c2b1
           try clear c7
           try clear c7b0
           try clear c8
           try clear c8b0
           try clear c9
           try clear c9b0
           try clear c38
           try clear _ _ _ _ _ _ _ _ _ _ _ _
           try clear _ _ _ _ _ _ _ _ _ _ _ _
           try clear _ _ _ _ _ _ _ _
           try clear hx150_0
           try clear hx150_1
           try clear hx150_10
           try clear hx150_11
           try clear hx150_2
           try clear hx150_3
           try clear hx150_4
           try clear hx150_5
           try clear hx150_6
           try clear hx150_7
           try clear hx150_8
           try clear hx150_9
           try clear p150
           try clear q150
           obtain ⟨x49_3, rfl, HA, HK3, BK149, BK151, HB⟩ := hrel
           cases gk with
           | zero => exact absurd HA.out (by simp [sound_jobs.l1])
           | succ k3 =>
            have H := HA.out
            clear HA
            simp only [sound_jobs.l1] at H
            by_cases c41 : x49_3 < (((rd_T50 l0_6 x14_1).f11).length : Int)
            ·rw [if_pos c41] at H
             have c41b0 := decide_eq_true c41; clear c41
             by_cases c42 : 0 ≤ x49_3
             ·rw [if_pos c42] at H
              have c42b0 := decide_eq_true c42; clear c42
              by_cases c43 : x49_3 < (((rd_T50 l0_6 x14_1).f11).length : Int)
              ·rw [if_pos c43] at H
               have c43b0 := decide_eq_true c43; clear c43
               by_cases c44 : ((rd_T60 ((rd_T50 l0_6 x14_1).f11) x49_3).f0) ≥ (l0_4.length : Int)
               ·rw [if_pos c44] at H
                have c44b0 := decide_eq_true c44; clear c44; obtain rfl := Option.some.inj H; have p154 : 0 ≤ (x49_3 : Int) := of_decide_eq_true (by assumption); have q154 : x49_3 < (((rd_T50 l0_6 x14_1).f11).length : Int) := of_decide_eq_true (by assumption); obtain ⟨ad154, e154, hx154_0, hx154_1⟩ := at_T60 HR150_11.out x49_3 p154 q154; cases e154; replace hx154_0 := cb HB.out hx154_0; replace hx154_1 := cb HB.out hx154_1; replace p154 := eq_true p154; replace q154 := eq_true q154; go_wp2_with (first | ((with_reducible refine gate_dst (N := 6) rfl ?_); (try (refine gate_guard (by rfl) ?_; dsimp only)); refine be (N := 6) (cs := #[.int .i64 0, .int .i64 0]) (t := 60) ?_; intro gb155 hg w45 hbox hb; have BK155 := am (hbox); have GW155 := am ((by rw [hg]; exact (below_size HB.out) : w.heap.size ≤ gb155)); have GE155 := am ((by rw [hg]; exact (below_size HB.out) : w.heap.size ≤ gb155)); replace HB := am (below_step HB.out hb); have NB149_155 := am ((by rw [hg]; exact Nat.ne_of_lt (blk_lt BK149.out) : gb149 ≠ gb155)); have NB155_149 := am ((by rw [hg]; exact Nat.ne_of_gt (blk_lt BK149.out) : gb155 ≠ gb149)); replace BK149 := am (blk_below BK149.out hb); have NB151_155 := am ((by rw [hg]; exact Nat.ne_of_lt (blk_lt BK151.out) : gb151 ≠ gb155)); have NB155_151 := am ((by rw [hg]; exact Nat.ne_of_gt (blk_lt BK151.out) : gb155 ≠ gb151)); replace BK151 := am (blk_below BK151.out hb); clear hb hbox hg; have hnb46 := NB155_149.out; have hnc46 := NB149_155.out; have hnb47 := NB155_151.out; have hnc47 := NB151_155.out; obtain ⟨_, _⟩ := c2 BK155.out; obtain ⟨_, _⟩ := f2 BK155.out; have hnb49 := NB149_151.out; have hnc49 := NB151_149.out; obtain ⟨_, _, _, _, _, _, _, _⟩ := c8 BK149.out; obtain ⟨_, _, _, _, _, _, _, _⟩ := f8 BK149.out))
                go_ret; exact ⟨by first | rfl | (simp [*, errW_none, errW_some] <;> rfl), bx⟩
               ·rw [if_neg c44] at H
                have c44b0 := decide_eq_false c44; clear c44; have H' := am H; clear H; have p154 : 0 ≤ (x49_3 : Int) := of_decide_eq_true (by assumption); have q154 : x49_3 < (((rd_T50 l0_6 x14_1).f11).length : Int) := of_decide_eq_true (by assumption); obtain ⟨ad154, e154, hx154_0, hx154_1⟩ := at_T60 HR150_11.out x49_3 p154 q154; cases e154; replace hx154_0 := cb HB.out hx154_0; replace hx154_1 := cb HB.out hx154_1; replace p154 := eq_true p154; replace q154 := eq_true q154; go_wp2_with (first | ((with_reducible refine gate_dst (N := 6) rfl ?_); (try (refine gate_guard (by rfl) ?_; dsimp only)); refine be (N := 6) (cs := #[.int .i64 0, .int .i64 0]) (t := 60) ?_; intro gb155 hg w51 hbox hb; have BK155 := am (hbox); have GW155 := am ((by rw [hg]; exact (below_size HB.out) : w.heap.size ≤ gb155)); have GE155 := am ((by rw [hg]; exact (below_size HB.out) : w.heap.size ≤ gb155)); replace HB := am (below_step HB.out hb); have NB149_155 := am ((by rw [hg]; exact Nat.ne_of_lt (blk_lt BK149.out) : gb149 ≠ gb155)); have NB155_149 := am ((by rw [hg]; exact Nat.ne_of_gt (blk_lt BK149.out) : gb155 ≠ gb149)); replace BK149 := am (blk_below BK149.out hb); have NB151_155 := am ((by rw [hg]; exact Nat.ne_of_lt (blk_lt BK151.out) : gb151 ≠ gb155)); have NB155_151 := am ((by rw [hg]; exact Nat.ne_of_gt (blk_lt BK151.out) : gb155 ≠ gb151)); replace BK151 := am (blk_below BK151.out hb); clear hb hbox hg; have hnb52 := NB155_149.out; have hnc52 := NB149_155.out; have hnb53 := NB155_151.out; have hnc53 := NB151_155.out; obtain ⟨_, _⟩ := c2 BK155.out; obtain ⟨_, _⟩ := f2 BK155.out; have hnb55 := NB149_151.out; have hnc55 := NB151_149.out; obtain ⟨_, _, _, _, _, _, _, _⟩ := c8 BK149.out; obtain ⟨_, _, _, _, _, _, _, _⟩ := f8 BK149.out))
                go_roundg k3
                case measure => have := HK1.out; have := HJ9.out; have := HK3.out; omega
                case rel => exact ⟨(wrap64 (x49_3 + 1)), sx, H', ⟨by have := HK1.out; have := HJ9.out; have := HK3.out; omega⟩, ⟨by (with_reducible repeat first | apply kn | apply kd | apply ka); refine blk_far ?_ NB149_155.out _; (with_reducible repeat first | apply kn | apply kd | apply ka); refine blk_far ?_ NB149_155.out _; (with_reducible repeat first | apply kn | apply kd | apply ka); exact BK149.out⟩, ⟨by (with_reducible repeat first | apply kn | apply kd | apply ka); refine blk_far ?_ NB151_155.out _; (with_reducible repeat first | apply kn | apply kd | apply ka); refine blk_far ?_ NB151_155.out _; (with_reducible repeat first | apply kn | apply kd | apply ka); exact BK151.out⟩, ⟨bx⟩⟩
              ·rw [if_neg c43] at H
               exact absurd H (by simp)
             ·rw [if_neg c42] at H
              exact absurd H (by simp)
            ·rw [if_neg c41] at H
             have c41b0 := decide_eq_false c41; clear c41; have H' := am H; clear H; go_wp2
             go_roundg k3
             case measure => have := HK1.out; have := HJ9.out; have := HK3.out; omega
             case rel => exact ⟨(wrap64 (x14_1 + 1)), sx, H', ⟨by have := HK1.out; have := HJ9.out; have := HK3.out; omega⟩, ⟨BK149.out⟩, ⟨HB.out⟩⟩
      ·rw [if_neg c9] at H
       exact absurd H (by simp)
     ·rw [if_neg c8] at H
      exact absurd H (by simp)
    ·rw [if_neg c7] at H
     have c7b0 := decide_eq_false c7; clear c7; obtain rfl := Option.some.inj H; go_wp2; go_ret; exact ⟨by first | rfl | (simp [*, errW_none, errW_some] <;> rfl), HB.out⟩

end Go.Proofs.Ytijeigiilgapdaa.QSoundTells
