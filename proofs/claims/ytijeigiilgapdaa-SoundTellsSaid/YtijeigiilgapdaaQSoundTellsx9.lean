/- Written by a program of this session (wip/tools/mp.sh): functions as Lean functions, with proofs that the calls come to what they say. Lean checks it. -/
import Derived.Test.YtijeigiilgapdaaQSoundTellsx0
import Derived.Test.YtijeigiilgapdaaXWd
import Derived.Test.YtijeigiilgapdaaQSoundTellsx1
import Derived.Test.YtijeigiilgapdaaQSoundTellsx8
namespace Go.Proofs.Ytijeigiilgapdaa.QSoundTells
open Go.RowKit Go.Proofs.YtijeigiilgapdaaW.PrintWords Go.Proofs.YtijeigiilgapdaaW.PrintLast Go.Proofs.YtijeigiilgapdaaW.PrintMore
attribute [local go_sem] max2_int min2_int max_two min_two max_three min_three max_four min_four   -- for this text's walks alone
set_option linter.unusedVariables false
set_option linter.unusedSimpArgs false

/-! ### sound_apart: function 23 -/
def sound_apart.l0 : Nat → Int → List (S50) → Int → Int → Option (Bool)
 | 0, _, _, _, _ => none
 | k + 1, x5, x11, x12, x13 => if x13 < x12 then (if 0 ≤ x13 then (if x13 < (x11.length : Int) then (if ((rd_T50 x11 x13).f7) = 3 then (if (Go.bits .andNot .i64 ((rd_T50 x11 x13).f9) x5) = 0 then (sound_apart.l0 k (Go.bits .andNot .i64 x5 ((rd_T50 x11 x13).f9)) x11 x12 (wrap64 (x13 + 1))) else (some false)) else (sound_apart.l0 k x5 x11 x12 (wrap64 (x13 + 1)))) else (none)) else (none)) else (some true)
def sound_apart.f (k : Nat) (a0_0 : Int) (a0_1 : Int) (a0_2 : Int) (l0_3 : List (S34)) (l0_4 : List (S36)) (l0_5 : List (S68)) (l0_6 : List (S50)) (l0_7 : List ByteArray) (a1 : Int) : Option (Bool) := (pool_All.f a1).bind fun t204 => (sound_apart.l0 k t204 l0_6 (l0_6.length : Int) 0)
theorem sound_apart.mono_l : ∀ k, (∀ y0 y1 y2 y3, LeO (sound_apart.l0 k y0 y1 y2 y3) (sound_apart.l0 (k + 1) y0 y1 y2 y3))
 | 0 => fun _ _ _ _ r h => by simp [sound_apart.l0] at h
 | k + 1 => by
  have ih0 := sound_apart.mono_l k
  ·intro y0 y1 y2 y3
   unfold sound_apart.l0
   exact lo
theorem sound_apart.mono : ∀ a0 a1 a2 a3 a4 a5 a6 a7 a8 k, LeO (sound_apart.f k a0 a1 a2 a3 a4 a5 a6 a7 a8) (sound_apart.f (k + 1) a0 a1 a2 a3 a4 a5 a6 a7 a8) := by
 intro a0 a1 a2 a3 a4 a5 a6 a7 a8 k
 have ih0 := sound_apart.mono_l k
 unfold sound_apart.f
 exact lo
set_option maxHeartbeats 8000000 in
set_option maxRecDepth 100000 in
theorem sound_apart.calls (k : Nat) (a0_0 : Int) (a0_1 : Int) (a0_2 : Int) (A0_3 : Option Addr) (c0_3 : Nat) (l0_3 : List (S34)) (A0_4 : Option Addr) (c0_4 : Nat) (l0_4 : List (S36)) (A0_5 : Option Addr) (c0_5 : Nat) (l0_5 : List (S68)) (A0_6 : Option Addr) (c0_6 : Nat) (l0_6 : List (S50)) (A0_7 : Option Addr) (c0_7 : Nat) (l0_7 : List ByteArray) (a1 : Int) (r : Bool) (w : World) (hr0_3 : Kd.C k34 w A0_3 l0_3.length l0_3) (hc0_3 : l0_3.length ≤ c0_3) (hr0_4 : Kd.C k36 w A0_4 l0_4.length l0_4) (hc0_4 : l0_4.length ≤ c0_4) (hr0_5 : Kd.C k68 w A0_5 l0_5.length l0_5) (hc0_5 : l0_5.length ≤ c0_5) (hr0_6 : Kd.C k50 w A0_6 l0_6.length l0_6) (hc0_6 : l0_6.length ≤ c0_6) (hr0_7 : Kd.C Kd.string w A0_7 l0_7.length l0_7) (hc0_7 : l0_7.length ≤ c0_7) (h : sound_apart.f k a0_0 a0_1 a0_2 l0_3 l0_4 l0_5 l0_6 l0_7 a1 = some r) :
  Calls Try.prog 23 #[.agg #[.int .i64 a0_0, .int .i64 a0_1, .int .i64 a0_2, .slice A0_3 l0_3.length c0_3, .slice A0_4 l0_4.length c0_4, .slice A0_5 l0_5.length c0_5, .slice A0_6 l0_6.length c0_6, .slice A0_7 l0_7.length c0_7], .int .i64 a1] w fun e w' => e = .returned (.bool r) ∧ Below w.heap.size w w' := by
 have hu28 := Try.underlying28
 have hu50 := Try.underlying50
 have HR0_3 := am hr0_3
 have HC0_3 := am hc0_3
 clear hr0_3 hc0_3
 have HR0_4 := am hr0_4
 have HC0_4 := am hc0_4
 clear hr0_4 hc0_4
 have HR0_5 := am hr0_5
 have HC0_5 := am hc0_5
 clear hr0_5 hc0_5
 have HR0_6 := am hr0_6
 have HC0_6 := am hc0_6
 clear hr0_6 hc0_6
 have HR0_7 := am hr0_7
 have HC0_7 := am hc0_7
 clear hr0_7 hc0_7
 have HB := am (Below.refl w.heap.size w)
 have H : ((pool_All.f a1).bind fun t204 => (sound_apart.l0 k t204 l0_6 (l0_6.length : Int) 0)) = some r := h
 clear h
 replace H := Option.bind_eq_some_iff.mp H
 obtain ⟨t204, A30, H⟩ := H
 have A3 := am A30
 clear A30
 have H' := am H
 clear H
 go_enter Try.func23, Try.ntmps23
 go_wp2_with (first | ((with_reducible refine gate_dst (N := 2) rfl ?_); refine be (N := 2) (cs := #[.int .i64 a0_0, .int .i64 a0_1, .int .i64 a0_2, .slice A0_3 l0_3.length c0_3, .slice A0_4 l0_4.length c0_4, .slice A0_5 l0_5.length c0_5, .slice A0_6 l0_6.length c0_6, .slice A0_7 l0_7.length c0_7]) (t := 28) ?_; intro gb203 hg w4 hbox hb; have BK203 := am (hbox); have GW203 := am ((by rw [hg]; exact (below_size bx) : w.heap.size ≤ gb203)); have GE203 := am ((by rw [hg]; exact (below_size bx) : w.heap.size ≤ gb203)); replace HB := am (below_step bx hb); clear hb hbox hg) | (refine gl (some 9) Try.func45 #[.int .i64 a1] ?_; (with_reducible refine (pool_All.calls a1 t204 _ A3.out).mono ?_); rintro e w5 ⟨rfl, hb⟩; refine ⟨_, rfl, ?_⟩; replace BK203 := am (blk_below (kk BK203) hb); replace HB := am (below_step bx hb); (try clear hb); (try clear hb2); (try clear hk); (try clear hi); obtain ⟨_, _, _, _, _, _, _, _⟩ := c8 BK203.out; obtain ⟨_, _, _, _, _, _, _, _⟩ := f8 BK203.out))
 go_loopg [5, 13] k (fun kq v5 v13 w' => ∃ (x5_1 : Int) (x13_1 : Int), v5 = .int .i64 x5_1 ∧ v13 = .int .i64 x13_1 ∧ Aside0 (sound_apart.l0 kq x5_1 l0_6 (l0_6.length : Int) x13_1 = some r) ∧ Aside0 (kq ≤ k) ∧ Aside0 (w'.heap[gb203]? = some (.cells #[.int .i64 a0_0, .int .i64 a0_1, .int .i64 a0_2, (.slice A0_3 l0_3.length c0_3), (.slice A0_4 l0_4.length c0_4), (.slice A0_5 l0_5.length c0_5), (.slice A0_6 l0_6.length c0_6), (.slice A0_7 l0_7.length c0_7)] 28 (0, 0))) ∧ Aside0 (Below w.heap.size w w'))
 case atStart => exact ⟨(t204), (0), sx, sx, H', ⟨Nat.le_refl _⟩, ⟨kk BK203⟩, ⟨bx⟩⟩
 case round =>
  clear H'
  try clear _ _ _ _ _ _ _ _
  obtain ⟨x5_1, x13_1, rfl, rfl, HA, HK1, BK203, HB⟩ := hrel
  cases gk with
  | zero => exact absurd HA.out (by simp [sound_apart.l0])
  | succ k1 =>
   have H := HA.out
   clear HA
   simp only [sound_apart.l0] at H
   by_cases c7 : x13_1 < (l0_6.length : Int)
   ·rw [if_pos c7] at H
    have c7b0 : decide (x13_1 < (l0_6.length : Int)) = true := decide_eq_true c7
    clear c7
    by_cases c8 : 0 ≤ x13_1
    ·rw [if_pos c8] at H
     have c8b0 : decide (0 ≤ x13_1) = true := decide_eq_true c8
     clear c8
     by_cases c9 : x13_1 < (l0_6.length : Int)
     ·rw [if_pos c9] at H
      have c9b0 : decide (x13_1 < (l0_6.length : Int)) = true := decide_eq_true c9
      clear c9
      by_cases c10 : ((rd_T50 l0_6 x13_1).f7) = 3
      ·rw [if_pos c10] at H
       have c10b0 : (((rd_T50 l0_6 x13_1).f7) == 3) = true := beq_iff_eq.mpr c10
       have c10b1 : (((rd_T50 l0_6 x13_1).f7) != 3) = false := bne_eq_false_iff_eq.mpr c10
       clear c10
       by_cases c11 : (Go.bits .andNot .i64 ((rd_T50 l0_6 x13_1).f9) x5_1) = 0
       ·rw [if_pos c11] at H
        have c11b0 : ((Go.bits .andNot .i64 ((rd_T50 l0_6 x13_1).f9) x5_1) == 0) = true := beq_iff_eq.mpr c11
        have c11b1 : ((Go.bits .andNot .i64 ((rd_T50 l0_6 x13_1).f9) x5_1) != 0) = false := bne_eq_false_iff_eq.mpr c11
        clear c11
        have H' := am H
        clear H
        have p205 : 0 ≤ (x13_1 : Int) := of_decide_eq_true (by assumption)
        have q205 : x13_1 < (l0_6.length : Int) := of_decide_eq_true (by assumption)
        obtain ⟨ad205, A205_11, c205_11, e205, hx205_0, hx205_1, hx205_2, hx205_3, hx205_4, hx205_5, hx205_6, hx205_7, hx205_8, hx205_9, hx205_10, hx205_11, hl205_11, hi205_11⟩ := at_T50 HR0_6.out x13_1 p205 q205
        cases e205
        replace hx205_0 := cb HB.out hx205_0
        replace hx205_1 := cb HB.out hx205_1
        replace hx205_2 := cb HB.out hx205_2
        replace hx205_3 := cb HB.out hx205_3
        replace hx205_4 := cb HB.out hx205_4
        replace hx205_5 := cb HB.out hx205_5
        replace hx205_6 := cb HB.out hx205_6
        replace hx205_7 := cb HB.out hx205_7
        replace hx205_8 := cb HB.out hx205_8
        replace hx205_9 := cb HB.out hx205_9
        replace hx205_10 := cb HB.out hx205_10
        replace hx205_11 := cb HB.out hx205_11
        have HR205_11 := am hi205_11
        have HC205_11 := am hl205_11
        clear hi205_11 hl205_11
        replace p205 := eq_true p205
        replace q205 := eq_true q205
        go_wp2_with (first | ((with_reducible refine gate_dst (N := 7) rfl ?_); refine be (N := 7) (cs := #[.int .i64 0, .int .i64 0, .int .i64 0, .int .i64 0, .int .i64 0, .int .i64 0, .int .i64 0, .int .i64 0, .int .i64 0, .int .i64 0, .int .i64 0, .slice none 0 0]) (t := 50) ?_; intro gb206 hg w12 hbox hb; have BK206 := am (hbox); have GW206 := am ((by rw [hg]; exact (below_size bx) : w.heap.size ≤ gb206)); have GE206 := am ((by rw [hg]; exact (below_size bx) : w.heap.size ≤ gb206)); replace HB := am (below_step bx hb); have NB203_206 := am ((by rw [hg]; exact Nat.ne_of_lt (blk_lt (kk BK203)) : gb203 ≠ gb206)); have NB206_203 := am ((by rw [hg]; exact Nat.ne_of_gt (blk_lt (kk BK203)) : gb206 ≠ gb203)); replace BK203 := am (blk_below (kk BK203) hb); clear hb hbox hg; have hnb13 := NB206_203.out; have hnc13 := NB203_206.out; obtain ⟨_, _, _, _, _, _, _, _, _, _, _, _⟩ := c12 BK206.out; obtain ⟨_, _, _, _, _, _, _, _, _, _, _, _⟩ := f12 BK206.out))
        go_roundg k1
        case measure => have := HK1.out; omega
        case rel => exact ⟨(Go.bits .andNot .i64 x5_1 ((rd_T50 l0_6 x13_1).f9)), (wrap64 (x13_1 + 1)), sx, sx, H', ⟨by have := HK1.out; omega⟩, ⟨by (with_reducible repeat first | apply kn | apply kd | apply ka); refine blk_far ?_ NB203_206.out _; (with_reducible repeat first | apply kn | apply kd | apply ka); refine blk_far ?_ NB203_206.out _; (with_reducible repeat first | apply kn | apply kd | apply ka); refine blk_far ?_ NB203_206.out _; (with_reducible repeat first | apply kn | apply kd | apply ka); refine blk_far ?_ NB203_206.out _; (with_reducible repeat first | apply kn | apply kd | apply ka); refine blk_far ?_ NB203_206.out _; (with_reducible repeat first | apply kn | apply kd | apply ka); refine blk_far ?_ NB203_206.out _; (with_reducible repeat first | apply kn | apply kd | apply ka); refine blk_far ?_ NB203_206.out _; (with_reducible repeat first | apply kn | apply kd | apply ka); refine blk_far ?_ NB203_206.out _; (with_reducible repeat first | apply kn | apply kd | apply ka); refine blk_far ?_ NB203_206.out _; (with_reducible repeat first | apply kn | apply kd | apply ka); refine blk_far ?_ NB203_206.out _; (with_reducible repeat first | apply kn | apply kd | apply ka); refine blk_far ?_ NB203_206.out _; (with_reducible repeat first | apply kn | apply kd | apply ka); refine blk_far ?_ NB203_206.out _; (with_reducible repeat first | apply kn | apply kd | apply ka); exact BK203.out⟩, ⟨bx⟩⟩
       ·rw [if_neg c11] at H
        have c11b0 : ((Go.bits .andNot .i64 ((rd_T50 l0_6 x13_1).f9) x5_1) == 0) = false := beq_eq_false_iff_ne.mpr c11
        have c11b1 : ((Go.bits .andNot .i64 ((rd_T50 l0_6 x13_1).f9) x5_1) != 0) = true := bne_iff_ne.mpr c11
        obtain rfl := Option.some.inj H
        have p205 : 0 ≤ (x13_1 : Int) := of_decide_eq_true (by assumption)
        have q205 : x13_1 < (l0_6.length : Int) := of_decide_eq_true (by assumption)
        obtain ⟨ad205, A205_11, c205_11, e205, hx205_0, hx205_1, hx205_2, hx205_3, hx205_4, hx205_5, hx205_6, hx205_7, hx205_8, hx205_9, hx205_10, hx205_11, hl205_11, hi205_11⟩ := at_T50 HR0_6.out x13_1 p205 q205
        cases e205
        replace hx205_0 := cb HB.out hx205_0
        replace hx205_1 := cb HB.out hx205_1
        replace hx205_2 := cb HB.out hx205_2
        replace hx205_3 := cb HB.out hx205_3
        replace hx205_4 := cb HB.out hx205_4
        replace hx205_5 := cb HB.out hx205_5
        replace hx205_6 := cb HB.out hx205_6
        replace hx205_7 := cb HB.out hx205_7
        replace hx205_8 := cb HB.out hx205_8
        replace hx205_9 := cb HB.out hx205_9
        replace hx205_10 := cb HB.out hx205_10
        replace hx205_11 := cb HB.out hx205_11
        have HR205_11 := am hi205_11
        have HC205_11 := am hl205_11
        clear hi205_11 hl205_11
        replace p205 := eq_true p205
        replace q205 := eq_true q205
        go_wp2_with (first | ((with_reducible refine gate_dst (N := 7) rfl ?_); refine be (N := 7) (cs := #[.int .i64 0, .int .i64 0, .int .i64 0, .int .i64 0, .int .i64 0, .int .i64 0, .int .i64 0, .int .i64 0, .int .i64 0, .int .i64 0, .int .i64 0, .slice none 0 0]) (t := 50) ?_; intro gb206 hg w15 hbox hb; have BK206 := am (hbox); have GW206 := am ((by rw [hg]; exact (below_size bx) : w.heap.size ≤ gb206)); have GE206 := am ((by rw [hg]; exact (below_size bx) : w.heap.size ≤ gb206)); replace HB := am (below_step bx hb); have NB203_206 := am ((by rw [hg]; exact Nat.ne_of_lt (blk_lt (kk BK203)) : gb203 ≠ gb206)); have NB206_203 := am ((by rw [hg]; exact Nat.ne_of_gt (blk_lt (kk BK203)) : gb206 ≠ gb203)); replace BK203 := am (blk_below (kk BK203) hb); clear hb hbox hg; have hnb16 := NB206_203.out; have hnc16 := NB203_206.out; obtain ⟨_, _, _, _, _, _, _, _, _, _, _, _⟩ := c12 BK206.out; obtain ⟨_, _, _, _, _, _, _, _, _, _, _, _⟩ := f12 BK206.out))
        go_ret
        exact ⟨by first | rfl | (simp [*, errW_none, errW_some] <;> rfl), bx⟩
      ·rw [if_neg c10] at H
       have c10b0 : (((rd_T50 l0_6 x13_1).f7) == 3) = false := beq_eq_false_iff_ne.mpr c10
       have c10b1 : (((rd_T50 l0_6 x13_1).f7) != 3) = true := bne_iff_ne.mpr c10
       have H' := am H
       clear H
       have p205 : 0 ≤ (x13_1 : Int) := of_decide_eq_true (by assumption)
       have q205 : x13_1 < (l0_6.length : Int) := of_decide_eq_true (by assumption)
       obtain ⟨ad205, A205_11, c205_11, e205, hx205_0, hx205_1, hx205_2, hx205_3, hx205_4, hx205_5, hx205_6, hx205_7, hx205_8, hx205_9, hx205_10, hx205_11, hl205_11, hi205_11⟩ := at_T50 HR0_6.out x13_1 p205 q205
       cases e205
       replace hx205_0 := cb HB.out hx205_0
       replace hx205_1 := cb HB.out hx205_1
       replace hx205_2 := cb HB.out hx205_2
       replace hx205_3 := cb HB.out hx205_3
       replace hx205_4 := cb HB.out hx205_4
       replace hx205_5 := cb HB.out hx205_5
       replace hx205_6 := cb HB.out hx205_6
       replace hx205_7 := cb HB.out hx205_7
       replace hx205_8 := cb HB.out hx205_8
       replace hx205_9 := cb HB.out hx205_9
       replace hx205_10 := cb HB.out hx205_10
       replace hx205_11 := cb HB.out hx205_11
       have HR205_11 := am hi205_11
       have HC205_11 := am hl205_11
       clear hi205_11 hl205_11
       replace p205 := eq_true p205
       replace q205 := eq_true q205
       go_wp2_with (first | ((with_reducible refine gate_dst (N := 7) rfl ?_); refine be (N := 7) (cs := #[.int .i64 0, .int .i64 0, .int .i64 0, .int .i64 0, .int .i64 0, .int .i64 0, .int .i64 0, .int .i64 0, .int .i64 0, .int .i64 0, .int .i64 0, .slice none 0 0]) (t := 50) ?_; intro gb206 hg w18 hbox hb; have BK206 := am (hbox); have GW206 := am ((by rw [hg]; exact (below_size bx) : w.heap.size ≤ gb206)); have GE206 := am ((by rw [hg]; exact (below_size bx) : w.heap.size ≤ gb206)); replace HB := am (below_step bx hb); have NB203_206 := am ((by rw [hg]; exact Nat.ne_of_lt (blk_lt (kk BK203)) : gb203 ≠ gb206)); have NB206_203 := am ((by rw [hg]; exact Nat.ne_of_gt (blk_lt (kk BK203)) : gb206 ≠ gb203)); replace BK203 := am (blk_below (kk BK203) hb); clear hb hbox hg; have hnb19 := NB206_203.out; have hnc19 := NB203_206.out; obtain ⟨_, _, _, _, _, _, _, _, _, _, _, _⟩ := c12 BK206.out; obtain ⟨_, _, _, _, _, _, _, _, _, _, _, _⟩ := f12 BK206.out))
       go_roundg k1
       case measure => have := HK1.out; omega
       case rel => exact ⟨(x5_1), (wrap64 (x13_1 + 1)), sx, sx, H', ⟨by have := HK1.out; omega⟩, ⟨by (with_reducible repeat first | apply kn | apply kd | apply ka); refine blk_far ?_ NB203_206.out _; (with_reducible repeat first | apply kn | apply kd | apply ka); refine blk_far ?_ NB203_206.out _; (with_reducible repeat first | apply kn | apply kd | apply ka); refine blk_far ?_ NB203_206.out _; (with_reducible repeat first | apply kn | apply kd | apply ka); refine blk_far ?_ NB203_206.out _; (with_reducible repeat first | apply kn | apply kd | apply ka); refine blk_far ?_ NB203_206.out _; (with_reducible repeat first | apply kn | apply kd | apply ka); refine blk_far ?_ NB203_206.out _; (with_reducible repeat first | apply kn | apply kd | apply ka); refine blk_far ?_ NB203_206.out _; (with_reducible repeat first | apply kn | apply kd | apply ka); refine blk_far ?_ NB203_206.out _; (with_reducible repeat first | apply kn | apply kd | apply ka); refine blk_far ?_ NB203_206.out _; (with_reducible repeat first | apply kn | apply kd | apply ka); refine blk_far ?_ NB203_206.out _; (with_reducible repeat first | apply kn | apply kd | apply ka); refine blk_far ?_ NB203_206.out _; (with_reducible repeat first | apply kn | apply kd | apply ka); refine blk_far ?_ NB203_206.out _; (with_reducible repeat first | apply kn | apply kd | apply ka); exact BK203.out⟩, ⟨bx⟩⟩
     ·rw [if_neg c9] at H
      exact absurd H (by simp)
    ·rw [if_neg c8] at H
     exact absurd H (by simp)
   ·rw [if_neg c7] at H
    have c7b0 : decide (x13_1 < (l0_6.length : Int)) = false := decide_eq_false c7
    clear c7
    obtain rfl := Option.some.inj H
    go_wp2
    go_ret
    exact ⟨by first | rfl | (simp [*, errW_none, errW_some] <;> rfl), bx⟩

/-! ### slices_Index_int_int: function 70 -/
def slices_Index_int_int.l0 : Nat → List Int → Int → Int → Int → Option (Int)
 | 0, _, _, _, _ => none
 | k + 1, x0, x1, x7, x8 => if x8 < x7 then (if 0 ≤ x8 then (if x8 < (x0.length : Int) then (if x1 = (rd x0 x8) then (some x8) else (slices_Index_int_int.l0 k x0 x1 x7 (wrap64 (x8 + 1)))) else (none)) else (none)) else (some (-1))
def slices_Index_int_int.f (k : Nat) (l0 : List Int) (a1 : Int) : Option (Int) := slices_Index_int_int.l0 k l0 a1 (l0.length : Int) 0
theorem slices_Index_int_int.mono_l : ∀ k, (∀ y0 y1 y2 y3, LeO (slices_Index_int_int.l0 k y0 y1 y2 y3) (slices_Index_int_int.l0 (k + 1) y0 y1 y2 y3))
 | 0 => fun _ _ _ _ r h => by simp [slices_Index_int_int.l0] at h
 | k + 1 => by
  have ih0 := slices_Index_int_int.mono_l k
  ·intro y0 y1 y2 y3
   unfold slices_Index_int_int.l0
   exact lo
theorem slices_Index_int_int.mono : ∀ a0 a1 k, LeO (slices_Index_int_int.f k a0 a1) (slices_Index_int_int.f (k + 1) a0 a1) := by
 intro a0 a1 k
 have ih0 := slices_Index_int_int.mono_l k
 unfold slices_Index_int_int.f
 exact lo
set_option maxHeartbeats 8000000 in
set_option maxRecDepth 100000 in
theorem slices_Index_int_int.calls (k : Nat) (A0 : Option Addr) (c0 : Nat) (l0 : List Int) (a1 : Int) (r : Int) (w : World) (hr0 : Kd.C (Kd.int .i64) w A0 l0.length l0) (hc0 : l0.length ≤ c0) (h : slices_Index_int_int.f k l0 a1 = some r) :
  Calls Try.prog 70 #[.slice A0 l0.length c0, .int .i64 a1] w fun e w' => e = .returned (.int .i64 r) ∧ Drawn0 w w' := by
 have HR0 := am hr0
 have HC0 := am hc0
 clear hr0 hc0
 have H : (slices_Index_int_int.l0 k l0 a1 (l0.length : Int) 0) = some r := h
 clear h
 have H' := am H
 clear H
 go_enter Try.func70, Try.ntmps70
 go_wp2
 go_loopg [8] k (fun kq v8 w' => ∃ (x8_1 : Int), v8 = .int .i64 x8_1 ∧ Aside0 (slices_Index_int_int.l0 kq l0 a1 (l0.length : Int) x8_1 = some r) ∧ Aside0 (kq ≤ k) ∧ Drawn0 w w')
 case atStart => exact ⟨(0), sx, H', ⟨Nat.le_refl _⟩, by repeat (first | exact Drawn0.refl _ | apply Drawn0.step)⟩
 case round =>
  clear H'
  obtain ⟨x8_1, rfl, HA, HK1, ⟨m1, rfl⟩⟩ := hrel
  cases gk with
  | zero => exact absurd HA.out (by simp [slices_Index_int_int.l0])
  | succ k1 =>
   have H := HA.out
   clear HA
   simp only [slices_Index_int_int.l0] at H
   by_cases c3 : x8_1 < (l0.length : Int)
   ·rw [if_pos c3] at H
    have c3b0 : decide (x8_1 < (l0.length : Int)) = true := decide_eq_true c3
    clear c3
    by_cases c4 : 0 ≤ x8_1
    ·rw [if_pos c4] at H
     have c4b0 : decide (0 ≤ x8_1) = true := decide_eq_true c4
     clear c4
     by_cases c5 : x8_1 < (l0.length : Int)
     ·rw [if_pos c5] at H
      have c5b0 : decide (x8_1 < (l0.length : Int)) = true := decide_eq_true c5
      clear c5
      by_cases c6 : a1 = (rd l0 x8_1)
      ·rw [if_pos c6] at H
       have c6b0 : (a1 == (rd l0 x8_1)) = true := beq_iff_eq.mpr c6
       have c6b1 : (a1 != (rd l0 x8_1)) = false := bne_eq_false_iff_eq.mpr c6
       clear c6
       obtain rfl := Option.some.inj H
       have p207 : 0 ≤ (x8_1 : Int) := of_decide_eq_true (by assumption)
       have q207 : x8_1 < (l0.length : Int) := of_decide_eq_true (by assumption)
       obtain ⟨ad207, e207, hx207_0⟩ := Kd.at_int HR0.out x8_1 p207 q207
       cases e207
       replace p207 := eq_true p207
       replace q207 := eq_true q207
       go_wp2
       go_ret
       exact ⟨sx, by repeat (first | exact Drawn0.refl _ | apply Drawn0.step)⟩
      ·rw [if_neg c6] at H
       have c6b0 : (a1 == (rd l0 x8_1)) = false := beq_eq_false_iff_ne.mpr c6
       have c6b1 : (a1 != (rd l0 x8_1)) = true := bne_iff_ne.mpr c6
       have H' := am H
       clear H
       have p207 : 0 ≤ (x8_1 : Int) := of_decide_eq_true (by assumption)
       have q207 : x8_1 < (l0.length : Int) := of_decide_eq_true (by assumption)
       obtain ⟨ad207, e207, hx207_0⟩ := Kd.at_int HR0.out x8_1 p207 q207
       cases e207
       replace p207 := eq_true p207
       replace q207 := eq_true q207
       go_wp2
       go_roundg k1
       case measure => have := HK1.out; omega
       case rel => exact ⟨(wrap64 (x8_1 + 1)), sx, H', ⟨by have := HK1.out; omega⟩, by repeat (first | exact Drawn0.refl _ | apply Drawn0.step)⟩
     ·rw [if_neg c5] at H
      exact absurd H (by simp)
    ·rw [if_neg c4] at H
     exact absurd H (by simp)
   ·rw [if_neg c3] at H
    have c3b0 : decide (x8_1 < (l0.length : Int)) = false := decide_eq_false c3
    clear c3
    obtain rfl := Option.some.inj H
    go_wp2
    go_ret
    exact ⟨sx, by repeat (first | exact Drawn0.refl _ | apply Drawn0.step)⟩

/-! ### slices_Contains_int_int: function 60 -/
def slices_Contains_int_int.f (k : Nat) (l0 : List Int) (a1 : Int) : Option (Bool) := (slices_Index_int_int.f k l0 a1).bind fun t208 => (some (decide (t208 ≥ 0)))
theorem slices_Contains_int_int.mono : ∀ a0 a1 k, LeO (slices_Contains_int_int.f k a0 a1) (slices_Contains_int_int.f (k + 1) a0 a1) := by
 intro a0 a1 k
 unfold slices_Contains_int_int.f
 have ih9 := @slices_Index_int_int.mono; exact lo
set_option maxHeartbeats 8000000 in
set_option maxRecDepth 100000 in
theorem slices_Contains_int_int.calls (k : Nat) (A0 : Option Addr) (c0 : Nat) (l0 : List Int) (a1 : Int) (r : Bool) (w : World) (hr0 : Kd.C (Kd.int .i64) w A0 l0.length l0) (hc0 : l0.length ≤ c0) (h : slices_Contains_int_int.f k l0 a1 = some r) :
  Calls Try.prog 60 #[.slice A0 l0.length c0, .int .i64 a1] w fun e w' => e = .returned (.bool r) ∧ Drawn0 w w' := by
 have HR0 := am hr0
 have HC0 := am hc0
 clear hr0 hc0
 have H : ((slices_Index_int_int.f k l0 a1).bind fun t208 => (some (decide (t208 ≥ 0)))) = some r := h
 clear h
 replace H := Option.bind_eq_some_iff.mp H
 obtain ⟨t208, A30, H⟩ := H
 have A3 := am A30
 clear A30
 obtain rfl := Option.some.inj H
 go_enter Try.func60, Try.ntmps60
 go_wp2_with (first | (refine gl (some 7) Try.func70 #[.slice A0 l0.length c0, .int .i64 a1] ?_; (with_reducible refine (slices_Index_int_int.calls k _ _ l0 a1 t208 _ ?side1 ?side2 A3.out).mono ?_); (case side1 => repeat (first | exact HR0.out | (with_reducible refine Kd.C_alloc ?_ _) | (with_reducible refine Kd.C_drewN ?_ _) | (with_reducible refine Kd.C_drew ?_))); (case side2 => exact HC0.out); rintro e w' ⟨rfl, ⟨nd, rfl⟩⟩; refine ⟨_, rfl, ?_⟩))
 go_ret
 exact ⟨sx, by repeat (first | exact Drawn0.refl _ | apply Drawn0.step)⟩

/-! ### tree_Path: function 61 -/
def tree_Path.f (l0 : List S34) (a1 : Int) : Option (List Int) := if l0.length ≤ 100000000 then some (XPath.pathN (fun i => (rd_T34 l0 i).f1) l0.length (a1.toNat + 1) a1) else none
theorem tree_Path.calls (A0 : Option Addr) (c0 : Nat) (l0 : List S34) (a1 : Int) (r : List Int) (w : World) (hr0 : Kd.C k34 w A0 l0.length l0) (hc0 : l0.length ≤ c0) (h : tree_Path.f l0 a1 = some r) :
  Calls Try.prog 61 #[.slice A0 l0.length c0, .int .i64 a1] w fun e w' => ∃ v0_ : Value, e = .returned (v0_) ∧ Kd.V (Kd.int .i64) 3 w' w.heap.size (fun k_ => (w.heap.size ≤ k_)) v0_ r ∧ Below w.heap.size w w' := by
 unfold tree_Path.f at h
 split at h
 ·rename_i hl
  obtain rfl := Option.some.inj h
  exact XPath.path_walk A0 l0.length c0 _ a1 w hl (fun i h0 h1 => by
   obtain ⟨ad, e, -, h2, -⟩ := at_T34 hr0 i h0 h1
   exact ⟨ad, e, h2⟩)
 ·cases h

/-! ### tree_Use: function 46 -/
mutual
def tree_Use.j0 : Nat → List (S34) → List (S36) → Int → Bool → Option (Int × Int)
 | 0, _, _, _, _ => none
 | k + 1, x0, x1, x2, x18 => if x18 = true then (some (0, 4)) else (tree_Use.l0 k x0 x2 ([] : List Int) x1 (x1.length : Int) 0)
def tree_Use.l0 : Nat → List (S34) → Int → List Int → List (S36) → Int → Int → Option (Int × Int)
 | 0, _, _, _, _, _, _ => none
 | k + 1, x0, x2, x8, x19, x20, x21 => if x21 < x20 then (if 0 ≤ x21 then (if x21 < (x19.length : Int) then ((tree_Path.f x0 ((rd_T36 x19 x21).f0)).bind fun t213 => ((slices_Contains_int_int.f k t213 x2).bind fun t216 => (if t216 = true then ((some (([(rd_T36 x19 x21).f4, (rd_T36 x19 x21).f5] : List Int) : List Int)).bind fun y217 => (if x8.length + y217.length < 17592186044416 then (tree_Use.l0 k x0 x2 (x8 ++ y217) x19 x20 (wrap64 (x21 + 1))) else (none))) else (tree_Use.l0 k x0 x2 x8 x19 x20 (wrap64 (x21 + 1)))))) else (none)) else (none)) else ((money_Add.f k x8).bind fun bt209 => (some (bt209.1, bt209.2)))
end
def tree_Use.f (k : Nat) (l0 : List (S34)) (l1 : List (S36)) (a2 : Int) : Option (Int × Int) := if a2 < 0 then (tree_Use.j0 k l0 l1 a2 true) else (tree_Use.j0 k l0 l1 a2 (decide (a2 ≥ (l0.length : Int))))
theorem tree_Use.mono_l : ∀ k, (∀ y0 y1 y2 y3, LeO (tree_Use.j0 k y0 y1 y2 y3) (tree_Use.j0 (k + 1) y0 y1 y2 y3)) ∧ (∀ y0 y1 y2 y3 y4 y5, LeO (tree_Use.l0 k y0 y1 y2 y3 y4 y5) (tree_Use.l0 (k + 1) y0 y1 y2 y3 y4 y5))
 | 0 => ⟨fun _ _ _ _ r h => by simp [tree_Use.j0] at h, fun _ _ _ _ _ _ r h => by simp [tree_Use.l0] at h⟩
 | k + 1 => by
  obtain ⟨ih0, ih1⟩ := tree_Use.mono_l k
  refine ⟨?_, ?_⟩
  ·intro y0 y1 y2 y3
   unfold tree_Use.j0
   have ih9 := @money_Add.mono; have ih8 := @slices_Contains_int_int.mono; exact lo
  ·intro y0 y1 y2 y3 y4 y5
   unfold tree_Use.l0
   have ih9 := @money_Add.mono; have ih8 := @slices_Contains_int_int.mono; exact lo
theorem tree_Use.mono : ∀ a0 a1 a2 k, LeO (tree_Use.f k a0 a1 a2) (tree_Use.f (k + 1) a0 a1 a2) := by
 intro a0 a1 a2 k
 obtain ⟨ih0, ih1⟩ := tree_Use.mono_l k
 unfold tree_Use.f
 have ih9 := @money_Add.mono; have ih8 := @slices_Contains_int_int.mono; exact lo
set_option maxHeartbeats 8000000 in
set_option maxRecDepth 100000 in
theorem tree_Use.calls (k : Nat) (A0 : Option Addr) (c0 : Nat) (l0 : List (S34)) (A1 : Option Addr) (c1 : Nat) (l1 : List (S36)) (a2 : Int) (r1 : Int) (r2 : Int) (w : World) (hr0 : Kd.C k34 w A0 l0.length l0) (hc0 : l0.length ≤ c0) (hr1 : Kd.C k36 w A1 l1.length l1) (hc1 : l1.length ≤ c1) (h : tree_Use.f k l0 l1 a2 = some (r1, r2)) :
  Calls Try.prog 46 #[.slice A0 l0.length c0, .slice A1 l1.length c1, .int .i64 a2] w fun e w' => e = .returned (.tuple #[.int .i64 r1, .int .i64 r2]) ∧ Below w.heap.size w w' := by
 have hu36 := Try.underlying36
 have HR0 := am hr0
 have HC0 := am hc0
 clear hr0 hc0
 have HR1 := am hr1
 have HC1 := am hc1
 clear hr1 hc1
 have HB := am (Below.refl w.heap.size w)
 have H : (if a2 < 0 then (tree_Use.j0 k l0 l1 a2 true) else (tree_Use.j0 k l0 l1 a2 (decide (a2 ≥ (l0.length : Int))))) = some (r1, r2) := h
 clear h
 have HC4 := am H
 clear H
 go_enter Try.func46, Try.ntmps46
 go_upto_region 1 with (fail)
 go_cut [18] (fun v18 wc => ∃ (kq : Nat) (x18_3 : Bool), v18 = .bool x18_3 ∧ Aside0 (tree_Use.j0 kq l0 l1 a2 x18_3 = some (r1, r2)) ∧ Aside0 (kq ≤ k) ∧ Aside0 (Below w.heap.size w wc))
 case first =>
  have H := HC4.out
  clear HC4
  by_cases c5 : a2 < 0
  ·rw [if_pos c5] at H
   have c5b0 : decide (a2 < 0) = true := decide_eq_true c5
   clear c5
   (first | rw [c5b0] | (simp only [i64_w, i32_w]; rw [c5b0]) | skip)
   have H' := am H
   clear H
   go_wp2
   go_meet
   case rel => exact ⟨_, (true), sx, H', ⟨by first | omega | exact Nat.le_refl _⟩, ⟨bx⟩⟩
  ·rw [if_neg c5] at H
   have c5b0 : decide (a2 < 0) = false := decide_eq_false c5
   clear c5
   (first | rw [c5b0] | (simp only [i64_w, i32_w]; rw [c5b0]) | skip)
   have H' := am H
   clear H
   go_wp2
   go_meet
   case rel => exact ⟨_, (decide (a2 ≥ (l0.length : Int))), sx, H', ⟨by first | omega | exact Nat.le_refl _⟩, ⟨bx⟩⟩
 case rest =>
  clear HC4
  try clear c1
  obtain ⟨kq, x18_3, rfl, HA, HJ3, HB⟩ := hcut
  cases kq with
  | zero => exact absurd HA.out (by simp [tree_Use.j0])
  | succ kj3 =>
   have H := HA.out
   clear HA
   simp only [tree_Use.j0] at H
   by_cases c6 : x18_3 = true
   ·subst c6
    rw [if_pos rfl] at H
    simp only [Option.some.injEq, Prod.mk.injEq] at H
    obtain ⟨rfl, rfl⟩ := H
    go_wp2
    go_ret2
    exact ⟨by first | rfl | (simp [*, errW_none, errW_some] <;> rfl), bx⟩
   ·replace c6 := Bool.eq_false_iff.mpr c6
    subst c6
    rw [if_neg (show ¬ (false = true) by decide)] at H
    have H' := am H
    clear H
    go_wp2
    go_loopg [8, 21] kj3 (fun kq v8 v21 w' => ∃ (x8_2 : List Int) (x21_2 : Int), v21 = .int .i64 x21_2 ∧ Aside0 (tree_Use.l0 kq l0 a2 x8_2 l1 (l1.length : Int) x21_2 = some (r1, r2)) ∧ Aside0 (kq ≤ kj3) ∧ Aside0 (Kd.R (Kd.int .i64) 3 w' w.heap.size (fun _ => True) v8 x8_2) ∧ Aside0 (Below w.heap.size w w'))
    case atStart => exact ⟨(([] : List Int)), (0), sx, H', ⟨Nat.le_refl _⟩, ⟨by first | exact Kd.R_nil _ _ _ _ _ | exact Kd.N_nil _ _ _ _ _ | exact Kd.V_nil _ _ _ _ _ | exact Kd.Q_nil _ _ _ _ _ | exact Kd.S_nil _ _ _ _ _⟩, ⟨bx⟩⟩
    case round =>
     clear H'
     try clear c1
     try clear c6
     obtain ⟨x8_2, x21_2, rfl, HA, HK2, HO_8, HB⟩ := hrel
     cases gk with
     | zero => exact absurd HA.out (by simp [tree_Use.l0])
     | succ k2 =>
      have H := HA.out
      clear HA
      simp only [tree_Use.l0] at H
      by_cases c7 : x21_2 < (l1.length : Int)
      ·rw [if_pos c7] at H
       have c7b0 : decide (x21_2 < (l1.length : Int)) = true := decide_eq_true c7
       clear c7
       by_cases c8 : 0 ≤ x21_2
       ·rw [if_pos c8] at H
        have c8b0 : decide (0 ≤ x21_2) = true := decide_eq_true c8
        clear c8
        by_cases c9 : x21_2 < (l1.length : Int)
        ·rw [if_pos c9] at H
         have c9b0 : decide (x21_2 < (l1.length : Int)) = true := decide_eq_true c9
         clear c9
         replace H := Option.bind_eq_some_iff.mp H
         obtain ⟨t213, A100, H⟩ := H
         have A10 := am A100
         clear A100
         replace H := Option.bind_eq_some_iff.mp H
         obtain ⟨t216, A110, H⟩ := H
         have A11 := am A110
         clear A110
         by_cases c12 : t216 = true
         ·subst c12
          rw [if_pos rfl] at H
          obtain ⟨y217, hy217⟩ : ∃ y_ : List Int, y_ = (([(rd_T36 l1 x21_2).f4, (rd_T36 l1 x21_2).f5] : List Int)) := ⟨_, rfl⟩
          replace H : (if x8_2.length + y217.length < 17592186044416 then (tree_Use.l0 k2 l0 a2 (x8_2 ++ y217) l1 (l1.length : Int) (wrap64 (x21_2 + 1))) else (none)) = some (r1, r2) := by first | (rw [hy217]; with_reducible exact H) | (have H2_ := (Option.bind_some _ _).symm.trans H; rw [hy217]; with_reducible exact H2_) | (have H2_ := (Option.bind_some _ _).symm.trans H; with_reducible exact H2_) | with_reducible exact H | (rw [hy217]; exact H) | exact H
          have Ny217 := am hy217
          clear hy217
          by_cases c13 : x8_2.length + y217.length < 17592186044416
          ·rw [if_pos c13] at H
           have LMc13 := am c13
           clear c13
           obtain ⟨y220, hy220⟩ : ∃ y_ : List Int, y_ = (x8_2 ++ y217) := ⟨_, rfl⟩
           replace H : (tree_Use.l0 k2 l0 a2 y220 l1 (l1.length : Int) (wrap64 (x21_2 + 1))) = some (r1, r2) := by first | (rw [hy220]; with_reducible exact H) | (have H2_ := (Option.bind_some _ _).symm.trans H; rw [hy220]; with_reducible exact H2_) | (have H2_ := (Option.bind_some _ _).symm.trans H; with_reducible exact H2_) | with_reducible exact H | (rw [hy220]; exact H) | exact H
           have Ny220 := am hy220
           clear hy220
           have H' := am H
           clear H
           have p211 : 0 ≤ (x21_2 : Int) := of_decide_eq_true (by assumption)
           have q211 : x21_2 < (l1.length : Int) := of_decide_eq_true (by assumption)
           obtain ⟨ad211, e211, hx211_0, hx211_1, hx211_2, hx211_3, hx211_4, hx211_5⟩ := at_T36 HR1.out x21_2 p211 q211
           cases e211
           replace hx211_0 := cb HB.out hx211_0
           replace hx211_1 := cb HB.out hx211_1
           replace hx211_2 := cb HB.out hx211_2
           replace hx211_3 := cb HB.out hx211_3
           replace hx211_4 := cb HB.out hx211_4
           replace hx211_5 := cb HB.out hx211_5
           replace p211 := eq_true p211
           replace q211 := eq_true q211
           go_wp2_with (first | ((with_reducible refine gate_dst (N := 10) rfl ?_); (try (refine gate_guard (by rfl) ?_; dsimp only)); refine be (N := 10) (cs := #[.int .i64 0, .int .i64 0, .int .i64 0, .int .i64 0, .int .i64 0, .int .i64 0]) (t := 36) ?_; intro gb212 hg w14 hbox hb; replace HO_8 := am (Kd.R_below (rr HO_8) hb); have BK212 := am (hbox); have GW212 := am ((by rw [hg]; exact (below_size bx) : w.heap.size ≤ gb212)); have GE212 := am ((by rw [hg]; exact (below_size bx) : w.heap.size ≤ gb212)); replace HB := am (below_step bx hb); clear hb hbox hg; obtain ⟨_, _, _, _, _, _⟩ := c6 BK212.out; obtain ⟨_, _, _, _, _, _⟩ := f6 BK212.out) | (refine gl (some 28) Try.func61 #[.slice A0 l0.length c0, .int .i64 ((rd_T36 l1 x21_2).f0)] ?_; (with_reducible refine (tree_Path.calls _ _ l0 ((rd_T36 l1 x21_2).f0) t213 _ ?side1 ?side2 A10.out).mono ?_); (case side1 => exact Kd.C_below HR0.out bx); (case side2 => exact HC0.out); rintro e w16 ⟨v214, rfl, ho0, hb⟩; refine ⟨_, rfl, ?_⟩; have HO215 := am (Kd.V_lower (Kd.V_mono (ok' := fun k_ => some k_ ≠ (u8 : Value).ownBlock ∧ k_ ≠ gb212) ho0 (fun k_ hk_ => ⟨(Kd.fresh' (Kd.R_lt (by (with_reducible repeat first | apply rA | apply rN | apply rD); exact (Kd.R_mono (rf (rf (rf (rf (rf (rf (Kd.R_types HO_8.out BK212.out (by decide)))))))) (fun _ h_ => h_.1)))) k_ hk_), (Kd.freshB (g := gb212) (o := .cells #[.int .i64 ((rd_T36 l1 x21_2).f0), .int .i64 ((rd_T36 l1 x21_2).f1), .int .i64 ((rd_T36 l1 x21_2).f2), .int .i64 ((rd_T36 l1 x21_2).f3), .int .i64 ((rd_T36 l1 x21_2).f4), .int .i64 ((rd_T36 l1 x21_2).f5)] 36 (0, 0)) (by (iterate 6 ((with_reducible repeat first | apply kn | apply kd | apply ka); refine bp (.int .i64 0) rfl ?_; simp only [List.set])); (with_reducible repeat first | apply kn | apply kd | apply ka); exact BK212.out) k_ hk_)⟩)) (below_size bx)); replace HO_8 := am (Kd.R_below (by (with_reducible repeat first | apply rA | apply rN | apply rD); exact (Kd.R_mono (rf (rf (rf (rf (rf (rf (Kd.R_types HO_8.out BK212.out (by decide)))))))) (fun _ h_ => h_.1))) hb); replace BK212 := am (blk_below (g := gb212) (o := .cells #[.int .i64 ((rd_T36 l1 x21_2).f0), .int .i64 ((rd_T36 l1 x21_2).f1), .int .i64 ((rd_T36 l1 x21_2).f2), .int .i64 ((rd_T36 l1 x21_2).f3), .int .i64 ((rd_T36 l1 x21_2).f4), .int .i64 ((rd_T36 l1 x21_2).f5)] 36 (0, 0)) (by (iterate 6 ((with_reducible repeat first | apply kn | apply kd | apply ka); refine bp (.int .i64 0) rfl ?_; simp only [List.set])); (with_reducible repeat first | apply kn | apply kd | apply ka); exact BK212.out) hb); replace HB := am (below_step bx hb); (try clear hb); (try clear hb2); (try clear hk); (try clear hi); (try clear ho0); obtain ⟨Ao17, co17, eo17⟩ := Kd.V_slice HO215.out; subst eo17) | (refine gl (some 30) Try.func60 #[.slice Ao17 t213.length co17, .int .i64 a2] ?_; (with_reducible refine (slices_Contains_int_int.calls k2 _ _ t213 a2 true _ ?side1 ?side2 A11.out).mono ?_); (case side1 => repeat (first | exact (Kd.V_reads' HO215.out).2.2 | (with_reducible refine Kd.C_alloc ?_ _) | (with_reducible refine Kd.C_drewN ?_ _) | (with_reducible refine Kd.C_drew ?_))); (case side2 => exact (Kd.V_reads' HO215.out).2.1); rintro e w' ⟨rfl, ⟨nd, rfl⟩⟩; refine ⟨_, rfl, ?_⟩; obtain ⟨_, _, _, _, _, _⟩ := c6 BK212.out; obtain ⟨_, _, _, _, _, _⟩ := f6 BK212.out) | ((with_reducible refine gate_dst (N := 36) rfl ?_); (try (refine gate_guard (by rfl) ?_; dsimp only)); refine Kd.R_lit (Kd.int .i64) _ 3 ?hg (N := 36) ?hd (xs := ([(rd_T36 l1 x21_2).f4, (rd_T36 l1 x21_2).f5] : List Int)) (inner := [.int .i64 ((rd_T36 l1 x21_2).f4), .int .i64 ((rd_T36 l1 x21_2).f5)]) (ok := fun _ => True) (okp := fun _ => True) ?hr ?hp (fun _ hk => hk) trivial (Below.refl _ _) (Nat.le_refl _) (by simp) ?_; (case hd => rfl); (case hg => rfl); (case hr => first | (go_simp; done) | (go_simp; rfl)); (case hp => exact (Reps.one (show Kd.M (Kd.int .i64) _ _ _ ((rd_T36 l1 x21_2).f4) [.int .i64 ((rd_T36 l1 x21_2).f4)] from rfl) (Reps.one (show Kd.M (Kd.int .i64) _ _ _ ((rd_T36 l1 x21_2).f5) [.int .i64 ((rd_T36 l1 x21_2).f5)] from rfl) (Reps.none _ _)))); intro v218 w19 ho20 hb hg_ hnew_; clear hg_ hnew_; (first | rw [← Ny217.out] at ho20 | (simp only [Int.reduceToNat] at ho20; rw [← Ny217.out] at ho20)); replace HO215 := am (Kd.V_elder' (by (with_reducible repeat (first | apply Kd.V_alloc | apply Kd.V_drewN | apply Kd.V_drew)); exact HO215.out) (Kd.R_base ho20) hb); have HO219 := am (Kd.R_lower (Kd.R_new' ho20 (Kd.R_lt (rr HO_8))) (below_size bx)); replace HO_8 := am (Kd.R_elder' (rr HO_8) (Kd.R_base ho20) hb); replace BK212 := am (blk_below (kk BK212) hb); replace HB := am (below_step bx hb); clear hb ho20; obtain ⟨Ao22, co22, eo22⟩ := Kd.R_slice HO219.out; subst eo22) | ((with_reducible refine gate_builtin (b := .append) (xs := #[.tmp 31, .tmp 36]) rfl ?_); (try (refine gate_guard (by rfl) ?_; dsimp only)); at_builtin; refine Kd.R_append_rows (Kd.int .i64) (w0 := w) w.heap.size rfl (.tmp 31) (.tmp 36) 40 3 (.int .i64 0) 8 rfl Try.underlying40 info3 rfl (by decide) (by omega) u8 x8_2 y217 _ _ _ (fun k_ => some k_ ≠ (.slice Ao22 y217.length co22 : Value).ownBlock) (fun _ => False) rfl rfl ?aO ?aR (fun _ _ h => h) (fun _ h => h.elim) ?aF ?aB ?aS ?aL ?_; (case aR => repeat (first | exact (Kd.R_reads' HO219.out).2.2 | (with_reducible refine Kd.C_alloc ?_ _) | (with_reducible refine Kd.C_drewN ?_ _) | (with_reducible refine Kd.C_drew ?_))); (case aB => exact bx); (case aF => exact (fun k_ hk => Kd.fresh' (Kd.R_lt (rr HO219)) k_ hk)); (case aO => exact (by (with_reducible repeat first | apply rA | apply rN | apply rD); exact Kd.R_mono HO_8.out (fun _ hk => hk.2))); (case aS => exact (below_size bx)); (case aL => have := LMc13.out; omega); intro v221 w21 ho hb hg hat; rw [← Ny220.out] at ho; replace BK212 := am (blk_grown (kk BK212) hg (Kd.R_ne HO_8.out BK212.out (by decide))); replace HO215 := am (Kd.V_afterv (ok := (fun k_ => some k_ ≠ (.slice Ao22 y217.length co22 : Value).ownBlock ∧ k_ ≠ gb212)) (by (with_reducible repeat (first | apply Kd.V_alloc | apply Kd.V_drewN | apply Kd.V_drew)); exact Kd.V_mono HO215.out (fun _ hk => ⟨⟨hk.2, hk.1.2⟩, hk.1.1⟩)) hg hat); replace HO219 := am (Kd.R_after (ok := (fun _ => True)) (rr HO219) hg hat); replace HB := am (hb); have HO222 := am (ho); clear HO_8; clear ho hb hg hat))
           go_roundg k2
           case measure => have := HJ3.out; have := HK2.out; omega
           case rel => exact ⟨(y220), (wrap64 (x21_2 + 1)), sx, H', ⟨by have := HJ3.out; have := HK2.out; omega⟩, ⟨by (with_reducible repeat first | apply rA | apply rN | apply rD); exact Kd.R_mono HO222.out (fun _ hk => trivial)⟩, ⟨bx⟩⟩
          ·rw [if_neg c13] at H
           exact absurd H (by simp)
         ·replace c12 := Bool.eq_false_iff.mpr c12
          subst c12
          rw [if_neg (show ¬ (false = true) by decide)] at H
          have H' := am H
          clear H
          have p211 : 0 ≤ (x21_2 : Int) := of_decide_eq_true (by assumption)
          have q211 : x21_2 < (l1.length : Int) := of_decide_eq_true (by assumption)
          obtain ⟨ad211, e211, hx211_0, hx211_1, hx211_2, hx211_3, hx211_4, hx211_5⟩ := at_T36 HR1.out x21_2 p211 q211
          cases e211
          replace hx211_0 := cb HB.out hx211_0
          replace hx211_1 := cb HB.out hx211_1
          replace hx211_2 := cb HB.out hx211_2
          replace hx211_3 := cb HB.out hx211_3
          replace hx211_4 := cb HB.out hx211_4
          replace hx211_5 := cb HB.out hx211_5
          replace p211 := eq_true p211
          replace q211 := eq_true q211
          go_wp2_with (first | ((with_reducible refine gate_dst (N := 10) rfl ?_); (try (refine gate_guard (by rfl) ?_; dsimp only)); refine be (N := 10) (cs := #[.int .i64 0, .int .i64 0, .int .i64 0, .int .i64 0, .int .i64 0, .int .i64 0]) (t := 36) ?_; intro gb212 hg w23 hbox hb; replace HO_8 := am (Kd.R_below (rr HO_8) hb); have BK212 := am (hbox); have GW212 := am ((by rw [hg]; exact (below_size bx) : w.heap.size ≤ gb212)); have GE212 := am ((by rw [hg]; exact (below_size bx) : w.heap.size ≤ gb212)); replace HB := am (below_step bx hb); clear hb hbox hg; obtain ⟨_, _, _, _, _, _⟩ := c6 BK212.out; obtain ⟨_, _, _, _, _, _⟩ := f6 BK212.out) | (refine gl (some 28) Try.func61 #[.slice A0 l0.length c0, .int .i64 ((rd_T36 l1 x21_2).f0)] ?_; (with_reducible refine (tree_Path.calls _ _ l0 ((rd_T36 l1 x21_2).f0) t213 _ ?side1 ?side2 A10.out).mono ?_); (case side1 => exact Kd.C_below HR0.out bx); (case side2 => exact HC0.out); rintro e w25 ⟨v214, rfl, ho0, hb⟩; refine ⟨_, rfl, ?_⟩; have HO215 := am (Kd.V_lower (Kd.V_mono (ok' := fun k_ => some k_ ≠ (u8 : Value).ownBlock ∧ k_ ≠ gb212) ho0 (fun k_ hk_ => ⟨(Kd.fresh' (Kd.R_lt (by (with_reducible repeat first | apply rA | apply rN | apply rD); exact (Kd.R_mono (rf (rf (rf (rf (rf (rf (Kd.R_types HO_8.out BK212.out (by decide)))))))) (fun _ h_ => h_.1)))) k_ hk_), (Kd.freshB (g := gb212) (o := .cells #[.int .i64 ((rd_T36 l1 x21_2).f0), .int .i64 ((rd_T36 l1 x21_2).f1), .int .i64 ((rd_T36 l1 x21_2).f2), .int .i64 ((rd_T36 l1 x21_2).f3), .int .i64 ((rd_T36 l1 x21_2).f4), .int .i64 ((rd_T36 l1 x21_2).f5)] 36 (0, 0)) (by (iterate 6 ((with_reducible repeat first | apply kn | apply kd | apply ka); refine bp (.int .i64 0) rfl ?_; simp only [List.set])); (with_reducible repeat first | apply kn | apply kd | apply ka); exact BK212.out) k_ hk_)⟩)) (below_size bx)); replace HO_8 := am (Kd.R_below (by (with_reducible repeat first | apply rA | apply rN | apply rD); exact (Kd.R_mono (rf (rf (rf (rf (rf (rf (Kd.R_types HO_8.out BK212.out (by decide)))))))) (fun _ h_ => h_.1))) hb); replace BK212 := am (blk_below (g := gb212) (o := .cells #[.int .i64 ((rd_T36 l1 x21_2).f0), .int .i64 ((rd_T36 l1 x21_2).f1), .int .i64 ((rd_T36 l1 x21_2).f2), .int .i64 ((rd_T36 l1 x21_2).f3), .int .i64 ((rd_T36 l1 x21_2).f4), .int .i64 ((rd_T36 l1 x21_2).f5)] 36 (0, 0)) (by (iterate 6 ((with_reducible repeat first | apply kn | apply kd | apply ka); refine bp (.int .i64 0) rfl ?_; simp only [List.set])); (with_reducible repeat first | apply kn | apply kd | apply ka); exact BK212.out) hb); replace HB := am (below_step bx hb); (try clear hb); (try clear hb2); (try clear hk); (try clear hi); (try clear ho0); obtain ⟨Ao26, co26, eo26⟩ := Kd.V_slice HO215.out; subst eo26) | (refine gl (some 30) Try.func60 #[.slice Ao26 t213.length co26, .int .i64 a2] ?_; (with_reducible refine (slices_Contains_int_int.calls k2 _ _ t213 a2 false _ ?side1 ?side2 A11.out).mono ?_); (case side1 => repeat (first | exact (Kd.V_reads' HO215.out).2.2 | (with_reducible refine Kd.C_alloc ?_ _) | (with_reducible refine Kd.C_drewN ?_ _) | (with_reducible refine Kd.C_drew ?_))); (case side2 => exact (Kd.V_reads' HO215.out).2.1); rintro e w' ⟨rfl, ⟨nd, rfl⟩⟩; refine ⟨_, rfl, ?_⟩))
          go_roundg k2
          case measure => have := HJ3.out; have := HK2.out; omega
          case rel => exact ⟨(x8_2), (wrap64 (x21_2 + 1)), sx, H', ⟨by have := HJ3.out; have := HK2.out; omega⟩, ⟨rr HO_8⟩, ⟨bx⟩⟩
        ·rw [if_neg c9] at H
         exact absurd H (by simp)
       ·rw [if_neg c8] at H
        exact absurd H (by simp)
      ·rw [if_neg c7] at H
       have c7b0 : decide (x21_2 < (l1.length : Int)) = false := decide_eq_false c7
       clear c7
       replace H := Option.bind_eq_some_iff.mp H
       obtain ⟨⟨t209, t210⟩, A270, H⟩ := H
       have A27 := am A270
       clear A270
       simp only [Option.some.injEq, Prod.mk.injEq] at H
       obtain ⟨rfl, rfl⟩ := H
       obtain ⟨Ao28, co28, eo28⟩ := Kd.R_slice HO_8.out
       subst eo28
       go_wp2_with (first | (refine gl (some 40) Try.func51 #[.slice Ao28 x8_2.length co28] ?_; (with_reducible refine (money_Add.calls k2 _ _ x8_2 t209 t210 _ ?side1 ?side2 A27.out).mono ?_); (case side1 => repeat (first | exact (Kd.R_reads' HO_8.out).2.2 | (with_reducible refine Kd.C_alloc ?_ _) | (with_reducible refine Kd.C_drewN ?_ _) | (with_reducible refine Kd.C_drew ?_))); (case side2 => exact (Kd.R_reads' HO_8.out).2.1); rintro e w' ⟨rfl, ⟨nd, rfl⟩⟩; refine ⟨_, rfl, ?_⟩))
       go_ret2
       exact ⟨by first | rfl | (simp [*, errW_none, errW_some] <;> rfl), bx⟩

/-! ### tree_Over: function 25 -/
def tree_Over.l0 : Nat → List (S34) → List (S36) → List (S34) → Int → Int → Option (Int)
 | 0, _, _, _, _, _ => none
 | k + 1, x0, x1, x9, x10, x11 => if x11 < x10 then (if 0 ≤ x11 then (if x11 < (x9.length : Int) then (if ((rd_T34 x9 x11).f2) ≤ 0 then (tree_Over.l0 k x0 x1 x9 x10 (wrap64 (x11 + 1))) else ((tree_Use.f k x0 x1 x11).bind fun bt225 => (if bt225.2 = 0 then (if bt225.1 > ((rd_T34 x9 x11).f2) then (some x11) else (tree_Over.l0 k x0 x1 x9 x10 (wrap64 (x11 + 1)))) else (some x11)))) else (none)) else (none)) else (some (-1))
def tree_Over.f (k : Nat) (l0 : List (S34)) (l1 : List (S36)) : Option (Int) := tree_Over.l0 k l0 l1 l0 (l0.length : Int) 0
theorem tree_Over.mono_l : ∀ k, (∀ y0 y1 y2 y3 y4, LeO (tree_Over.l0 k y0 y1 y2 y3 y4) (tree_Over.l0 (k + 1) y0 y1 y2 y3 y4))
 | 0 => fun _ _ _ _ _ r h => by simp [tree_Over.l0] at h
 | k + 1 => by
  have ih0 := tree_Over.mono_l k
  ·intro y0 y1 y2 y3 y4
   unfold tree_Over.l0
   have ih9 := @tree_Use.mono; exact lo
theorem tree_Over.mono : ∀ a0 a1 k, LeO (tree_Over.f k a0 a1) (tree_Over.f (k + 1) a0 a1) := by
 intro a0 a1 k
 have ih0 := tree_Over.mono_l k
 unfold tree_Over.f
 have ih9 := @tree_Use.mono; exact lo
set_option maxHeartbeats 8000000 in
set_option maxRecDepth 100000 in
theorem tree_Over.calls (k : Nat) (A0 : Option Addr) (c0 : Nat) (l0 : List (S34)) (A1 : Option Addr) (c1 : Nat) (l1 : List (S36)) (r : Int) (w : World) (hr0 : Kd.C k34 w A0 l0.length l0) (hc0 : l0.length ≤ c0) (hr1 : Kd.C k36 w A1 l1.length l1) (hc1 : l1.length ≤ c1) (h : tree_Over.f k l0 l1 = some r) :
  Calls Try.prog 25 #[.slice A0 l0.length c0, .slice A1 l1.length c1] w fun e w' => e = .returned (.int .i64 r) ∧ Below w.heap.size w w' := by
 have hu34 := Try.underlying34
 have HR0 := am hr0
 have HC0 := am hc0
 clear hr0 hc0
 have HR1 := am hr1
 have HC1 := am hc1
 clear hr1 hc1
 have HB := am (Below.refl w.heap.size w)
 have H : (tree_Over.l0 k l0 l1 l0 (l0.length : Int) 0) = some r := h
 clear h
 have H' := am H
 clear H
 go_enter Try.func25, Try.ntmps25
 go_wp2
 go_loopg [11] k (fun kq v11 w' => ∃ (x11_1 : Int), v11 = .int .i64 x11_1 ∧ Aside0 (tree_Over.l0 kq l0 l1 l0 (l0.length : Int) x11_1 = some r) ∧ Aside0 (kq ≤ k) ∧ Aside0 (Below w.heap.size w w'))
 case atStart => exact ⟨(0), sx, H', ⟨Nat.le_refl _⟩, ⟨bx⟩⟩
 case round =>
  clear H'
  try clear c1
  obtain ⟨x11_1, rfl, HA, HK1, HB⟩ := hrel
  cases gk with
  | zero => exact absurd HA.out (by simp [tree_Over.l0])
  | succ k1 =>
   have H := HA.out
   clear HA
   simp only [tree_Over.l0] at H
   by_cases c3 : x11_1 < (l0.length : Int)
   ·rw [if_pos c3] at H
    have c3b0 : decide (x11_1 < (l0.length : Int)) = true := decide_eq_true c3
    clear c3
    by_cases c4 : 0 ≤ x11_1
    ·rw [if_pos c4] at H
     have c4b0 : decide (0 ≤ x11_1) = true := decide_eq_true c4
     clear c4
     by_cases c5 : x11_1 < (l0.length : Int)
     ·rw [if_pos c5] at H
      have c5b0 : decide (x11_1 < (l0.length : Int)) = true := decide_eq_true c5
      clear c5
      by_cases c6 : ((rd_T34 l0 x11_1).f2) ≤ 0
      ·rw [if_pos c6] at H
       have c6b0 : decide (((rd_T34 l0 x11_1).f2) ≤ 0) = true := decide_eq_true c6
       clear c6
       have H' := am H
       clear H
       have p223 : 0 ≤ (x11_1 : Int) := of_decide_eq_true (by assumption)
       have q223 : x11_1 < (l0.length : Int) := of_decide_eq_true (by assumption)
       obtain ⟨ad223, e223, hx223_0, hx223_1, hx223_2⟩ := at_T34 HR0.out x11_1 p223 q223
       cases e223
       replace hx223_0 := cb HB.out hx223_0
       replace hx223_1 := cb HB.out hx223_1
       replace hx223_2 := cb HB.out hx223_2
       replace p223 := eq_true p223
       replace q223 := eq_true q223
       go_wp2_with (first | ((with_reducible refine gate_dst (N := 6) rfl ?_); refine be (N := 6) (cs := #[.string (⟨#[]⟩ : ByteArray), .int .i64 0, .int .i64 0]) (t := 34) ?_; intro gb224 hg w7 hbox hb; have BK224 := am (hbox); have GW224 := am ((by rw [hg]; exact (below_size bx) : w.heap.size ≤ gb224)); have GE224 := am ((by rw [hg]; exact (below_size bx) : w.heap.size ≤ gb224)); replace HB := am (below_step bx hb); clear hb hbox hg; obtain ⟨_, _, _⟩ := c3 BK224.out; obtain ⟨_, _, _⟩ := f3 BK224.out))
       go_roundg k1
       case measure => have := HK1.out; omega
       case rel => exact ⟨(wrap64 (x11_1 + 1)), sx, H', ⟨by have := HK1.out; omega⟩, ⟨bx⟩⟩
      ·rw [if_neg c6] at H
       have c6b0 : decide (((rd_T34 l0 x11_1).f2) ≤ 0) = false := decide_eq_false c6
       clear c6
       replace H := Option.bind_eq_some_iff.mp H
       obtain ⟨⟨t225, t226⟩, A90, H⟩ := H
       have A9 := am A90
       clear A90
       by_cases c10 : t226 = 0
       ·rw [if_pos c10] at H
        have c10b0 : (t226 == 0) = true := beq_iff_eq.mpr c10
        have c10b1 : (t226 != 0) = false := bne_eq_false_iff_eq.mpr c10
        clear c10
        by_cases c11 : t225 > ((rd_T34 l0 x11_1).f2)
        ·rw [if_pos c11] at H
         have c11b0 : decide (((rd_T34 l0 x11_1).f2) < t225) = true := decide_eq_true c11
         clear c11
         obtain rfl := Option.some.inj H
         have p223 : 0 ≤ (x11_1 : Int) := of_decide_eq_true (by assumption)
         have q223 : x11_1 < (l0.length : Int) := of_decide_eq_true (by assumption)
         obtain ⟨ad223, e223, hx223_0, hx223_1, hx223_2⟩ := at_T34 HR0.out x11_1 p223 q223
         cases e223
         replace hx223_0 := cb HB.out hx223_0
         replace hx223_1 := cb HB.out hx223_1
         replace hx223_2 := cb HB.out hx223_2
         replace p223 := eq_true p223
         replace q223 := eq_true q223
         go_wp2_with (first | ((with_reducible refine gate_dst (N := 6) rfl ?_); refine be (N := 6) (cs := #[.string (⟨#[]⟩ : ByteArray), .int .i64 0, .int .i64 0]) (t := 34) ?_; intro gb224 hg w12 hbox hb; have BK224 := am (hbox); have GW224 := am ((by rw [hg]; exact (below_size bx) : w.heap.size ≤ gb224)); have GE224 := am ((by rw [hg]; exact (below_size bx) : w.heap.size ≤ gb224)); replace HB := am (below_step bx hb); clear hb hbox hg; obtain ⟨_, _, _⟩ := c3 BK224.out; obtain ⟨_, _, _⟩ := f3 BK224.out) | (refine gl (some 23) Try.func46 #[.slice (some ad223) l0.length c0, .slice A1 l1.length c1, .int .i64 x11_1] ?_; (with_reducible refine (tree_Use.calls k1 _ _ l0 _ _ l1 x11_1 t225 t226 _ ?side1 ?side2 ?side3 ?side4 A9.out).mono ?_); (case side1 => exact Kd.C_below HR0.out bx); (case side2 => exact HC0.out); (case side3 => exact Kd.C_below HR1.out bx); (case side4 => exact HC1.out); rintro e w14 ⟨rfl, hb⟩; refine ⟨_, rfl, ?_⟩; replace BK224 := am (blk_below (g := gb224) (o := .cells #[.string ((rd_T34 l0 x11_1).f0), .int .i64 ((rd_T34 l0 x11_1).f1), .int .i64 ((rd_T34 l0 x11_1).f2)] 34 (0, 0)) (by (iterate 2 ((with_reducible repeat first | apply kn | apply kd | apply ka); refine bp (.int .i64 0) rfl ?_; simp only [List.set])); (with_reducible repeat first | apply kn | apply kd | apply ka); refine blk_put (cs := #[.string (⟨#[]⟩ : ByteArray), .int .i64 0, .int .i64 0]) ?_ 0 _ rfl; (with_reducible repeat first | apply kn | apply kd | apply ka); exact BK224.out) hb); replace HB := am (below_step bx hb); (try clear hb); (try clear hb2); (try clear hk); (try clear hi); obtain ⟨_, _, _⟩ := c3 BK224.out; obtain ⟨_, _, _⟩ := f3 BK224.out))
         go_ret
         exact ⟨by first | rfl | (simp [*, errW_none, errW_some] <;> rfl), bx⟩
        ·rw [if_neg c11] at H
         have c11b0 : decide (((rd_T34 l0 x11_1).f2) < t225) = false := decide_eq_false c11
         clear c11
         have H' := am H
         clear H
         have p223 : 0 ≤ (x11_1 : Int) := of_decide_eq_true (by assumption)
         have q223 : x11_1 < (l0.length : Int) := of_decide_eq_true (by assumption)
         obtain ⟨ad223, e223, hx223_0, hx223_1, hx223_2⟩ := at_T34 HR0.out x11_1 p223 q223
         cases e223
         replace hx223_0 := cb HB.out hx223_0
         replace hx223_1 := cb HB.out hx223_1
         replace hx223_2 := cb HB.out hx223_2
         replace p223 := eq_true p223
         replace q223 := eq_true q223
         go_wp2_with (first | ((with_reducible refine gate_dst (N := 6) rfl ?_); refine be (N := 6) (cs := #[.string (⟨#[]⟩ : ByteArray), .int .i64 0, .int .i64 0]) (t := 34) ?_; intro gb224 hg w16 hbox hb; have BK224 := am (hbox); have GW224 := am ((by rw [hg]; exact (below_size bx) : w.heap.size ≤ gb224)); have GE224 := am ((by rw [hg]; exact (below_size bx) : w.heap.size ≤ gb224)); replace HB := am (below_step bx hb); clear hb hbox hg; obtain ⟨_, _, _⟩ := c3 BK224.out; obtain ⟨_, _, _⟩ := f3 BK224.out) | (refine gl (some 23) Try.func46 #[.slice (some ad223) l0.length c0, .slice A1 l1.length c1, .int .i64 x11_1] ?_; (with_reducible refine (tree_Use.calls k1 _ _ l0 _ _ l1 x11_1 t225 t226 _ ?side1 ?side2 ?side3 ?side4 A9.out).mono ?_); (case side1 => exact Kd.C_below HR0.out bx); (case side2 => exact HC0.out); (case side3 => exact Kd.C_below HR1.out bx); (case side4 => exact HC1.out); rintro e w18 ⟨rfl, hb⟩; refine ⟨_, rfl, ?_⟩; replace BK224 := am (blk_below (g := gb224) (o := .cells #[.string ((rd_T34 l0 x11_1).f0), .int .i64 ((rd_T34 l0 x11_1).f1), .int .i64 ((rd_T34 l0 x11_1).f2)] 34 (0, 0)) (by (iterate 2 ((with_reducible repeat first | apply kn | apply kd | apply ka); refine bp (.int .i64 0) rfl ?_; simp only [List.set])); (with_reducible repeat first | apply kn | apply kd | apply ka); refine blk_put (cs := #[.string (⟨#[]⟩ : ByteArray), .int .i64 0, .int .i64 0]) ?_ 0 _ rfl; (with_reducible repeat first | apply kn | apply kd | apply ka); exact BK224.out) hb); replace HB := am (below_step bx hb); (try clear hb); (try clear hb2); (try clear hk); (try clear hi); obtain ⟨_, _, _⟩ := c3 BK224.out; obtain ⟨_, _, _⟩ := f3 BK224.out))
         go_roundg k1
         case measure => have := HK1.out; omega
         case rel => exact ⟨(wrap64 (x11_1 + 1)), sx, H', ⟨by have := HK1.out; omega⟩, ⟨bx⟩⟩
       ·rw [if_neg c10] at H
        have c10b0 : (t226 == 0) = false := beq_eq_false_iff_ne.mpr c10
        have c10b1 : (t226 != 0) = true := bne_iff_ne.mpr c10
        obtain rfl := Option.some.inj H
        have p223 : 0 ≤ (x11_1 : Int) := of_decide_eq_true (by assumption)
        have q223 : x11_1 < (l0.length : Int) := of_decide_eq_true (by assumption)
        obtain ⟨ad223, e223, hx223_0, hx223_1, hx223_2⟩ := at_T34 HR0.out x11_1 p223 q223
        cases e223
        replace hx223_0 := cb HB.out hx223_0
        replace hx223_1 := cb HB.out hx223_1
        replace hx223_2 := cb HB.out hx223_2
        replace p223 := eq_true p223
        replace q223 := eq_true q223
        go_wp2_with (first | ((with_reducible refine gate_dst (N := 6) rfl ?_); refine be (N := 6) (cs := #[.string (⟨#[]⟩ : ByteArray), .int .i64 0, .int .i64 0]) (t := 34) ?_; intro gb224 hg w20 hbox hb; have BK224 := am (hbox); have GW224 := am ((by rw [hg]; exact (below_size bx) : w.heap.size ≤ gb224)); have GE224 := am ((by rw [hg]; exact (below_size bx) : w.heap.size ≤ gb224)); replace HB := am (below_step bx hb); clear hb hbox hg; obtain ⟨_, _, _⟩ := c3 BK224.out; obtain ⟨_, _, _⟩ := f3 BK224.out) | (refine gl (some 23) Try.func46 #[.slice (some ad223) l0.length c0, .slice A1 l1.length c1, .int .i64 x11_1] ?_; (with_reducible refine (tree_Use.calls k1 _ _ l0 _ _ l1 x11_1 t225 t226 _ ?side1 ?side2 ?side3 ?side4 A9.out).mono ?_); (case side1 => exact Kd.C_below HR0.out bx); (case side2 => exact HC0.out); (case side3 => exact Kd.C_below HR1.out bx); (case side4 => exact HC1.out); rintro e w22 ⟨rfl, hb⟩; refine ⟨_, rfl, ?_⟩; replace BK224 := am (blk_below (g := gb224) (o := .cells #[.string ((rd_T34 l0 x11_1).f0), .int .i64 ((rd_T34 l0 x11_1).f1), .int .i64 ((rd_T34 l0 x11_1).f2)] 34 (0, 0)) (by (iterate 2 ((with_reducible repeat first | apply kn | apply kd | apply ka); refine bp (.int .i64 0) rfl ?_; simp only [List.set])); (with_reducible repeat first | apply kn | apply kd | apply ka); refine blk_put (cs := #[.string (⟨#[]⟩ : ByteArray), .int .i64 0, .int .i64 0]) ?_ 0 _ rfl; (with_reducible repeat first | apply kn | apply kd | apply ka); exact BK224.out) hb); replace HB := am (below_step bx hb); (try clear hb); (try clear hb2); (try clear hk); (try clear hi)))
        go_ret
        exact ⟨by first | rfl | (simp [*, errW_none, errW_some] <;> rfl), bx⟩
     ·rw [if_neg c5] at H
      exact absurd H (by simp)
    ·rw [if_neg c4] at H
     exact absurd H (by simp)
   ·rw [if_neg c3] at H
    have c3b0 : decide (x11_1 < (l0.length : Int)) = false := decide_eq_false c3
    clear c3
    obtain rfl := Option.some.inj H
    go_wp2
    go_ret
    exact ⟨by first | rfl | (simp [*, errW_none, errW_some] <;> rfl), bx⟩

end Go.Proofs.Ytijeigiilgapdaa.QSoundTells
