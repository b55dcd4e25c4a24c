/- Written by a program of this session (wip/tools/mp.sh): functions as Lean functions, with proofs that the calls come to what they say. Lean checks it. -/
import Derived.Test.YtijeigiilgapdaaQSoundTellsx0
import Derived.Test.YtijeigiilgapdaaXWd
namespace Go.Proofs.Ytijeigiilgapdaa.QSoundTells
open Go.RowKit Go.Proofs.YtijeigiilgapdaaW.PrintWords Go.Proofs.YtijeigiilgapdaaW.PrintLast Go.Proofs.YtijeigiilgapdaaW.PrintMore
attribute [local go_sem] max2_int min2_int max_two min_two max_three min_three max_four min_four   -- for this text's walks alone
set_option linter.unusedVariables false
set_option linter.unusedSimpArgs false

/-! ### prebendref10_Good: function 29 -/
def prebendref10_Good.l0 : Nat → List (S68) → Int → Option (Bool)
 | 0, _, _ => none
 | k + 1, x0, x3 => if x3 < (x0.length : Int) then (if 0 ≤ x3 then (if ((rd_T68 x0 x3).f0) < 0 then (some false) else (if ((rd_T68 x0 x3).f0) > 7 then (some false) else (if ((rd_T68 x0 x3).f1) < 0 then (some false) else (if ((rd_T68 x0 x3).f1) > 1099511627776 then (some false) else (if ((rd_T68 x0 x3).f2) < 0 then (some false) else (if ((rd_T68 x0 x3).f2) > 1099511627776 then (some false) else (prebendref10_Good.l0 k x0 (wrap64 (x3 + 1))))))))) else (none)) else (some (decide ((x0.length : Int) ≤ 16)))
def prebendref10_Good.f (k : Nat) (l0 : List (S68)) : Option (Bool) := prebendref10_Good.l0 k l0 0
theorem prebendref10_Good.mono_l : ∀ k, (∀ y0 y1, LeO (prebendref10_Good.l0 k y0 y1) (prebendref10_Good.l0 (k + 1) y0 y1))
 | 0 => fun _ _ r h => by simp [prebendref10_Good.l0] at h
 | k + 1 => by
  have ih0 := prebendref10_Good.mono_l k
  ·intro y0 y1
   unfold prebendref10_Good.l0
   exact lo
theorem prebendref10_Good.mono : ∀ a0 k, LeO (prebendref10_Good.f k a0) (prebendref10_Good.f (k + 1) a0) := by
 intro a0 k; have ih0 := prebendref10_Good.mono_l k; unfold prebendref10_Good.f
 exact lo
set_option maxHeartbeats 8000000 in
set_option maxRecDepth 100000 in
theorem prebendref10_Good.calls (k : Nat) (A0 : Option Addr) (c0 : Nat) (l0 : List (S68)) (r : Bool) (w : World) (hr0 : Kd.C k68 w A0 l0.length l0) (hc0 : l0.length ≤ c0) (h : prebendref10_Good.f k l0 = some r) :
  Calls Try.prog 29 #[.slice A0 l0.length c0] w fun e w' => e = .returned (.bool r) ∧ Below w.heap.size w w' := by
 have hu68 := Try.underlying68; have HR0 := am hr0; have HC0 := am hc0; clear hr0 hc0; have HB := am (Below.refl w.heap.size w); have H : (prebendref10_Good.l0 k l0 0) = some r := h; clear h; have H' := am H; clear H
 go_enter Try.func29, Try.ntmps29
 go_wp2
 go_loopg [3] k (fun kq v3 w' => ∃ (x3_1 : Int), v3 = .int .i64 x3_1 ∧ Aside0 (prebendref10_Good.l0 kq l0 x3_1 = some r) ∧ Aside0 (kq ≤ k) ∧ Aside0 (Below w.heap.size w w'))
 case atStart => exact ⟨(0), sx, H', ⟨Nat.le_refl _⟩, ⟨HB.out⟩⟩
 case round =>
  clear H'; obtain ⟨x3_1, rfl, HA, HK1, HB⟩ := hrel
  cases gk with
  | zero => exact absurd HA.out (by simp [prebendref10_Good.l0])
  | succ k1 =>
   have H := HA.out; clear HA; simp only [prebendref10_Good.l0] at H
   by_cases c2 : x3_1 < (l0.length : Int)
   ·rw [if_pos c2] at H
    have c2b0 := decide_eq_true c2; clear c2
    by_cases c3 : 0 ≤ x3_1
    ·rw [if_pos c3] at H
     have c3b0 := decide_eq_true c3; clear c3
     have p297 : 0 ≤ (x3_1 : Int) := of_decide_eq_true (by assumption); have q297 : x3_1 < (l0.length : Int) := of_decide_eq_true (by assumption); obtain ⟨ad297, e297, hx297_0, hx297_1, hx297_2⟩ := at_T68 HR0.out x3_1 p297 q297; cases e297; replace hx297_0 := cb HB.out hx297_0; replace hx297_1 := cb HB.out hx297_1; replace hx297_2 := cb HB.out hx297_2; replace p297 := eq_true p297; replace q297 := eq_true q297; go_upto_region 2 with (first | ((with_reducible refine gate_dst (N := 4) rfl ?_); refine be (N := 4) (cs := #[.int .i64 0, .int .i64 0, .int .i64 0]) (t := 68) ?_; intro gb298 hg w5 hbox hb; have BK298 := am (hbox); have GW298 := am ((by rw [hg]; exact (below_size HB.out) : w.heap.size ≤ gb298)); have GE298 := am ((by rw [hg]; exact (below_size HB.out) : w.heap.size ≤ gb298)); replace HB := am (below_step HB.out hb); clear hb hbox hg; obtain ⟨_, _, _⟩ := c3 BK298.out; obtain ⟨_, _, _⟩ := f3 BK298.out))
     by_cases c4 : ((rd_T68 l0 x3_1).f0) < 0
     ·rw [if_pos c4] at H
      have c4b0 := decide_eq_true c4; clear c4; obtain rfl := Option.some.inj H; go_wp2
      go_ret; exact ⟨by first | rfl | (simp [*, errW_none, errW_some] <;> rfl), bx⟩
     ·rw [if_neg c4] at H
      have c4b0 := decide_eq_false c4; clear c4
      by_cases c7 : ((rd_T68 l0 x3_1).f0) > 7
      ·rw [if_pos c7] at H
       have c7b0 := decide_eq_true c7; clear c7; obtain rfl := Option.some.inj H; go_wp2
       go_ret; exact ⟨by first | rfl | (simp [*, errW_none, errW_some] <;> rfl), bx⟩
      ·rw [if_neg c7] at H
       have c7b0 := decide_eq_false c7; clear c7
       by_cases c10 : ((rd_T68 l0 x3_1).f1) < 0
       ·rw [if_pos c10] at H
        have c10b0 := decide_eq_true c10; clear c10; obtain rfl := Option.some.inj H; go_wp2
        go_ret; exact ⟨by first | rfl | (simp [*, errW_none, errW_some] <;> rfl), bx⟩
       ·rw [if_neg c10] at H
        have c10b0 := decide_eq_false c10; clear c10
        by_cases c13 : ((rd_T68 l0 x3_1).f1) > 1099511627776
        ·rw [if_pos c13] at H
         have c13b0 := decide_eq_true c13; clear c13; obtain rfl := Option.some.inj H; go_wp2
         go_ret; exact ⟨by first | rfl | (simp [*, errW_none, errW_some] <;> rfl), bx⟩
        ·rw [if_neg c13] at H
         have c13b0 := decide_eq_false c13; clear c13
         by_cases c16 : ((rd_T68 l0 x3_1).f2) < 0
         ·rw [if_pos c16] at H
          have c16b0 := decide_eq_true c16; clear c16; obtain rfl := Option.some.inj H; go_wp2
          go_ret; exact ⟨by first | rfl | (simp [*, errW_none, errW_some] <;> rfl), bx⟩
         ·rw [if_neg c16] at H
          have c16b0 := decide_eq_false c16; clear c16
          by_cases c19 : ((rd_T68 l0 x3_1).f2) > 1099511627776
          ·rw [if_pos c19] at H
           have c19b0 := decide_eq_true c19; clear c19; obtain rfl := Option.some.inj H; go_wp2
           go_ret; exact ⟨by first | rfl | (simp [*, errW_none, errW_some] <;> rfl), bx⟩
          ·rw [if_neg c19] at H
           have c19b0 := decide_eq_false c19; clear c19; have H' := am H; clear H; go_wp2
           go_roundg k1
           case measure => have := HK1.out; omega
           case rel => exact ⟨(wrap64 (x3_1 + 1)), sx, H', ⟨by have := HK1.out; omega⟩, ⟨bx⟩⟩
    ·rw [if_neg c3] at H
     exact absurd H (by simp)
   ·rw [if_neg c2] at H
    have c2b0 := decide_eq_false c2; clear c2; obtain rfl := Option.some.inj H; go_wp2; go_ret; exact ⟨by first | rfl | (simp [*, errW_none, errW_some] <;> rfl), HB.out⟩

/-! ### prebendref25_allocs: function 30 -/
def prebendref25_allocs.l0 : Nat → Int → Int → Int → Int → List (S34) → List (S36) → List (S68) → List (S50) → List ByteArray → Option (Bool)
 | 0, _, _, _, _, _, _, _, _, _ => none
 | k + 1, x3, x300000, x300001, x300002, x300003, x300004, x300005, x300006, x300007 => if x3 < (x300004.length : Int) then (if 0 ≤ x3 then (if ((rd_T36 x300004 x3).f0) < 0 then (some false) else (if ((rd_T36 x300004 x3).f0) ≥ (x300003.length : Int) then (some false) else (if ((rd_T36 x300004 x3).f1) < 0 then (some false) else (if ((rd_T36 x300004 x3).f1) ≥ ((rd_T36 x300004 x3).f2) then (some false) else (if ((rd_T36 x300004 x3).f2) > 1099511627776 then (some false) else (prebendref25_allocs.l0 k (wrap64 (x3 + 1)) x300000 x300001 x300002 x300003 x300004 x300005 x300006 x300007)))))) else (none)) else (some (decide ((x300004.length : Int) ≤ 16)))
def prebendref25_allocs.f (k : Nat) (a0_0 : Int) (a0_1 : Int) (a0_2 : Int) (l0_3 : List (S34)) (l0_4 : List (S36)) (l0_5 : List (S68)) (l0_6 : List (S50)) (l0_7 : List ByteArray) : Option (Bool) := prebendref25_allocs.l0 k 0 a0_0 a0_1 a0_2 l0_3 l0_4 l0_5 l0_6 l0_7
theorem prebendref25_allocs.mono_l : ∀ k, (∀ y0 y1 y2 y3 y4 y5 y6 y7 y8, LeO (prebendref25_allocs.l0 k y0 y1 y2 y3 y4 y5 y6 y7 y8) (prebendref25_allocs.l0 (k + 1) y0 y1 y2 y3 y4 y5 y6 y7 y8))
 | 0 => fun _ _ _ _ _ _ _ _ _ r h => by simp [prebendref25_allocs.l0] at h
 | k + 1 => by
  have ih0 := prebendref25_allocs.mono_l k
  ·intro y0 y1 y2 y3 y4 y5 y6 y7 y8
   unfold prebendref25_allocs.l0
   exact lo
theorem prebendref25_allocs.mono : ∀ a0 a1 a2 a3 a4 a5 a6 a7 k, LeO (prebendref25_allocs.f k a0 a1 a2 a3 a4 a5 a6 a7) (prebendref25_allocs.f (k + 1) a0 a1 a2 a3 a4 a5 a6 a7) := by
 intro a0 a1 a2 a3 a4 a5 a6 a7 k; have ih0 := prebendref25_allocs.mono_l k; unfold prebendref25_allocs.f
 exact lo
set_option maxHeartbeats 8000000 in
set_option maxRecDepth 100000 in
theorem prebendref25_allocs.calls (k : Nat) (a0_0 : Int) (a0_1 : Int) (a0_2 : Int) (A0_3 : Option Addr) (c0_3 : Nat) (l0_3 : List (S34)) (A0_4 : Option Addr) (c0_4 : Nat) (l0_4 : List (S36)) (A0_5 : Option Addr) (c0_5 : Nat) (l0_5 : List (S68)) (A0_6 : Option Addr) (c0_6 : Nat) (l0_6 : List (S50)) (A0_7 : Option Addr) (c0_7 : Nat) (l0_7 : List ByteArray) (r : Bool) (w : World) (hr0_3 : Kd.C k34 w A0_3 l0_3.length l0_3) (hc0_3 : l0_3.length ≤ c0_3) (hr0_4 : Kd.C k36 w A0_4 l0_4.length l0_4) (hc0_4 : l0_4.length ≤ c0_4) (hr0_5 : Kd.C k68 w A0_5 l0_5.length l0_5) (hc0_5 : l0_5.length ≤ c0_5) (hr0_6 : Kd.C k50 w A0_6 l0_6.length l0_6) (hc0_6 : l0_6.length ≤ c0_6) (hr0_7 : Kd.C Kd.string w A0_7 l0_7.length l0_7) (hc0_7 : l0_7.length ≤ c0_7) (h : prebendref25_allocs.f k a0_0 a0_1 a0_2 l0_3 l0_4 l0_5 l0_6 l0_7 = some r) :
  Calls Try.prog 30 #[.agg #[.int .i64 a0_0, .int .i64 a0_1, .int .i64 a0_2, .slice A0_3 l0_3.length c0_3, .slice A0_4 l0_4.length c0_4, .slice A0_5 l0_5.length c0_5, .slice A0_6 l0_6.length c0_6, .slice A0_7 l0_7.length c0_7]] w fun e w' => e = .returned (.bool r) ∧ Below w.heap.size w w' := by
 have hu28 := Try.underlying28; have hu36 := Try.underlying36; have HR0_3 := am hr0_3; have HC0_3 := am hc0_3; clear hr0_3 hc0_3; have HR0_4 := am hr0_4; have HC0_4 := am hc0_4; clear hr0_4 hc0_4; have HR0_5 := am hr0_5; have HC0_5 := am hc0_5; clear hr0_5 hc0_5; have HR0_6 := am hr0_6; have HC0_6 := am hc0_6; clear hr0_6 hc0_6; have HR0_7 := am hr0_7; have HC0_7 := am hc0_7; clear hr0_7 hc0_7; have HB := am (Below.refl w.heap.size w); have H : (prebendref25_allocs.l0 k 0 a0_0 a0_1 a0_2 l0_3 l0_4 l0_5 l0_6 l0_7) = some r := h; clear h; have H' := am H; clear H
 go_enter Try.func30, Try.ntmps30
 go_wp2_with (first | ((with_reducible refine gate_dst (N := 1) rfl ?_); (try (refine gate_guard (by rfl) ?_; dsimp only)); refine be (N := 1) (cs := #[.int .i64 a0_0, .int .i64 a0_1, .int .i64 a0_2, .slice A0_3 l0_3.length c0_3, .slice A0_4 l0_4.length c0_4, .slice A0_5 l0_5.length c0_5, .slice A0_6 l0_6.length c0_6, .slice A0_7 l0_7.length c0_7]) (t := 28) ?_; intro gb299 hg w2 hbox hb; have BK299 := am (hbox); have GW299 := am ((by rw [hg]; exact (below_size HB.out) : w.heap.size ≤ gb299)); have GE299 := am ((by rw [hg]; exact (below_size HB.out) : w.heap.size ≤ gb299)); replace HB := am (below_step HB.out hb); clear hb hbox hg))
 go_loopg [3] k (fun kq v3 w' => ∃ (x3_1 : Int), v3 = .int .i64 x3_1 ∧ Aside0 (prebendref25_allocs.l0 kq x3_1 a0_0 a0_1 a0_2 l0_3 l0_4 l0_5 l0_6 l0_7 = some r) ∧ Aside0 (kq ≤ k) ∧ Aside0 (w'.heap[gb299]? = some (.cells #[.int .i64 a0_0, .int .i64 a0_1, .int .i64 a0_2, (.slice A0_3 l0_3.length c0_3), (.slice A0_4 l0_4.length c0_4), (.slice A0_5 l0_5.length c0_5), (.slice A0_6 l0_6.length c0_6), (.slice A0_7 l0_7.length c0_7)] 28 (0, 0))) ∧ Aside0 (Below w.heap.size w w'))
 case atStart => exact ⟨(0), sx, H', ⟨Nat.le_refl _⟩, ⟨BK299.out⟩, ⟨bx⟩⟩
 case round =>
  clear H'; obtain ⟨x3_1, rfl, HA, HK1, BK299, HB⟩ := hrel
  cases gk with
  | zero => exact absurd HA.out (by simp [prebendref25_allocs.l0])
  | succ k1 =>
   have H := HA.out; clear HA; simp only [prebendref25_allocs.l0] at H
   by_cases c3 : x3_1 < (l0_4.length : Int)
   ·rw [if_pos c3] at H
    have c3b0 := decide_eq_true c3; clear c3
    by_cases c4 : 0 ≤ x3_1
    ·rw [if_pos c4] at H
     have c4b0 := decide_eq_true c4; clear c4
     by_cases c5 : ((rd_T36 l0_4 x3_1).f0) < 0
     ·rw [if_pos c5] at H
      have c5b0 := decide_eq_true c5; clear c5; obtain rfl := Option.some.inj H; obtain ⟨_, _, _, _, _, _, _, _⟩ := c8 BK299.out; have p300 : 0 ≤ (x3_1 : Int) := of_decide_eq_true (by assumption); have q300 : x3_1 < (l0_4.length : Int) := of_decide_eq_true (by assumption); obtain ⟨ad300, e300, hx300_0, hx300_1, hx300_2, hx300_3, hx300_4, hx300_5⟩ := at_T36 HR0_4.out x3_1 p300 q300; cases e300; replace hx300_0 := cb HB.out hx300_0; replace hx300_1 := cb HB.out hx300_1; replace hx300_2 := cb HB.out hx300_2; replace hx300_3 := cb HB.out hx300_3; replace hx300_4 := cb HB.out hx300_4; replace hx300_5 := cb HB.out hx300_5; replace p300 := eq_true p300; replace q300 := eq_true q300; go_wp2_with (first | ((with_reducible refine gate_dst (N := 4) rfl ?_); (try (refine gate_guard (by rfl) ?_; dsimp only)); refine be (N := 4) (cs := #[.int .i64 0, .int .i64 0, .int .i64 0, .int .i64 0, .int .i64 0, .int .i64 0]) (t := 36) ?_; intro gb301 hg w7 hbox hb; have BK301 := am (hbox); have GW301 := am ((by rw [hg]; exact (below_size HB.out) : w.heap.size ≤ gb301)); have GE301 := am ((by rw [hg]; exact (below_size HB.out) : w.heap.size ≤ gb301)); replace HB := am (below_step HB.out hb); have NB299_301 := am ((by rw [hg]; exact Nat.ne_of_lt (blk_lt BK299.out) : gb299 ≠ gb301)); have NB301_299 := am ((by rw [hg]; exact Nat.ne_of_gt (blk_lt BK299.out) : gb301 ≠ gb299)); replace BK299 := am (blk_below BK299.out hb); clear hb hbox hg; have hnb8 := NB301_299.out; have hnc8 := NB299_301.out; obtain ⟨_, _, _, _, _, _⟩ := c6 BK301.out; obtain ⟨_, _, _, _, _, _⟩ := f6 BK301.out))
      go_ret; exact ⟨by first | rfl | (simp [*, errW_none, errW_some] <;> rfl), bx⟩
     ·rw [if_neg c5] at H
      have c5b0 := decide_eq_false c5; clear c5
      obtain ⟨_, _, _, _, _, _, _, _⟩ := c8 BK299.out; have p300 : 0 ≤ (x3_1 : Int) := of_decide_eq_true (by assumption); have q300 : x3_1 < (l0_4.length : Int) := of_decide_eq_true (by assumption); obtain ⟨ad300, e300, hx300_0, hx300_1, hx300_2, hx300_3, hx300_4, hx300_5⟩ := at_T36 HR0_4.out x3_1 p300 q300; cases e300; replace hx300_0 := cb HB.out hx300_0; replace hx300_1 := cb HB.out hx300_1; replace hx300_2 := cb HB.out hx300_2; replace hx300_3 := cb HB.out hx300_3; replace hx300_4 := cb HB.out hx300_4; replace hx300_5 := cb HB.out hx300_5; replace p300 := eq_true p300; replace q300 := eq_true q300; go_upto_region 5 with (first | ((with_reducible refine gate_dst (N := 4) rfl ?_); (try (refine gate_guard (by rfl) ?_; dsimp only)); refine be (N := 4) (cs := #[.int .i64 0, .int .i64 0, .int .i64 0, .int .i64 0, .int .i64 0, .int .i64 0]) (t := 36) ?_; intro gb301 hg w12 hbox hb; have BK301 := am (hbox); have GW301 := am ((by rw [hg]; exact (below_size HB.out) : w.heap.size ≤ gb301)); have GE301 := am ((by rw [hg]; exact (below_size HB.out) : w.heap.size ≤ gb301)); replace HB := am (below_step HB.out hb); have NB299_301 := am ((by rw [hg]; exact Nat.ne_of_lt (blk_lt BK299.out) : gb299 ≠ gb301)); have NB301_299 := am ((by rw [hg]; exact Nat.ne_of_gt (blk_lt BK299.out) : gb301 ≠ gb299)); replace BK299 := am (blk_below BK299.out hb); clear hb hbox hg; have hnb13 := NB301_299.out; have hnc13 := NB299_301.out; obtain ⟨_, _, _, _, _, _⟩ := c6 BK301.out; obtain ⟨_, _, _, _, _, _⟩ := f6 BK301.out; obtain ⟨_, _, _, _, _, _, _, _⟩ := c8 BK299.out; obtain ⟨_, _, _, _, _, _, _, _⟩ := f8 BK299.out))
      by_cases c10 : ((rd_T36 l0_4 x3_1).f0) ≥ (l0_3.length : Int)
      ·rw [if_pos c10] at H
       have c10b0 := decide_eq_true c10; clear c10; obtain rfl := Option.some.inj H; go_wp2
       go_ret; exact ⟨by first | rfl | (simp [*, errW_none, errW_some] <;> rfl), bx⟩
      ·rw [if_neg c10] at H
       have c10b0 := decide_eq_false c10; clear c10
       by_cases c16 : ((rd_T36 l0_4 x3_1).f1) < 0
       ·rw [if_pos c16] at H
        have c16b0 := decide_eq_true c16; clear c16; obtain rfl := Option.some.inj H; go_wp2
        go_ret; exact ⟨by first | rfl | (simp [*, errW_none, errW_some] <;> rfl), bx⟩
       ·rw [if_neg c16] at H
        have c16b0 := decide_eq_false c16; clear c16
        by_cases c22 : ((rd_T36 l0_4 x3_1).f1) ≥ ((rd_T36 l0_4 x3_1).f2)
        ·rw [if_pos c22] at H
         have c22b0 := decide_eq_true c22; clear c22; obtain rfl := Option.some.inj H; go_wp2
         go_ret; exact ⟨by first | rfl | (simp [*, errW_none, errW_some] <;> rfl), bx⟩
        ·rw [if_neg c22] at H
         have c22b0 := decide_eq_false c22; clear c22
         by_cases c28 : ((rd_T36 l0_4 x3_1).f2) > 1099511627776
         ·rw [if_pos c28] at H
          have c28b0 := decide_eq_true c28; clear c28; obtain rfl := Option.some.inj H; go_wp2
          go_ret; exact ⟨by first | rfl | (simp [*, errW_none, errW_some] <;> rfl), bx⟩
         ·rw [if_neg c28] at H
          have c28b0 := decide_eq_false c28; clear c28; have H' := am H; clear H; go_wp2
          go_roundg k1
          case measure => have := HK1.out; omega
          case rel => exact ⟨(wrap64 (x3_1 + 1)), sx, H', ⟨by have := HK1.out; omega⟩, ⟨by (with_reducible repeat first | apply kn | apply kd | apply ka); refine blk_far ?_ NB299_301.out _; (with_reducible repeat first | apply kn | apply kd | apply ka); refine blk_far ?_ NB299_301.out _; (with_reducible repeat first | apply kn | apply kd | apply ka); refine blk_far ?_ NB299_301.out _; (with_reducible repeat first | apply kn | apply kd | apply ka); refine blk_far ?_ NB299_301.out _; (with_reducible repeat first | apply kn | apply kd | apply ka); refine blk_far ?_ NB299_301.out _; (with_reducible repeat first | apply kn | apply kd | apply ka); refine blk_far ?_ NB299_301.out _; (with_reducible repeat first | apply kn | apply kd | apply ka); exact BK299.out⟩, ⟨bx⟩⟩
    ·rw [if_neg c4] at H
     exact absurd H (by simp)
   ·rw [if_neg c3] at H
    have c3b0 := decide_eq_false c3; clear c3; obtain rfl := Option.some.inj H; obtain ⟨_, _, _, _, _, _, _, _⟩ := c8 BK299.out; go_wp2; go_ret; exact ⟨by first | rfl | (simp [*, errW_none, errW_some] <;> rfl), HB.out⟩

end Go.Proofs.Ytijeigiilgapdaa.QSoundTells
