/- Written by a program of this session (wip/tools/mp.sh): functions as Lean functions, with proofs that the calls come to what they say. Lean checks it. -/
import Derived.Test.YtijeigiilgapdaaQSoundTellsx0
import Derived.Test.YtijeigiilgapdaaXWd
namespace Go.Proofs.Ytijeigiilgapdaa.QSoundTells
open Go.RowKit Go.Proofs.YtijeigiilgapdaaW.PrintWords Go.Proofs.YtijeigiilgapdaaW.PrintLast Go.Proofs.YtijeigiilgapdaaW.PrintMore
attribute [local go_sem] max2_int min2_int max_two min_two max_three min_three max_four min_four   -- for this text's walks alone
set_option linter.unusedVariables false
set_option linter.unusedSimpArgs false

/-! ### prebendref19_draws: function 62 -/
mutual
def prebendref19_draws.l0 : Nat → List (S60) → Int → Option (Bool)
 | 0, _, _ => none
 | k + 1, x0, x3 => if x3 < (x0.length : Int) then (if 0 ≤ x3 then (if ((rd_T60 x0 x3).f0) < 0 then (prebendref19_draws.j1 k x0 x3 true ((rd_T60 x0 x3).f0) ((rd_T60 x0 x3).f1)) else (if ((rd_T60 x0 x3).f0) > 15 then (prebendref19_draws.j1 k x0 x3 true ((rd_T60 x0 x3).f0) ((rd_T60 x0 x3).f1)) else (if ((rd_T60 x0 x3).f1) < 1 then (prebendref19_draws.j1 k x0 x3 true ((rd_T60 x0 x3).f0) ((rd_T60 x0 x3).f1)) else (prebendref19_draws.j1 k x0 x3 (decide (((rd_T60 x0 x3).f1) > 1152921504606846976)) ((rd_T60 x0 x3).f0) ((rd_T60 x0 x3).f1))))) else (none)) else (some (decide ((x0.length : Int) ≤ 16)))
def prebendref19_draws.j1 : Nat → List (S60) → Int → Bool → Int → Int → Option (Bool)
 | 0, _, _, _, _, _ => none
 | k + 1, x0, x3, x33, x304000, x304001 => if x33 = true then (some false) else (prebendref19_draws.l1 k x0 x3 0 x304000 x304001)
def prebendref19_draws.l1 : Nat → List (S60) → Int → Int → Int → Int → Option (Bool)
 | 0, _, _, _, _, _ => none
 | k + 1, x0, x3, x5, x304000, x304001 => if x5 < x3 then (if 0 ≤ x5 then (if x5 < (x0.length : Int) then (if ((rd_T60 x0 x5).f0) = x304000 then (some false) else (prebendref19_draws.l1 k x0 x3 (wrap64 (x5 + 1)) x304000 x304001)) else (none)) else (none)) else (prebendref19_draws.l0 k x0 (wrap64 (x3 + 1)))
end
def prebendref19_draws.f (k : Nat) (l0 : List (S60)) : Option (Bool) := prebendref19_draws.l0 k l0 0
theorem prebendref19_draws.mono_l : ∀ k, (∀ y0 y1, LeO (prebendref19_draws.l0 k y0 y1) (prebendref19_draws.l0 (k + 1) y0 y1)) ∧ (∀ y0 y1 y2 y3 y4, LeO (prebendref19_draws.j1 k y0 y1 y2 y3 y4) (prebendref19_draws.j1 (k + 1) y0 y1 y2 y3 y4)) ∧ (∀ y0 y1 y2 y3 y4, LeO (prebendref19_draws.l1 k y0 y1 y2 y3 y4) (prebendref19_draws.l1 (k + 1) y0 y1 y2 y3 y4))
 | 0 => ⟨fun _ _ r h => by simp [prebendref19_draws.l0] at h, fun _ _ _ _ _ r h => by simp [prebendref19_draws.j1] at h, fun _ _ _ _ _ r h => by simp [prebendref19_draws.l1] at h⟩
 | k + 1 => by
  obtain ⟨ih0, ih1, ih2⟩ := prebendref19_draws.mono_l k; refine ⟨?_, ?_, ?_⟩
  ·intro y0 y1
   unfold prebendref19_draws.l0
   exact lo
  ·intro y0 y1 y2 y3 y4
   unfold prebendref19_draws.j1
   exact lo
  ·intro y0 y1 y2 y3 y4
   unfold prebendref19_draws.l1
   exact lo
theorem prebendref19_draws.mono : ∀ a0 k, LeO (prebendref19_draws.f k a0) (prebendref19_draws.f (k + 1) a0) := by
 intro a0 k; obtain ⟨ih0, ih1, ih2⟩ := prebendref19_draws.mono_l k; unfold prebendref19_draws.f
 exact lo
set_option maxHeartbeats 8000000 in
set_option maxRecDepth 100000 in
theorem prebendref19_draws.calls (k : Nat) (A0 : Option Addr) (c0 : Nat) (l0 : List (S60)) (r : Bool) (w : World) (hr0 : Kd.C k60 w A0 l0.length l0) (hc0 : l0.length ≤ c0) (h : prebendref19_draws.f k l0 = some r) :
  Calls Try.prog 62 #[.slice A0 l0.length c0] w fun e w' => e = .returned (.bool r) ∧ Below w.heap.size w w' := by
 have hu60 := Try.underlying60; have HR0 := am hr0; have HC0 := am hc0; clear hr0 hc0; have HB := am (Below.refl w.heap.size w); have H : (prebendref19_draws.l0 k l0 0) = some r := h; clear h; have H' := am H; clear H
 go_enter Try.func62, Try.ntmps62
 go_wp2
 repeat (go_quiet (fail); try go_wp2)
 go_loopg [3] k (fun kq v3 w' => ∃ (x3_1 : Int), v3 = .int .i64 x3_1 ∧ Aside0 (prebendref19_draws.l0 kq l0 x3_1 = some r) ∧ Aside0 (kq ≤ k) ∧ Aside0 (Below w.heap.size w w'))
 case atStart => exact ⟨(0), sx, H', ⟨Nat.le_refl _⟩, ⟨HB.out⟩⟩
 case round =>
  clear H'; obtain ⟨x3_1, rfl, HA, HK1, HB⟩ := hrel
  cases gk with
  | zero => exact absurd HA.out (by simp [prebendref19_draws.l0])
  | succ k1 =>
   have H := HA.out; clear HA; simp only [prebendref19_draws.l0] at H
   by_cases c2 : x3_1 < (l0.length : Int)
   ·rw [if_pos c2] at H
    have c2b0 := decide_eq_true c2; clear c2
    by_cases c3 : 0 ≤ x3_1
    ·rw [if_pos c3] at H
     have c3b0 := decide_eq_true c3; clear c3; have HC4 := am H; clear H; have p302 : 0 ≤ (x3_1 : Int) := of_decide_eq_true (by assumption); have q302 : x3_1 < (l0.length : Int) := of_decide_eq_true (by assumption); obtain ⟨ad302, e302, hx302_0, hx302_1⟩ := at_T60 HR0.out x3_1 p302 q302; cases e302; replace hx302_0 := cb HB.out hx302_0; replace hx302_1 := cb HB.out hx302_1; replace p302 := eq_true p302; replace q302 := eq_true q302
     go_upto_region 5 with (first | ((with_reducible refine gate_dst (N := 4) rfl ?_); refine be (N := 4) (cs := #[.int .i64 0, .int .i64 0]) (t := 60) ?_; intro gb303 hg w5 hbox hb; have BK303 := am (hbox); have GW303 := am ((by rw [hg]; exact (below_size HB.out) : w.heap.size ≤ gb303)); have GE303 := am ((by rw [hg]; exact (below_size HB.out) : w.heap.size ≤ gb303)); replace HB := am (below_step HB.out hb); clear hb hbox hg; obtain ⟨_, _⟩ := c2 BK303.out; obtain ⟨_, _⟩ := f2 BK303.out))
     repeat (go_quiet (first | ((with_reducible refine gate_dst (N := 4) rfl ?_); refine be (N := 4) (cs := #[.int .i64 0, .int .i64 0]) (t := 60) ?_; intro gb303 hg w5 hbox hb; have BK303 := am (hbox); have GW303 := am ((by rw [hg]; exact (below_size HB.out) : w.heap.size ≤ gb303)); have GE303 := am ((by rw [hg]; exact (below_size HB.out) : w.heap.size ≤ gb303)); replace HB := am (below_step HB.out hb); clear hb hbox hg; obtain ⟨_, _⟩ := c2 BK303.out; obtain ⟨_, _⟩ := f2 BK303.out)); go_upto_region 5 with (first | ((with_reducible refine gate_dst (N := 4) rfl ?_); refine be (N := 4) (cs := #[.int .i64 0, .int .i64 0]) (t := 60) ?_; intro gb303 hg w5 hbox hb; have BK303 := am (hbox); have GW303 := am ((by rw [hg]; exact (below_size HB.out) : w.heap.size ≤ gb303)); have GE303 := am ((by rw [hg]; exact (below_size HB.out) : w.heap.size ≤ gb303)); replace HB := am (below_step HB.out hb); clear hb hbox hg; obtain ⟨_, _⟩ := c2 BK303.out; obtain ⟨_, _⟩ := f2 BK303.out)))
     (try simp only [Act.put, List.setIfInBounds_toArray, List.set_cons_zero, List.set_cons_succ])
     go_cut [33] (fun v33 wc => ∃ (kq : Nat) (x33_3 : Bool), v33 = .bool x33_3 ∧ Aside0 (prebendref19_draws.j1 kq l0 x3_1 x33_3 ((rd_T60 l0 x3_1).f0) ((rd_T60 l0 x3_1).f1) = some r) ∧ Aside0 (kq ≤ k1) ∧ Aside0 (wc.heap[gb303]? = some (.cells #[.int .i64 ((rd_T60 l0 x3_1).f0), .int .i64 ((rd_T60 l0 x3_1).f1)] 60 (0, 0))) ∧ Aside0 (Below w.heap.size w wc))
     case first =>
      have H := HC4.out; clear HC4
      by_cases c7 : ((rd_T60 l0 x3_1).f0) < 0
      ·rw [if_pos c7] at H
       have c7b0 := decide_eq_true c7; clear c7
       (first | rw [c7b0] | (simp only [i64_w, i32_w]; rw [c7b0]) | skip)
       have H' := am H; clear H; obtain ⟨_, _⟩ := c2 BK303.out; go_wp2
       repeat (go_quiet (fail); try go_wp2)
       go_meet
       case rel => exact ⟨_, (true), sx, H', ⟨by have := HK1.out; first | omega | exact Nat.le_refl _⟩, ⟨by (with_reducible repeat first | apply kn | apply kd | apply ka); refine bp (.int .i64 0) rfl ?_; simp only [List.set]; (with_reducible repeat first | apply kn | apply kd | apply ka); refine bp (.int .i64 0) rfl ?_; simp only [List.set]; (with_reducible repeat first | apply kn | apply kd | apply ka); exact BK303.out⟩, ⟨bx⟩⟩
      ·rw [if_neg c7] at H
       have c7b0 := decide_eq_false c7; clear c7
       (first | rw [c7b0] | (simp only [i64_w, i32_w]; rw [c7b0]) | skip)
       by_cases c9 : ((rd_T60 l0 x3_1).f0) > 15
       ·rw [if_pos c9] at H
        have c9b0 := decide_eq_true c9; clear c9; have H' := am H; clear H; obtain ⟨_, _⟩ := c2 BK303.out; go_wp2
        repeat (go_quiet (fail); try go_wp2)
        go_meet
        case rel => exact ⟨_, (true), sx, H', ⟨by have := HK1.out; first | omega | exact Nat.le_refl _⟩, ⟨by (with_reducible repeat first | apply kn | apply kd | apply ka); refine bp (.int .i64 0) rfl ?_; simp only [List.set]; (with_reducible repeat first | apply kn | apply kd | apply ka); refine bp (.int .i64 0) rfl ?_; simp only [List.set]; (with_reducible repeat first | apply kn | apply kd | apply ka); exact BK303.out⟩, ⟨bx⟩⟩
       ·rw [if_neg c9] at H
        have c9b0 := decide_eq_false c9; clear c9
        by_cases c11 : ((rd_T60 l0 x3_1).f1) < 1
        ·rw [if_pos c11] at H
         have c11b0 := decide_eq_true c11; clear c11; have H' := am H; clear H; obtain ⟨_, _⟩ := c2 BK303.out; go_wp2
         repeat (go_quiet (fail); try go_wp2)
         go_meet
         case rel => exact ⟨_, (true), sx, H', ⟨by have := HK1.out; first | omega | exact Nat.le_refl _⟩, ⟨by (with_reducible repeat first | apply kn | apply kd | apply ka); refine bp (.int .i64 0) rfl ?_; simp only [List.set]; (with_reducible repeat first | apply kn | apply kd | apply ka); refine bp (.int .i64 0) rfl ?_; simp only [List.set]; (with_reducible repeat first | apply kn | apply kd | apply ka); exact BK303.out⟩, ⟨bx⟩⟩
        ·rw [if_neg c11] at H
         have c11b0 := decide_eq_false c11; clear c11; have H' := am H; clear H; obtain ⟨_, _⟩ := c2 BK303.out; go_wp2
         repeat (go_quiet (fail); try go_wp2)
         go_meet
         case rel => exact ⟨_, (decide (((rd_T60 l0 x3_1).f1) > 1152921504606846976)), sx, H', ⟨by have := HK1.out; first | omega | exact Nat.le_refl _⟩, ⟨by (with_reducible repeat first | apply kn | apply kd | apply ka); refine bp (.int .i64 0) rfl ?_; simp only [List.set]; (with_reducible repeat first | apply kn | apply kd | apply ka); refine bp (.int .i64 0) rfl ?_; simp only [List.set]; (with_reducible repeat first | apply kn | apply kd | apply ka); exact BK303.out⟩, ⟨bx⟩⟩
     case rest =>
      clear HC4
      try clear c2
      try clear c2b0
      try clear c3
      try clear c3b0
      try clear _ _
      try clear hx302_0
      try clear hx302_1
      try clear p302
      try clear q302
      obtain ⟨kq, x33_3, rfl, HA, HJ3, BK303, HB⟩ := hcut
      cases kq with
      | zero => exact absurd HA.out (by simp [prebendref19_draws.j1])
      | succ kj3 =>
       have H := HA.out; clear HA; simp only [prebendref19_draws.j1] at H
       by_cases c14 : x33_3 = true
       ·subst c14
        rw [if_pos rfl] at H; obtain rfl := Option.some.inj H; go_wp2
        repeat (go_quiet (fail); try go_wp2)
        go_ret; exact ⟨by first | rfl | (simp [*, errW_none, errW_some] <;> rfl), HB.out⟩
       ·replace c14 := Bool.eq_false_iff.mpr c14
        subst c14
        rw [if_neg (show ¬ (false = true) by decide)] at H
        have H' := am H
        clear H
        go_wp2
        repeat (go_quiet (fail); try go_wp2)
        go_loopg [5] kj3 (fun kq v5 w' => ∃ (x5_3 : Int), v5 = .int .i64 x5_3 ∧ Aside0 (prebendref19_draws.l1 kq l0 x3_1 x5_3 ((rd_T60 l0 x3_1).f0) ((rd_T60 l0 x3_1).f1) = some r) ∧ Aside0 (kq ≤ kj3) ∧ Aside0 (w'.heap[gb303]? = some (.cells #[.int .i64 ((rd_T60 l0 x3_1).f0), .int .i64 ((rd_T60 l0 x3_1).f1)] 60 (0, 0))) ∧ Aside0 (Below w.heap.size w w'))
        case atStart => exact ⟨(0), sx, H', ⟨Nat.le_refl _⟩, ⟨BK303.out⟩, ⟨HB.out⟩⟩
        case round =>
         clear H'
         try clear c2
         try clear c2b0
         try clear c3
         try clear c3b0
         try clear c14
         try clear _ _
         try clear hx302_0
         try clear hx302_1
         try clear p302
         try clear q302
         obtain ⟨x5_3, rfl, HA, HK3, BK303, HB⟩ := hrel
         cases gk with
         | zero => exact absurd HA.out (by simp [prebendref19_draws.l1])
         | succ k3 =>
          have H := HA.out
          clear HA
          simp only [prebendref19_draws.l1] at H
          by_cases c15 : x5_3 < x3_1
          ·rw [if_pos c15] at H
           have c15b0 := decide_eq_true c15; clear c15
           by_cases c16 : 0 ≤ x5_3
           ·rw [if_pos c16] at H
            have c16b0 := decide_eq_true c16; clear c16
            by_cases c17 : x5_3 < (l0.length : Int)
            ·rw [if_pos c17] at H
             have c17b0 := decide_eq_true c17; clear c17
             by_cases c18 : ((rd_T60 l0 x5_3).f0) = ((rd_T60 l0 x3_1).f0)
             ·rw [if_pos c18] at H
              have c18b0 := beq_iff_eq.mpr c18; have c18b1 := bne_eq_false_iff_eq.mpr c18; clear c18; obtain rfl := Option.some.inj H; have p304 : 0 ≤ (x5_3 : Int) := of_decide_eq_true (by assumption); have q304 : x5_3 < (l0.length : Int) := of_decide_eq_true (by assumption); obtain ⟨ad304, e304, hx304_0, hx304_1⟩ := at_T60 HR0.out x5_3 p304 q304; obtain rfl : ad302 = ad304 := (by injection e304); replace hx304_0 := cb HB.out hx304_0; replace hx304_1 := cb HB.out hx304_1; replace p304 := eq_true p304; replace q304 := eq_true q304; obtain ⟨_, _⟩ := c2 BK303.out; go_wp2
              repeat (go_quiet (fail); try go_wp2)
              go_ret; exact ⟨by first | rfl | (simp [*, errW_none, errW_some] <;> rfl), bx⟩
             ·rw [if_neg c18] at H
              have c18b0 := beq_eq_false_iff_ne.mpr c18; have c18b1 := bne_iff_ne.mpr c18; have H' := am H; clear H; have p304 : 0 ≤ (x5_3 : Int) := of_decide_eq_true (by assumption); have q304 : x5_3 < (l0.length : Int) := of_decide_eq_true (by assumption); obtain ⟨ad304, e304, hx304_0, hx304_1⟩ := at_T60 HR0.out x5_3 p304 q304; obtain rfl : ad302 = ad304 := (by injection e304); replace hx304_0 := cb HB.out hx304_0; replace hx304_1 := cb HB.out hx304_1; replace p304 := eq_true p304; replace q304 := eq_true q304; obtain ⟨_, _⟩ := c2 BK303.out; go_wp2
              repeat (go_quiet (fail); try go_wp2)
              go_roundg k3
              case measure => have := HK1.out; have := HJ3.out; have := HK3.out; omega
              case rel => exact ⟨(wrap64 (x5_3 + 1)), sx, H', ⟨by have := HK1.out; have := HJ3.out; have := HK3.out; omega⟩, ⟨BK303.out⟩, ⟨bx⟩⟩
            ·rw [if_neg c17] at H
             exact absurd H (by simp)
           ·rw [if_neg c16] at H
            exact absurd H (by simp)
          ·rw [if_neg c15] at H
           have c15b0 := decide_eq_false c15; clear c15; have H' := am H; clear H; go_wp2
           repeat (go_quiet (fail); try go_wp2)
           go_roundg k3
           case measure => have := HK1.out; have := HJ3.out; have := HK3.out; omega
           case rel => exact ⟨(wrap64 (x3_1 + 1)), sx, H', ⟨by have := HK1.out; have := HJ3.out; have := HK3.out; omega⟩, ⟨HB.out⟩⟩
    ·rw [if_neg c3] at H
     exact absurd H (by simp)
   ·rw [if_neg c2] at H
    have c2b0 := decide_eq_false c2; clear c2; obtain rfl := Option.some.inj H; go_wp2
    repeat (go_quiet (fail); try go_wp2)
    go_ret; exact ⟨by first | rfl | (simp [*, errW_none, errW_some] <;> rfl), HB.out⟩

/-! ### prebendref14_Has: function 35 -/
def prebendref14_Has.f (a0 : Int) (a1 : Int) : Option (Bool) := if 0 ≤ (IntKind.u64.wrap (a1)) then (some ((Go.bits .and .i64 (shr .i64 a0 (IntKind.u64.wrap (a1))) 1) == 1)) else (none)
set_option maxHeartbeats 8000000 in
set_option maxRecDepth 100000 in
theorem prebendref14_Has.calls (a0 : Int) (a1 : Int) (r : Bool) (w : World) (h : prebendref14_Has.f a0 a1 = some r) :
  Calls Try.prog 35 #[.int .i64 a0, .int .i64 a1] w fun e w' => e = .returned (.bool r) ∧ Drawn0 w w' := by
 have H : (if 0 ≤ (IntKind.u64.wrap (a1)) then (some ((Go.bits .and .i64 (shr .i64 a0 (IntKind.u64.wrap (a1))) 1) == 1)) else (none)) = some r := h; clear h; obtain ⟨ji3, hji3⟩ : ∃ j_ : Int, (IntKind.u64.wrap (a1)) = j_ := ⟨_, rfl⟩; replace H : (if 0 ≤ (ji3) then (some ((Go.bits .and .i64 (shr .i64 a0 (ji3)) 1) == 1)) else (none)) = some r := by first | (rw [hji3] at H; exact H) | (simp only [hji3] at H ⊢; exact H)
 by_cases c4 : 0 ≤ (ji3)
 ·rw [if_pos c4] at H
  have c4b0 := eq_true c4; have c4b1 := decide_eq_true c4; clear c4; obtain ⟨ji5, hji5⟩ : ∃ j_ : Int, (shr .i64 a0 (ji3)) = j_ := ⟨_, rfl⟩; replace H : (some ((Go.bits .and .i64 (ji5) 1) == 1)) = some r := by first | (rw [hji5] at H; exact H) | (simp only [hji5] at H ⊢; exact H)
  have hji5_ : (a0 / 2 ^ min (ji3).toNat 64) = ji5 := hji5; have hji5z : (ji3) ≤ 64 → (a0 / 2 ^ (ji3).toNat) = ji5 := shr_small hji5; obtain rfl := Option.some.inj H
  go_enter Try.func35, Try.ntmps35
  go_wp2; go_ret; exact ⟨by first | rfl | (simp; done) | (simp only [← hji3, ← hji5] <;> (first | rfl | simp)) | (simp [*]; done), by repeat (first | exact Drawn0.refl _ | apply Drawn0.step)⟩
 ·rw [if_neg c4] at H
  exact absurd H (by simp)

/-! ### prebendref14_Count: function 63 -/
def prebendref14_Count.l0 : Nat → Int → Int → Int → Option (Int)
 | 0, _, _, _ => none
 | k + 1, x0, x3, x4 => if x4 < 32 then ((prebendref14_Has.f x0 x4).bind fun t305 => (if t305 = true then (prebendref14_Count.l0 k x0 (wrap64 (x3 + 1)) (wrap64 (x4 + 1))) else (prebendref14_Count.l0 k x0 x3 (wrap64 (x4 + 1))))) else (some x3)
def prebendref14_Count.f (k : Nat) (a0 : Int) : Option (Int) := prebendref14_Count.l0 k a0 0 0
theorem prebendref14_Count.mono_l : ∀ k, (∀ y0 y1 y2, LeO (prebendref14_Count.l0 k y0 y1 y2) (prebendref14_Count.l0 (k + 1) y0 y1 y2))
 | 0 => fun _ _ _ r h => by simp [prebendref14_Count.l0] at h
 | k + 1 => by
  have ih0 := prebendref14_Count.mono_l k
  ·intro y0 y1 y2
   unfold prebendref14_Count.l0
   exact lo
theorem prebendref14_Count.mono : ∀ a0 k, LeO (prebendref14_Count.f k a0) (prebendref14_Count.f (k + 1) a0) := by
 intro a0 k; have ih0 := prebendref14_Count.mono_l k; unfold prebendref14_Count.f
 exact lo
set_option maxHeartbeats 8000000 in
set_option maxRecDepth 100000 in
theorem prebendref14_Count.calls (k : Nat) (a0 : Int) (r : Int) (w : World) (h : prebendref14_Count.f k a0 = some r) :
  Calls Try.prog 63 #[.int .i64 a0] w fun e w' => e = .returned (.int .i64 r) ∧ Drawn0 w w' := by
 have H : (prebendref14_Count.l0 k a0 0 0) = some r := h; clear h; have H' := am H; clear H
 go_enter Try.func63, Try.ntmps63
 go_wp2
 go_loopg [3, 4] k (fun kq v3 v4 w' => ∃ (x3_1 : Int) (x4_1 : Int), v3 = .int .i64 x3_1 ∧ v4 = .int .i64 x4_1 ∧ Aside0 (prebendref14_Count.l0 kq a0 x3_1 x4_1 = some r) ∧ Aside0 (kq ≤ k) ∧ Drawn0 w w')
 case atStart => exact ⟨(0), (0), sx, sx, H', ⟨Nat.le_refl _⟩, by repeat (first | exact Drawn0.refl _ | apply Drawn0.step)⟩
 case round =>
  clear H'; obtain ⟨x3_1, x4_1, rfl, rfl, HA, HK1, ⟨m1, rfl⟩⟩ := hrel
  cases gk with
  | zero => exact absurd HA.out (by simp [prebendref14_Count.l0])
  | succ k1 =>
   have H := HA.out; clear HA; simp only [prebendref14_Count.l0] at H
   by_cases c2 : x4_1 < 32
   ·rw [if_pos c2] at H
    have c2b0 := decide_eq_true c2; clear c2; replace H := Option.bind_eq_some_iff.mp H; obtain ⟨t305, A30, H⟩ := H; have A3 := am A30; clear A30
    by_cases c4 : t305 = true
    ·subst c4
     rw [if_pos rfl] at H; have H' := am H; clear H; go_wp2_with (first | (refine gl (some 11) Try.func35 #[.int .i64 a0, .int .i64 x4_1] ?_; (with_reducible refine (prebendref14_Has.calls a0 x4_1 true _ A3.out).mono ?_); rintro e w' ⟨rfl, ⟨nd, rfl⟩⟩; refine ⟨_, rfl, ?_⟩))
     go_roundg k1
     case measure => have := HK1.out; omega
     case rel => exact ⟨(wrap64 (x3_1 + 1)), (wrap64 (x4_1 + 1)), sx, sx, H', ⟨by have := HK1.out; omega⟩, by repeat (first | exact Drawn0.refl _ | apply Drawn0.step)⟩
    ·replace c4 := Bool.eq_false_iff.mpr c4
     subst c4; rw [if_neg (show ¬ (false = true) by decide)] at H; have H' := am H; clear H; go_wp2_with (first | (refine gl (some 11) Try.func35 #[.int .i64 a0, .int .i64 x4_1] ?_; (with_reducible refine (prebendref14_Has.calls a0 x4_1 false _ A3.out).mono ?_); rintro e w' ⟨rfl, ⟨nd, rfl⟩⟩; refine ⟨_, rfl, ?_⟩))
     go_roundg k1
     case measure => have := HK1.out; omega
     case rel => exact ⟨(x3_1), (wrap64 (x4_1 + 1)), sx, sx, H', ⟨by have := HK1.out; omega⟩, by repeat (first | exact Drawn0.refl _ | apply Drawn0.step)⟩
   ·rw [if_neg c2] at H
    have c2b0 := decide_eq_false c2; clear c2; obtain rfl := Option.some.inj H; go_wp2; go_ret; exact ⟨sx, by repeat (first | exact Drawn0.refl _ | apply Drawn0.step)⟩

end Go.Proofs.Ytijeigiilgapdaa.QSoundTells
