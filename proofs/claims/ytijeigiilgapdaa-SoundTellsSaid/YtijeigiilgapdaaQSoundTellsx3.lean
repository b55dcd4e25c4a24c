/- Written by a program of this session (wip/tools/mp.sh): functions as Lean functions, with proofs that the calls come to what they say. Lean checks it. -/
import Derived.Test.YtijeigiilgapdaaQSoundTellsx0
import Derived.Test.YtijeigiilgapdaaXWd
import Derived.Test.YtijeigiilgapdaaQSoundTellsx2
namespace Go.Proofs.Ytijeigiilgapdaa.QSoundTells
open Go.RowKit Go.Proofs.YtijeigiilgapdaaW.PrintWords Go.Proofs.YtijeigiilgapdaaW.PrintLast Go.Proofs.YtijeigiilgapdaaW.PrintMore
attribute [local go_sem] max2_int min2_int max_two min_two max_three min_three max_four min_four   -- for this text's walks alone
set_option linter.unusedVariables false
set_option linter.unusedSimpArgs false

/-! ### job_draws: function 56 -/
def job_draws.l0 : Nat → Int → List (S60) → Int → Int → Option (Bool)
 | 0, _, _, _, _ => none
 | k + 1, x3, x6, x7, x8 => if x8 < x7 then (if 0 ≤ x8 then (if x8 < (x6.length : Int) then ((job_in.f ((rd_T60 x6 x8).f0) 0 15).bind fun t133 => (if t133 = true then ((job_in.f ((rd_T60 x6 x8).f1) 1 1152921504606846976).bind fun t134 => (if t134 = true then (if 0 ≤ ((rd_T60 x6 x8).f0) then (if (Go.bits .and .i64 (shr .i64 x3 ((rd_T60 x6 x8).f0)) 1) = 1 then (some false) else (job_draws.l0 k (Go.bits .or .i64 x3 (shl .i64 1 ((rd_T60 x6 x8).f0))) x6 x7 (wrap64 (x8 + 1)))) else (none)) else (some false))) else (some false))) else (none)) else (none)) else (some true)
def job_draws.f (k : Nat) (l0 : List (S60)) : Option (Bool) := job_draws.l0 k 0 l0 (l0.length : Int) 0
theorem job_draws.mono_l : ∀ k, (∀ y0 y1 y2 y3, LeO (job_draws.l0 k y0 y1 y2 y3) (job_draws.l0 (k + 1) y0 y1 y2 y3))
 | 0 => fun _ _ _ _ r h => by simp [job_draws.l0] at h
 | k + 1 => by
  have ih0 := job_draws.mono_l k
  ·intro y0 y1 y2 y3
   unfold job_draws.l0
   exact lo
theorem job_draws.mono : ∀ a0 k, LeO (job_draws.f k a0) (job_draws.f (k + 1) a0) := by
 intro a0 k; have ih0 := job_draws.mono_l k; unfold job_draws.f
 exact lo
set_option maxHeartbeats 8000000 in
set_option maxRecDepth 100000 in
theorem job_draws.calls (k : Nat) (A0 : Option Addr) (c0 : Nat) (l0 : List (S60)) (r : Bool) (w : World) (hr0 : Kd.C k60 w A0 l0.length l0) (hc0 : l0.length ≤ c0) (h : job_draws.f k l0 = some r) :
  Calls Try.prog 56 #[.slice A0 l0.length c0] w fun e w' => e = .returned (.bool r) ∧ Below w.heap.size w w' := by
 have hu60 := Try.underlying60; have HR0 := am hr0; have HC0 := am hc0; clear hr0 hc0; have HB := am (Below.refl w.heap.size w); have H : (job_draws.l0 k 0 l0 (l0.length : Int) 0) = some r := h; clear h; have H' := am H; clear H
 go_enter Try.func56, Try.ntmps56
 go_wp2
 go_loopg [3, 8] k (fun kq v3 v8 w' => ∃ (x3_1 : Int) (x8_1 : Int), v3 = .int .i64 x3_1 ∧ v8 = .int .i64 x8_1 ∧ Aside0 (job_draws.l0 kq x3_1 l0 (l0.length : Int) x8_1 = some r) ∧ Aside0 (kq ≤ k) ∧ Aside0 (Below w.heap.size w w'))
 case atStart => exact ⟨(0), (0), sx, sx, H', ⟨Nat.le_refl _⟩, ⟨HB.out⟩⟩
 case round =>
  clear H'; obtain ⟨x3_1, x8_1, rfl, rfl, HA, HK1, HB⟩ := hrel
  cases gk with
  | zero => exact absurd HA.out (by simp [job_draws.l0])
  | succ k1 =>
   have H := HA.out; clear HA; simp only [job_draws.l0] at H
   by_cases c2 : x8_1 < (l0.length : Int)
   ·rw [if_pos c2] at H
    have c2b0 := decide_eq_true c2; clear c2
    by_cases c3 : 0 ≤ x8_1
    ·rw [if_pos c3] at H
     have c3b0 := decide_eq_true c3; clear c3
     by_cases c4 : x8_1 < (l0.length : Int)
     ·rw [if_pos c4] at H
      have c4b0 := decide_eq_true c4; clear c4; replace H := Option.bind_eq_some_iff.mp H; obtain ⟨t133, A50, H⟩ := H; have A5 := am A50; clear A50
      by_cases c6 : t133 = true
      ·subst c6
       rw [if_pos rfl] at H; replace H := Option.bind_eq_some_iff.mp H; obtain ⟨t134, A70, H⟩ := H; have A7 := am A70; clear A70
       by_cases c8 : t134 = true
       ·subst c8
        rw [if_pos rfl] at H
        by_cases c9 : 0 ≤ ((rd_T60 l0 x8_1).f0)
        ·rw [if_pos c9] at H
         have c9b0 := eq_true c9; have c9b1 := decide_eq_true c9; clear c9; obtain ⟨ji10, hji10⟩ : ∃ j_ : Int, (shr .i64 x3_1 ((rd_T60 l0 x8_1).f0)) = j_ := ⟨_, rfl⟩; replace H : (if (Go.bits .and .i64 (ji10) 1) = 1 then (some false) else (job_draws.l0 k1 (Go.bits .or .i64 x3_1 (shl .i64 1 ((rd_T60 l0 x8_1).f0))) l0 (l0.length : Int) (wrap64 (x8_1 + 1)))) = some r := by first | (rw [hji10] at H; exact H) | (simp only [hji10] at H ⊢; exact H)
         (try rw [hji10] at A5)
         (try rw [hji10] at A7)
         have hji10_ : (x3_1 / 2 ^ min ((rd_T60 l0 x8_1).f0).toNat 64) = ji10 := hji10; have hji10z : ((rd_T60 l0 x8_1).f0) ≤ 64 → (x3_1 / 2 ^ ((rd_T60 l0 x8_1).f0).toNat) = ji10 := shr_small hji10
         by_cases c11 : (Go.bits .and .i64 (ji10) 1) = 1
         ·rw [if_pos c11] at H
          have c11b0 := beq_iff_eq.mpr c11; have c11b1 := bne_eq_false_iff_eq.mpr c11; clear c11; obtain rfl := Option.some.inj H; have p131 : 0 ≤ (x8_1 : Int) := of_decide_eq_true (by assumption); have q131 : x8_1 < (l0.length : Int) := of_decide_eq_true (by assumption); obtain ⟨ad131, e131, hx131_0, hx131_1⟩ := at_T60 HR0.out x8_1 p131 q131; cases e131; replace hx131_0 := cb HB.out hx131_0; replace hx131_1 := cb HB.out hx131_1; replace p131 := eq_true p131; replace q131 := eq_true q131; go_wp2_with (first | ((with_reducible refine gate_dst (N := 5) rfl ?_); refine be (N := 5) (cs := #[.int .i64 0, .int .i64 0]) (t := 60) ?_; intro gb132 hg w12 hbox hb; have BK132 := am (hbox); have GW132 := am ((by rw [hg]; exact (below_size HB.out) : w.heap.size ≤ gb132)); have GE132 := am ((by rw [hg]; exact (below_size HB.out) : w.heap.size ≤ gb132)); replace HB := am (below_step HB.out hb); clear hb hbox hg; obtain ⟨_, _⟩ := c2 BK132.out; obtain ⟨_, _⟩ := f2 BK132.out) | (refine gl (some 14) Try.func54 #[.int .i64 ((rd_T60 l0 x8_1).f0), .int .i64 0, .int .i64 15] ?_; (with_reducible refine (job_in.calls ((rd_T60 l0 x8_1).f0) 0 15 true _ A5.out).mono ?_); rintro e w' ⟨rfl, ⟨nd, rfl⟩⟩; refine ⟨_, rfl, ?_⟩) | (go_at_call 54; (with_reducible refine (job_in.calls ((rd_T60 l0 x8_1).f1) 1 1152921504606846976 true _ A7.out).mono ?_); rintro e w' ⟨rfl, ⟨nd, rfl⟩⟩; (try clear A7)))
          go_ret; exact ⟨by first | rfl | (simp [errW_none, errW_some] <;> rfl) | (simp only [← hji10]; first | rfl | (simp [errW_none, errW_some] <;> rfl)) | (simp [*, errW_none, errW_some] <;> rfl), bx⟩
         ·rw [if_neg c11] at H
          have c11b0 := beq_eq_false_iff_ne.mpr c11; have c11b1 := bne_iff_ne.mpr c11; have c14b0 := eq_true (of_decide_eq_true (by assumption) : 0 ≤ ((rd_T60 l0 x8_1).f0)); obtain ⟨ji15, hji15⟩ : ∃ j_ : Int, (shl .i64 1 ((rd_T60 l0 x8_1).f0)) = j_ := ⟨_, rfl⟩; replace H : (job_draws.l0 k1 (Go.bits .or .i64 x3_1 (ji15)) l0 (l0.length : Int) (wrap64 (x8_1 + 1))) = some r := by first | (rw [hji15] at H; exact H) | (simp only [hji15] at H ⊢; exact H)
          (try rw [hji15] at A5)
          (try rw [hji15] at A7)
          have hji15_ : (IntKind.i64.wrap (1 * 2 ^ min ((rd_T60 l0 x8_1).f0).toNat 64)) = ji15 := hji15; have hji15z : ((rd_T60 l0 x8_1).f0) ≤ 64 → (IntKind.i64.wrap (1 * 2 ^ ((rd_T60 l0 x8_1).f0).toNat)) = ji15 := shl_small hji15; have hji15u : (IntKind.i64.wrap (2 ^ min ((rd_T60 l0 x8_1).f0).toNat 64)) = ji15 := by have h_ := hji15_; rw [Int.one_mul] at h_; exact h_
          have hji15v : ((rd_T60 l0 x8_1).f0) ≤ 64 → (IntKind.i64.wrap (2 ^ ((rd_T60 l0 x8_1).f0).toNat)) = ji15 := fun hle_ => by have h_ := hji15z hle_; rw [Int.one_mul] at h_; exact h_
          have hji15y : (wrap64 (1 * 2 ^ min ((rd_T60 l0 x8_1).f0).toNat 64)) = ji15 := (i64_w _).symm.trans hji15_; have hji15x : ((rd_T60 l0 x8_1).f0) ≤ 64 → (wrap64 (1 * 2 ^ ((rd_T60 l0 x8_1).f0).toNat)) = ji15 := fun h_ => (i64_w _).symm.trans (hji15z h_)
          have H' := am H; clear H; have p131 : 0 ≤ (x8_1 : Int) := of_decide_eq_true (by assumption); have q131 : x8_1 < (l0.length : Int) := of_decide_eq_true (by assumption); obtain ⟨ad131, e131, hx131_0, hx131_1⟩ := at_T60 HR0.out x8_1 p131 q131; cases e131; replace hx131_0 := cb HB.out hx131_0; replace hx131_1 := cb HB.out hx131_1; replace p131 := eq_true p131; replace q131 := eq_true q131; go_wp2_with (first | ((with_reducible refine gate_dst (N := 5) rfl ?_); refine be (N := 5) (cs := #[.int .i64 0, .int .i64 0]) (t := 60) ?_; intro gb132 hg w16 hbox hb; have BK132 := am (hbox); have GW132 := am ((by rw [hg]; exact (below_size HB.out) : w.heap.size ≤ gb132)); have GE132 := am ((by rw [hg]; exact (below_size HB.out) : w.heap.size ≤ gb132)); replace HB := am (below_step HB.out hb); clear hb hbox hg; obtain ⟨_, _⟩ := c2 BK132.out; obtain ⟨_, _⟩ := f2 BK132.out) | (refine gl (some 14) Try.func54 #[.int .i64 ((rd_T60 l0 x8_1).f0), .int .i64 0, .int .i64 15] ?_; (with_reducible refine (job_in.calls ((rd_T60 l0 x8_1).f0) 0 15 true _ A5.out).mono ?_); rintro e w' ⟨rfl, ⟨nd, rfl⟩⟩; refine ⟨_, rfl, ?_⟩) | (go_at_call 54; (with_reducible refine (job_in.calls ((rd_T60 l0 x8_1).f1) 1 1152921504606846976 true _ A7.out).mono ?_); rintro e w' ⟨rfl, ⟨nd, rfl⟩⟩; (try clear A7)))
          go_roundg k1
          case measure => have := HK1.out; omega
          case rel => exact ⟨(Go.bits .or .i64 x3_1 (ji15)), (wrap64 (x8_1 + 1)), (by first | rfl | (simp; done) | (simp only [← hji15] <;> (first | rfl | simp)) | (simp [*]; done)), sx, H', ⟨by have := HK1.out; omega⟩, ⟨bx⟩⟩
        ·rw [if_neg c9] at H
         exact absurd H (by simp)
       ·replace c8 := Bool.eq_false_iff.mpr c8
        subst c8; rw [if_neg (show ¬ (false = true) by decide)] at H; obtain rfl := Option.some.inj H; have p131 : 0 ≤ (x8_1 : Int) := of_decide_eq_true (by assumption); have q131 : x8_1 < (l0.length : Int) := of_decide_eq_true (by assumption); obtain ⟨ad131, e131, hx131_0, hx131_1⟩ := at_T60 HR0.out x8_1 p131 q131; cases e131; replace hx131_0 := cb HB.out hx131_0; replace hx131_1 := cb HB.out hx131_1; replace p131 := eq_true p131; replace q131 := eq_true q131; go_wp2_with (first | ((with_reducible refine gate_dst (N := 5) rfl ?_); refine be (N := 5) (cs := #[.int .i64 0, .int .i64 0]) (t := 60) ?_; intro gb132 hg w18 hbox hb; have BK132 := am (hbox); have GW132 := am ((by rw [hg]; exact (below_size HB.out) : w.heap.size ≤ gb132)); have GE132 := am ((by rw [hg]; exact (below_size HB.out) : w.heap.size ≤ gb132)); replace HB := am (below_step HB.out hb); clear hb hbox hg; obtain ⟨_, _⟩ := c2 BK132.out; obtain ⟨_, _⟩ := f2 BK132.out) | (refine gl (some 14) Try.func54 #[.int .i64 ((rd_T60 l0 x8_1).f0), .int .i64 0, .int .i64 15] ?_; (with_reducible refine (job_in.calls ((rd_T60 l0 x8_1).f0) 0 15 true _ A5.out).mono ?_); rintro e w' ⟨rfl, ⟨nd, rfl⟩⟩; refine ⟨_, rfl, ?_⟩) | (go_at_call 54; (with_reducible refine (job_in.calls ((rd_T60 l0 x8_1).f1) 1 1152921504606846976 false _ A7.out).mono ?_); rintro e w' ⟨rfl, ⟨nd, rfl⟩⟩; (try clear A7)))
        go_ret; exact ⟨by first | rfl | (simp [*, errW_none, errW_some] <;> rfl), bx⟩
      ·replace c6 := Bool.eq_false_iff.mpr c6
       subst c6; rw [if_neg (show ¬ (false = true) by decide)] at H; obtain rfl := Option.some.inj H; have p131 : 0 ≤ (x8_1 : Int) := of_decide_eq_true (by assumption); have q131 : x8_1 < (l0.length : Int) := of_decide_eq_true (by assumption); obtain ⟨ad131, e131, hx131_0, hx131_1⟩ := at_T60 HR0.out x8_1 p131 q131; cases e131; replace hx131_0 := cb HB.out hx131_0; replace hx131_1 := cb HB.out hx131_1; replace p131 := eq_true p131; replace q131 := eq_true q131; go_wp2_with (first | ((with_reducible refine gate_dst (N := 5) rfl ?_); refine be (N := 5) (cs := #[.int .i64 0, .int .i64 0]) (t := 60) ?_; intro gb132 hg w20 hbox hb; have BK132 := am (hbox); have GW132 := am ((by rw [hg]; exact (below_size HB.out) : w.heap.size ≤ gb132)); have GE132 := am ((by rw [hg]; exact (below_size HB.out) : w.heap.size ≤ gb132)); replace HB := am (below_step HB.out hb); clear hb hbox hg; obtain ⟨_, _⟩ := c2 BK132.out; obtain ⟨_, _⟩ := f2 BK132.out) | (refine gl (some 14) Try.func54 #[.int .i64 ((rd_T60 l0 x8_1).f0), .int .i64 0, .int .i64 15] ?_; (with_reducible refine (job_in.calls ((rd_T60 l0 x8_1).f0) 0 15 false _ A5.out).mono ?_); rintro e w' ⟨rfl, ⟨nd, rfl⟩⟩; refine ⟨_, rfl, ?_⟩))
       go_ret; exact ⟨by first | rfl | (simp [*, errW_none, errW_some] <;> rfl), bx⟩
     ·rw [if_neg c4] at H
      exact absurd H (by simp)
    ·rw [if_neg c3] at H
     exact absurd H (by simp)
   ·rw [if_neg c2] at H
    have c2b0 := decide_eq_false c2; clear c2; obtain rfl := Option.some.inj H; go_wp2; go_ret; exact ⟨by first | rfl | (simp [*, errW_none, errW_some] <;> rfl), HB.out⟩

end Go.Proofs.Ytijeigiilgapdaa.QSoundTells
