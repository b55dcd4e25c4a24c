/- Written by a program of this session (wip/tools/mp.sh): functions as Lean functions, with proofs that the calls come to what they say. Lean checks it. -/
import Derived.Test.YtpppicehpadcbaaQCheckOfx0
namespace Go.Proofs.Ytpppicehpadcbaa.QCheckOf
open Go.RowKit Go.Proofs.YtpppicehpadcbaaW.PrintWords Go.Proofs.YtpppicehpadcbaaW.PrintLast Go.Proofs.YtpppicehpadcbaaW.PrintMore
attribute [local go_sem] max2_int min2_int max_two min_two max_three min_three max_four min_four   -- for this text's walks alone
set_option linter.unusedVariables false
set_option linter.unusedSimpArgs false

-- NOT PRINTED: function 35 (check_table)

/-! ### check_From: function 27 -/
abbrev check_From.f (a0 : Int) (l1 : List Int) : Option (Int) := XCheck.check_From.f a0 l1
theorem check_From.calls (a0 : Int) (A1 : Option Addr) (c1 : Nat) (l1 : List Int) (r : Int) (w : World) (hr1 : Kd.C (Kd.int .u8) w A1 l1.length l1) (hc1 : l1.length ≤ c1) (h : check_From.f a0 l1 = some r) :
    Calls Try.prog 27 #[.int .u32 a0, .slice A1 l1.length c1] w fun e w' => e = .returned (.int .u32 r) ∧ Below w.heap.size w w' := XCheck.check_From.calls a0 A1 c1 l1 r w hr1 hc1 h

/-! ### check_Of: function 30 -/
def check_Of.f (l0 : List Int) : Option (Int) := (check_From.f 4294967295 l0).bind fun t101 => (some t101)
set_option maxHeartbeats 8000000 in
set_option maxRecDepth 100000 in
theorem check_Of.calls (A0 : Option Addr) (c0 : Nat) (l0 : List Int) (r : Int) (w : World) (hr0 : Kd.C (Kd.int .u8) w A0 l0.length l0) (hc0 : l0.length ≤ c0) (h : check_Of.f l0 = some r) :
    Calls Try.prog 30 #[.slice A0 l0.length c0] w fun e w' => e = .returned (.int .u32 r) ∧ Below w.heap.size w w' := by
  have HR0 := Aside0.mk hr0
  have HC0 := Aside0.mk hc0
  clear hr0 hc0
  have HB := Aside0.mk (Below.refl w.heap.size w)
  have H : ((check_From.f 4294967295 l0).bind fun t101 => (some t101)) = some r := h
  clear h
  replace H := Option.bind_eq_some_iff.mp H
  obtain ⟨t101, A20, H⟩ := H
  replace H : (some t101) = some r := H
  have A2 := Aside0.mk A20
  clear A20
  obtain rfl := Option.some.inj H
  go_enter Try.func30, Try.ntmps30
  go_wp2_with (first | ((with_reducible refine gate_callee (f := 27) rfl ?_); refine goesL_ (some 4) rfl rfl Try.func27 (by kernel_rfl) rfl #[.int .u32 4294967295, .slice A0 l0.length c0] rfl (by (try simp only [List.map_toArray, List.map_cons, List.map_nil]); first | done | rfl | (simp only [List.length_drop, List.length_take]; rfl)) ?_; (with_reducible refine (check_From.calls 4294967295 _ _ l0 t101 _ ?side1 ?side2 A2.out).mono ?_); (case side1 => repeat (first | exact HR0.out | (with_reducible refine Kd.C_alloc ?_ _) | (with_reducible refine Kd.C_drewN ?_ _) | (with_reducible refine Kd.C_drew ?_))); (case side2 => exact HC0.out); rintro e w3 ⟨rfl, hb⟩; refine ⟨_, rfl, ?_⟩; have n0_ := Aside0.mk (below_step (by repeat (first | (with_reducible first | exact HB.out | apply below_alloc | apply pw_below_drewN | apply below_drew1) | exact HB.out)) hb); clear HB; have HB := n0_; clear n0_; (try clear hb); (try clear hb2); (try clear hk); (try clear hi)))
  go_ret
  exact ⟨by first | rfl | (simp [errW_none, errW_some] <;> rfl) | (simp [*, errW_none, errW_some] <;> rfl), by repeat (first | (with_reducible first | exact HB.out | apply below_alloc | apply pw_below_drewN | apply below_drew1) | exact HB.out)⟩

/-! ### check_Start: function 32 -/
def check_Start.f  : Option (Int) := some 4294967295
set_option maxHeartbeats 8000000 in
set_option maxRecDepth 100000 in
theorem check_Start.calls  (r : Int) (w : World) (h : check_Start.f  = some r) :
    Calls Try.prog 32 #[] w fun e w' => e = .returned (.int .u32 r) ∧ Drawn0 w w' := by
  have H : (some 4294967295) = some r := h
  clear h
  obtain rfl := Option.some.inj H
  go_enter Try.func32, Try.ntmps32
  go_wp2
  go_ret
  exact ⟨by first | rfl | (simp; done) | (simp [*]; done), by repeat (first | exact Drawn0.refl _ | apply Drawn0.step)⟩

/-! ### prebendlaw04_awake: function 26 -/
def prebendlaw04_awake.f : Option (Bool) := some true
theorem prebendlaw04_awake.calls (r : Bool) (w : World) (h : prebendlaw04_awake.f = some r) :
    Calls Try.prog 26 #[] w fun e w' => e = .returned (.bool r) ∧ Below w.heap.size w w' := by
  injection h with h
  subst h
  have kc := fun (w : World) (C : Array Value) (n c : Nat) => Lib.run_convert_bytes_const (P := Try.prog) w 44 5 C n c Try.underlying44 Try.underlying5
  have h1 : check_Of.f [49, 50, 51, 52, 53, 54, 55, 56, 57] = some 58124007 := by decide +kernel
  have h2 : check_Of.f [] = some 4294967295 := by decide +kernel
  have h3 : check_Start.f = some 4294967295 := rfl
  have H1 := Aside0.mk h1
  have H2 := Aside0.mk h2
  have H3 := Aside0.mk h3
  clear h1 h2 h3
  go_enter Try.func26, Try.ntmps26
  go_wp2_with fail
  refine (check_Of.calls (some ⟨w.heap.size, 0, none⟩) 9 [49, 50, 51, 52, 53, 54, 55, 56, 57] 58124007 _ (XCheck.C_of_marked w [49, 50, 51, 52, 53, 54, 55, 56, 57] 5 9 10 (by decide)) (by decide) H1.out).mono ?_
  rintro e w1 ⟨rfl, hb1⟩
  go_wp2_with fail
  refine (check_Start.calls 4294967295 _ H3.out).mono ?_
  rintro e w2 ⟨rfl, ⟨n2, rfl⟩⟩
  go_wp2_with fail
  refine (check_Of.calls none 0 [] 4294967295 _ (Kd.C_nil _ _) (by decide) H2.out).mono ?_
  rintro e w3 ⟨rfl, hb3⟩
  go_wp2_with fail
  refine (check_Start.calls 4294967295 _ H3.out).mono ?_
  rintro e w4 ⟨rfl, ⟨n4, rfl⟩⟩
  go_wp2
  go_ret
  refine ⟨rfl, ?_⟩
  have b1 : Below w.heap.size w (w.alloc (.cells #[.int .u8 49, .int .u8 50, .int .u8 51, .int .u8 52, .int .u8 53, .int .u8 54, .int .u8 55, .int .u8 56, .int .u8 57] 5 (9, 10))) := (Below.refl _ _).alloc (Nat.le_refl _) _
  exact pw_below_drewN (below_step (pw_below_drewN (below_step b1 hb1) _) hb3) _

/-! ### prebendlaw04_short: function 28 -/
def prebendlaw04_short.f (l0 : List Int) : Option (List Int) := if (l0.length : Int) > 2000 then (if 2000 ≤ (l0.length : Int) then (some (l0.take 2000)) else (none)) else (some l0)
set_option maxHeartbeats 8000000 in
set_option maxRecDepth 100000 in
theorem prebendlaw04_short.calls (P0_ : Nat → Prop) (A0 : Option Addr) (c0 : Nat) (l0 : List Int) (r : List Int) (w : World) (hs0 : Kd.V (Kd.int .u8) 5 w w.heap.size (fun k_ => P0_ k_) (.slice A0 l0.length c0) l0) (h : prebendlaw04_short.f l0 = some r) :
    Calls Try.prog 28 #[.slice A0 l0.length c0] w fun e w' => ∃ v0_ : Value, e = .returned (v0_) ∧ Kd.V (Kd.int .u8) 5 w' w.heap.size (fun k_ => (P0_ k_ ∨ w.heap.size ≤ k_)) v0_ r ∧ Below w.heap.size w w' := by
  have HO0 := Aside0.mk (show Kd.V (Kd.int .u8) 5 w w.heap.size (fun k_ => (P0_ k_ ∨ w.heap.size ≤ k_)) (.slice A0 l0.length c0) l0 from Kd.V_mono hs0 (fun k_ hk => .inl hk))
  have HB := Aside0.mk (Below.refl w.heap.size w)
  have H : (if (l0.length : Int) > 2000 then (if 2000 ≤ (l0.length : Int) then (some (l0.take 2000)) else (none)) else (some l0)) = some r := h
  clear h
  by_cases c2 : (l0.length : Int) > 2000
  · rw [if_pos c2] at H
    have c2b0 : decide (2000 < (l0.length : Int)) = true := decide_eq_true c2
    have c2b1 : decide (2000 < l0.length) = true := decide_eq_true (by omega)
    clear c2
    by_cases c3 : 2000 ≤ (l0.length : Int)
    · rw [if_pos c3] at H
      have c3b0 := eq_true c3
      have c3b1 : decide (2000 ≤ (l0.length : Int)) = true := decide_eq_true c3
      clear c3
      obtain ⟨y102, hy102⟩ : ∃ y_ : List Int, y_ = (l0.take 2000) := ⟨_, rfl⟩
      replace H : (some y102) = some r := by first | (rw [hy102]; with_reducible exact H) | (have H2_ := (Option.bind_some _ _).symm.trans H; rw [hy102]; with_reducible exact H2_) | (have H2_ := (Option.bind_some _ _).symm.trans H; with_reducible exact H2_) | with_reducible exact H | (rw [hy102]; exact H) | exact H
      have Ny102 := Aside0.mk hy102
      clear hy102
      obtain rfl := Option.some.inj H
      have q4 : (2000 : Int) ≤ ((l0.length : Int) : Int) := of_decide_eq_true (by first | (with_reducible assumption) | assumption)
      obtain ⟨i04, hi04, _, hsz4, _⟩ := info_parts info5
      have hroom4 : l0.length ≤ c0 := (Kd.V_reads' HO0.out).2.1
      have hC4 : Kd.F (Kd.int .u8) _ _ A0 l0.length l0 := (Kd.V_at (base := w.heap.size) HO0.out).2.2
      have hcut4 := cut_to (P := Try.prog) 44 5 .i64 Try.underlying44 hi04 A0 l0.length c0 2000 (by omega) q4 hroom4
      have hr4 := Kd.F_take (m := 2000) hC4 (by omega)
      have hy4 : y102.length = (2000 : Int).toNat := (by rw [Ny102.out, List.length_take]; omega)
      rw [← Ny102.out] at hr4
      rw [← hy4] at hcut4
      have HO106 := Aside0.mk (show Kd.V (Kd.int .u8) 5 _ w.heap.size _ (.slice A0 y102.length c0) y102 from Kd.V_mk (by omega) hr4)
      have HC106 := Aside0.mk (show y102.length ≤ c0 from by omega)
      clear hr4 hC4 hroom4 hi04 hsz4
      have KY4 := Aside0.mk hy4
      clear hy4
      replace q4 := eq_true q4
      go_enter Try.func28, Try.ntmps28
      go_wp2
      go_ret
      exact ⟨_, by first | rfl | (simp [errW_none, errW_some] <;> rfl) | (simp [*, errW_none, errW_some] <;> rfl), by (with_reducible repeat (first | apply Kd.V_alloc | apply Kd.V_drewN | apply Kd.V_drew)); exact HO106.out, by repeat (first | (with_reducible first | exact HB.out | apply below_alloc | apply pw_below_drewN | apply below_drew1) | exact HB.out)⟩
    · rw [if_neg c3] at H
      exact absurd H (by simp)
  · rw [if_neg c2] at H
    have c2b0 : decide (2000 < (l0.length : Int)) = false := decide_eq_false c2
    have c2b1 : decide (2000 < l0.length) = false := decide_eq_false (by omega)
    clear c2
    obtain rfl := Option.some.inj H
    go_enter Try.func28, Try.ntmps28
    go_wp2
    go_ret
    exact ⟨_, by first | rfl | (simp [errW_none, errW_some] <;> rfl) | (simp [*, errW_none, errW_some] <;> rfl), by (with_reducible repeat (first | apply Kd.V_alloc | apply Kd.V_drewN | apply Kd.V_drew)); exact HO0.out, by repeat (first | (with_reducible first | exact HB.out | apply below_alloc | apply pw_below_drewN | apply below_drew1) | exact HB.out)⟩

/-! ### prebendref04_From: function 29 -/
mutual
def prebendref04_From.l0 : Nat → Int → List Int → Int → Option (Int)
  | 0, _, _, _ => none
  | k + 1, x0, x1, x5 => if x5 < (x1.length : Int) then (prebendref04_From.l1 k x0 x1 x5 7) else (some x0)
def prebendref04_From.l1 : Nat → Int → List Int → Int → Int → Option (Int)
  | 0, _, _, _, _ => none
  | k + 1, x0, x1, x5, x6 => if x6 ≥ 0 then (if 0 ≤ x5 then (if x5 < (x1.length : Int) then (if 0 ≤ (IntKind.u64.wrap (x6)) then (if (x0 / 2147483648) = (Go.bits .and .u32 ((shr .u8 (rd x1 x5) (IntKind.u64.wrap (x6))) % 4294967296) 1) then (prebendref04_From.l1 k ((x0 * 2) % 4294967296) x1 x5 (wrap64 (x6 - 1))) else (prebendref04_From.l1 k (Go.bits .xor .u32 ((x0 * 2) % 4294967296) 79764919) x1 x5 (wrap64 (x6 - 1)))) else (none)) else (none)) else (none)) else (prebendref04_From.l0 k x0 x1 (wrap64 (x5 + 1)))
end
def prebendref04_From.f (k : Nat) (a0 : Int) (l1 : List Int) : Option (Int) := prebendref04_From.l0 k a0 l1 0
theorem prebendref04_From.mono_l : ∀ k, (∀ y0 y1 y2, LeO (prebendref04_From.l0 k y0 y1 y2) (prebendref04_From.l0 (k + 1) y0 y1 y2)) ∧ (∀ y0 y1 y2 y3, LeO (prebendref04_From.l1 k y0 y1 y2 y3) (prebendref04_From.l1 (k + 1) y0 y1 y2 y3))
  | 0 => ⟨fun _ _ _ r h => by simp [prebendref04_From.l0] at h, fun _ _ _ _ r h => by simp [prebendref04_From.l1] at h⟩
  | k + 1 => by
    obtain ⟨ih0, ih1⟩ := prebendref04_From.mono_l k
    refine ⟨?_, ?_⟩
    · intro y0 y1 y2
      unfold prebendref04_From.l0
      repeat' first
      | (with_reducible exact ih0 _ _ _)
      | (with_reducible exact ih1 _ _ _ _)
      | (with_reducible exact LeO.refl _)
      | (with_reducible exact LeO.none _)
      | (with_reducible refine LeO.ite ?_ ?_)
      | (with_reducible refine LeO.bind ?_ (fun _ => ?_))
      | exact ih0 _ _ _
      | exact ih1 _ _ _ _
      | exact LeO.none _
      | refine LeO.ite ?_ ?_
      | refine LeO.bind ?_ (fun _ => ?_)
    · intro y0 y1 y2 y3
      unfold prebendref04_From.l1
      repeat' first
      | (with_reducible exact ih0 _ _ _)
      | (with_reducible exact ih1 _ _ _ _)
      | (with_reducible exact LeO.refl _)
      | (with_reducible exact LeO.none _)
      | (with_reducible refine LeO.ite ?_ ?_)
      | (with_reducible refine LeO.bind ?_ (fun _ => ?_))
      | exact ih0 _ _ _
      | exact ih1 _ _ _ _
      | exact LeO.none _
      | refine LeO.ite ?_ ?_
      | refine LeO.bind ?_ (fun _ => ?_)
theorem prebendref04_From.mono : ∀ a0 a1 k, LeO (prebendref04_From.f k a0 a1) (prebendref04_From.f (k + 1) a0 a1) := by
  intro a0 a1 k
  obtain ⟨ih0, ih1⟩ := prebendref04_From.mono_l k
  unfold prebendref04_From.f
  repeat' first
      | (with_reducible exact ih0 _ _ _)
      | (with_reducible exact ih1 _ _ _ _)
      | (with_reducible exact LeO.refl _)
      | (with_reducible exact LeO.none _)
      | (with_reducible refine LeO.ite ?_ ?_)
      | (with_reducible refine LeO.bind ?_ (fun _ => ?_))
      | exact ih0 _ _ _
      | exact ih1 _ _ _ _
      | exact LeO.none _
      | refine LeO.ite ?_ ?_
      | refine LeO.bind ?_ (fun _ => ?_)
set_option maxHeartbeats 8000000 in
set_option maxRecDepth 100000 in
theorem prebendref04_From.calls (k : Nat) (a0 : Int) (A1 : Option Addr) (c1 : Nat) (l1 : List Int) (r : Int) (w : World) (hr1 : Kd.C (Kd.int .u8) w A1 l1.length l1) (hc1 : l1.length ≤ c1) (h : prebendref04_From.f k a0 l1 = some r) :
    Calls Try.prog 29 #[.int .u32 a0, .slice A1 l1.length c1] w fun e w' => e = .returned (.int .u32 r) ∧ Drawn0 w w' := by
  have HR1 := Aside0.mk hr1
  have HC1 := Aside0.mk hc1
  clear hr1 hc1
  have H : (prebendref04_From.l0 k a0 l1 0) = some r := h
  clear h
  have H' := Aside0.mk H
  clear H
  go_enter Try.func29, Try.ntmps29
  go_wp2
  go_loopg [0, 5] k (fun kq v0 v5 w' => ∃ (x0_1 : Int) (x5_1 : Int), v0 = .int .u32 x0_1 ∧ v5 = .int .i64 x5_1 ∧ Aside0 (prebendref04_From.l0 kq x0_1 l1 x5_1 = some r) ∧ Aside0 (kq ≤ k) ∧ Drawn0 w w')
  case atStart => exact ⟨(a0), (0), (by first | rfl | (simp; done) | (simp [*]; done)), (by first | rfl | (simp; done) | (simp [*]; done)), H', ⟨Nat.le_refl _⟩, by repeat (first | exact Drawn0.refl _ | apply Drawn0.step)⟩
  case round =>
    clear H'
    try clear c1
    try clear c2
    try clear p2
    obtain ⟨x0_1, x5_1, rfl, rfl, HA, HK1, ⟨m1, rfl⟩⟩ := hrel
    cases gk with
    | zero => exact absurd HA.out (by simp [prebendref04_From.l0])
    | succ k1 =>
      have H := HA.out
      clear HA
      simp only [prebendref04_From.l0] at H
      by_cases c3 : x5_1 < (l1.length : Int)
      · rw [if_pos c3] at H
        have c3b0 : decide (x5_1 < (l1.length : Int)) = true := decide_eq_true c3
        clear c3
        have H' := Aside0.mk H
        clear H
        go_wp2
        go_loopg [0, 6] k1 (fun kq v0 v6 w' => ∃ (x0_2 : Int) (x6_2 : Int), v0 = .int .u32 x0_2 ∧ v6 = .int .i64 x6_2 ∧ Aside0 (prebendref04_From.l1 kq x0_2 l1 x5_1 x6_2 = some r) ∧ Aside0 (kq ≤ k1) ∧ Drawn0 w w')
        case atStart => exact ⟨(x0_1), (7), (by first | rfl | (simp; done) | (simp [*]; done)), (by first | rfl | (simp; done) | (simp [*]; done)), H', ⟨Nat.le_refl _⟩, by repeat (first | exact Drawn0.refl _ | apply Drawn0.step)⟩
        case round =>
          clear H'
          try clear c1
          try clear c2
          try clear p2
          try clear c3
          try clear c3b0
          try clear p2
          obtain ⟨x0_2, x6_2, rfl, rfl, HA, HK2, ⟨m2, rfl⟩⟩ := hrel
          cases gk with
          | zero => exact absurd HA.out (by simp [prebendref04_From.l1])
          | succ k2 =>
            have H := HA.out
            clear HA
            simp only [prebendref04_From.l1] at H
            by_cases c4 : x6_2 ≥ 0
            · rw [if_pos c4] at H
              have c4b0 : decide (0 ≤ x6_2) = true := decide_eq_true c4
              clear c4
              by_cases c5 : 0 ≤ x5_1
              · rw [if_pos c5] at H
                have c5b0 : decide (0 ≤ x5_1) = true := decide_eq_true c5
                clear c5
                by_cases c6 : x5_1 < (l1.length : Int)
                · rw [if_pos c6] at H
                  have c6b0 : decide (x5_1 < (l1.length : Int)) = true := decide_eq_true c6
                  clear c6
                  obtain ⟨ji7, hji7⟩ : ∃ j_ : Int, (IntKind.u64.wrap (x6_2)) = j_ := ⟨_, rfl⟩
                  replace H : (if 0 ≤ (ji7) then (if (x0_2 / 2147483648) = (Go.bits .and .u32 ((shr .u8 (rd l1 x5_1) (ji7)) % 4294967296) 1) then (prebendref04_From.l1 k2 ((x0_2 * 2) % 4294967296) l1 x5_1 (wrap64 (x6_2 - 1))) else (prebendref04_From.l1 k2 (Go.bits .xor .u32 ((x0_2 * 2) % 4294967296) 79764919) l1 x5_1 (wrap64 (x6_2 - 1)))) else (none)) = some r := by first | (rw [hji7] at H; exact H) | (simp only [hji7] at H ⊢; exact H)
                  by_cases c8 : 0 ≤ (ji7)
                  · rw [if_pos c8] at H
                    have c8b0 := eq_true c8
                    have c8b1 : decide (0 ≤ (ji7)) = true := decide_eq_true c8
                    clear c8
                    obtain ⟨ji9, hji9⟩ : ∃ j_ : Int, (shr .u8 (rd l1 x5_1) (ji7)) = j_ := ⟨_, rfl⟩
                    replace H : (if (x0_2 / 2147483648) = (Go.bits .and .u32 ((ji9) % 4294967296) 1) then (prebendref04_From.l1 k2 ((x0_2 * 2) % 4294967296) l1 x5_1 (wrap64 (x6_2 - 1))) else (prebendref04_From.l1 k2 (Go.bits .xor .u32 ((x0_2 * 2) % 4294967296) 79764919) l1 x5_1 (wrap64 (x6_2 - 1)))) = some r := by first | (rw [hji9] at H; exact H) | (simp only [hji9] at H ⊢; exact H)
                    have hji9_ : ((rd l1 x5_1) / 2 ^ min (ji7).toNat 8) = ji9 := hji9
                    have hji9z : (ji7) ≤ 8 → ((rd l1 x5_1) / 2 ^ (ji7).toNat) = ji9 := shr_small hji9
                    by_cases c10 : (x0_2 / 2147483648) = (Go.bits .and .u32 ((ji9) % 4294967296) 1)
                    · rw [if_pos c10] at H
                      have c10b0 : ((x0_2 / 2147483648) == (Go.bits .and .u32 ((ji9) % 4294967296) 1)) = true := beq_iff_eq.mpr c10
                      have c10b1 : ((x0_2 / 2147483648) != (Go.bits .and .u32 ((ji9) % 4294967296) 1)) = false := bne_eq_false_iff_eq.mpr c10
                      clear c10
                      have H' := Aside0.mk H
                      clear H
                      have p107 : 0 ≤ (x5_1 : Int) := of_decide_eq_true (by first | (with_reducible assumption) | assumption)
                      have q107 : x5_1 < (l1.length : Int) := of_decide_eq_true (by first | (with_reducible assumption) | assumption)
                      obtain ⟨ad107, e107, hx107_0⟩ := Kd.at_int HR1.out x5_1 p107 q107
                      cases e107
                      replace p107 := eq_true p107
                      replace q107 := eq_true q107
                      go_wp2
                      go_roundg k2
                      case measure => have := HK1.out; have := HK2.out; omega
                      case rel => exact ⟨((x0_2 * 2) % 4294967296), (wrap64 (x6_2 - 1)), (by first | rfl | (simp; done) | (simp [*]; done)), (by first | rfl | (simp; done) | (simp [*]; done)), H', ⟨by have := HK1.out; have := HK2.out; omega⟩, by repeat (first | exact Drawn0.refl _ | apply Drawn0.step)⟩
                    · rw [if_neg c10] at H
                      have c10b0 : ((x0_2 / 2147483648) == (Go.bits .and .u32 ((ji9) % 4294967296) 1)) = false := beq_eq_false_iff_ne.mpr c10
                      have c10b1 : ((x0_2 / 2147483648) != (Go.bits .and .u32 ((ji9) % 4294967296) 1)) = true := bne_iff_ne.mpr c10
                      have H' := Aside0.mk H
                      clear H
                      have p107 : 0 ≤ (x5_1 : Int) := of_decide_eq_true (by first | (with_reducible assumption) | assumption)
                      have q107 : x5_1 < (l1.length : Int) := of_decide_eq_true (by first | (with_reducible assumption) | assumption)
                      obtain ⟨ad107, e107, hx107_0⟩ := Kd.at_int HR1.out x5_1 p107 q107
                      cases e107
                      replace p107 := eq_true p107
                      replace q107 := eq_true q107
                      go_wp2
                      go_roundg k2
                      case measure => have := HK1.out; have := HK2.out; omega
                      case rel => exact ⟨(Go.bits .xor .u32 ((x0_2 * 2) % 4294967296) 79764919), (wrap64 (x6_2 - 1)), (by first | rfl | (simp; done) | (simp [*]; done)), (by first | rfl | (simp; done) | (simp [*]; done)), H', ⟨by have := HK1.out; have := HK2.out; omega⟩, by repeat (first | exact Drawn0.refl _ | apply Drawn0.step)⟩
                  · rw [if_neg c8] at H
                    exact absurd H (by simp)
                · rw [if_neg c6] at H
                  exact absurd H (by simp)
              · rw [if_neg c5] at H
                exact absurd H (by simp)
            · rw [if_neg c4] at H
              have c4b0 : decide (0 ≤ x6_2) = false := decide_eq_false c4
              clear c4
              have H' := Aside0.mk H
              clear H
              go_wp2
              go_roundg k2
              case measure => have := HK1.out; have := HK2.out; omega
              case rel => exact ⟨(x0_2), (wrap64 (x5_1 + 1)), (by first | rfl | (simp; done) | (simp [*]; done)), (by first | rfl | (simp; done) | (simp [*]; done)), H', ⟨by have := HK1.out; have := HK2.out; omega⟩, by repeat (first | exact Drawn0.refl _ | apply Drawn0.step)⟩
      · rw [if_neg c3] at H
        have c3b0 : decide (x5_1 < (l1.length : Int)) = false := decide_eq_false c3
        clear c3
        obtain rfl := Option.some.inj H
        go_wp2
        go_ret
        exact ⟨by first | rfl | (simp; done) | (simp [*]; done), by repeat (first | exact Drawn0.refl _ | apply Drawn0.step)⟩

/-! ### prebendref04_Of: function 31 -/
def prebendref04_Of.f (k : Nat) (l0 : List Int) : Option (Int) := (prebendref04_From.f k 4294967295 l0).bind fun t108 => (some t108)
theorem prebendref04_Of.mono : ∀ a0 k, LeO (prebendref04_Of.f k a0) (prebendref04_Of.f (k + 1) a0) := by
  intro a0 k
  unfold prebendref04_Of.f
  repeat' first
      | (with_reducible exact prebendref04_From.mono _ _ _)
      | (with_reducible exact LeO.refl _)
      | (with_reducible exact LeO.none _)
      | (with_reducible refine LeO.ite ?_ ?_)
      | (with_reducible refine LeO.bind ?_ (fun _ => ?_))
      | exact prebendref04_From.mono _ _ _
      | exact LeO.none _
      | refine LeO.ite ?_ ?_
      | refine LeO.bind ?_ (fun _ => ?_)
set_option maxHeartbeats 8000000 in
set_option maxRecDepth 100000 in
theorem prebendref04_Of.calls (k : Nat) (A0 : Option Addr) (c0 : Nat) (l0 : List Int) (r : Int) (w : World) (hr0 : Kd.C (Kd.int .u8) w A0 l0.length l0) (hc0 : l0.length ≤ c0) (h : prebendref04_Of.f k l0 = some r) :
    Calls Try.prog 31 #[.slice A0 l0.length c0] w fun e w' => e = .returned (.int .u32 r) ∧ Drawn0 w w' := by
  have HR0 := Aside0.mk hr0
  have HC0 := Aside0.mk hc0
  clear hr0 hc0
  have H : ((prebendref04_From.f k 4294967295 l0).bind fun t108 => (some t108)) = some r := h
  clear h
  replace H := Option.bind_eq_some_iff.mp H
  obtain ⟨t108, A20, H⟩ := H
  replace H : (some t108) = some r := H
  have A2 := Aside0.mk A20
  clear A20
  obtain rfl := Option.some.inj H
  go_enter Try.func31, Try.ntmps31
  go_wp2_with (first | ((with_reducible refine gate_callee (f := 29) rfl ?_); refine goesL_ (some 4) rfl rfl Try.func29 (by kernel_rfl) rfl #[.int .u32 4294967295, .slice A0 l0.length c0] rfl (by (try simp only [List.map_toArray, List.map_cons, List.map_nil]); first | done | rfl | (simp only [List.length_drop, List.length_take]; rfl)) ?_; (with_reducible refine (prebendref04_From.calls k 4294967295 _ _ l0 t108 _ ?side1 ?side2 A2.out).mono ?_); (case side1 => repeat (first | exact HR0.out | (with_reducible refine Kd.C_alloc ?_ _) | (with_reducible refine Kd.C_drewN ?_ _) | (with_reducible refine Kd.C_drew ?_))); (case side2 => exact HC0.out); rintro e w' ⟨rfl, ⟨nd, rfl⟩⟩; refine ⟨_, rfl, ?_⟩))
  go_ret
  exact ⟨by first | rfl | (simp; done) | (simp [*]; done), by repeat (first | exact Drawn0.refl _ | apply Drawn0.step)⟩

/-! ### prebendlaw04_CheckOf: function 9 -/
def prebendlaw04_CheckOf.f (k : Nat) (a0 : Int) (l1 : List Int) : Option (Bool) := (prebendlaw04_awake.f).bind fun t109 => (if t109 = true then ((prebendlaw04_short.f l1).bind fun t110 => ((check_From.f a0 t110).bind fun t113 => ((prebendlaw04_short.f l1).bind fun t114 => ((prebendref04_From.f k a0 t114).bind fun t117 => (if t113 = t117 then ((prebendlaw04_short.f l1).bind fun t118 => ((check_Of.f t118).bind fun t121 => ((prebendlaw04_short.f l1).bind fun t122 => ((prebendref04_Of.f k t122).bind fun t125 => (some (t121 == t125)))))) else (some false)))))) else (some false))
theorem prebendlaw04_CheckOf.mono : ∀ a0 a1 k, LeO (prebendlaw04_CheckOf.f k a0 a1) (prebendlaw04_CheckOf.f (k + 1) a0 a1) := by
  intro a0 a1 k
  unfold prebendlaw04_CheckOf.f
  repeat' first
      | (with_reducible exact prebendref04_From.mono _ _ _)
      | (with_reducible exact prebendref04_Of.mono _ _)
      | (with_reducible exact LeO.refl _)
      | (with_reducible exact LeO.none _)
      | (with_reducible refine LeO.ite ?_ ?_)
      | (with_reducible refine LeO.bind ?_ (fun _ => ?_))
      | exact prebendref04_From.mono _ _ _
      | exact prebendref04_Of.mono _ _
      | exact LeO.none _
      | refine LeO.ite ?_ ?_
      | refine LeO.bind ?_ (fun _ => ?_)
set_option maxHeartbeats 8000000 in
set_option maxRecDepth 100000 in
theorem prebendlaw04_CheckOf.calls (k : Nat) (a0 : Int) (A1 : Option Addr) (c1 : Nat) (l1 : List Int) (r : Bool) (w : World) (hr1 : Kd.C (Kd.int .u8) w A1 l1.length l1) (hc1 : l1.length ≤ c1) (h : prebendlaw04_CheckOf.f k a0 l1 = some r) :
    Calls Try.prog 9 #[.int .u32 a0, .slice A1 l1.length c1] w fun e w' => e = .returned (.bool r) ∧ Below w.heap.size w w' := by
  have HR1 := Aside0.mk hr1
  have HC1 := Aside0.mk hc1
  clear hr1 hc1
  have HB := Aside0.mk (Below.refl w.heap.size w)
  have H : ((prebendlaw04_awake.f).bind fun t109 => (if t109 = true then ((prebendlaw04_short.f l1).bind fun t110 => ((check_From.f a0 t110).bind fun t113 => ((prebendlaw04_short.f l1).bind fun t114 => ((prebendref04_From.f k a0 t114).bind fun t117 => (if t113 = t117 then ((prebendlaw04_short.f l1).bind fun t118 => ((check_Of.f t118).bind fun t121 => ((prebendlaw04_short.f l1).bind fun t122 => ((prebendref04_Of.f k t122).bind fun t125 => (some (t121 == t125)))))) else (some false)))))) else (some false))) = some r := h
  clear h
  replace H := Option.bind_eq_some_iff.mp H
  obtain ⟨t109, A30, H⟩ := H
  replace H : (if t109 = true then ((prebendlaw04_short.f l1).bind fun t110 => ((check_From.f a0 t110).bind fun t113 => ((prebendlaw04_short.f l1).bind fun t114 => ((prebendref04_From.f k a0 t114).bind fun t117 => (if t113 = t117 then ((prebendlaw04_short.f l1).bind fun t118 => ((check_Of.f t118).bind fun t121 => ((prebendlaw04_short.f l1).bind fun t122 => ((prebendref04_Of.f k t122).bind fun t125 => (some (t121 == t125)))))) else (some false)))))) else (some false)) = some r := H
  have A3 := Aside0.mk A30
  clear A30
  by_cases c4 : t109 = true
  · subst c4
    have H1 : ((prebendlaw04_short.f l1).bind fun t110 => ((check_From.f a0 t110).bind fun t113 => ((prebendlaw04_short.f l1).bind fun t114 => ((prebendref04_From.f k a0 t114).bind fun t117 => (if t113 = t117 then ((prebendlaw04_short.f l1).bind fun t118 => ((check_Of.f t118).bind fun t121 => ((prebendlaw04_short.f l1).bind fun t122 => ((prebendref04_Of.f k t122).bind fun t125 => (some (t121 == t125)))))) else (some false)))))) = some r := by rw [if_pos rfl] at H; exact H
    clear H
    have H := H1
    clear H1
    replace H := Option.bind_eq_some_iff.mp H
    obtain ⟨t110, A50, H⟩ := H
    replace H : ((check_From.f a0 t110).bind fun t113 => ((prebendlaw04_short.f l1).bind fun t114 => ((prebendref04_From.f k a0 t114).bind fun t117 => (if t113 = t117 then ((prebendlaw04_short.f l1).bind fun t118 => ((check_Of.f t118).bind fun t121 => ((prebendlaw04_short.f l1).bind fun t122 => ((prebendref04_Of.f k t122).bind fun t125 => (some (t121 == t125)))))) else (some false))))) = some r := H
    have A5 := Aside0.mk A50
    clear A50
    replace H := Option.bind_eq_some_iff.mp H
    obtain ⟨t113, A60, H⟩ := H
    replace H : ((prebendlaw04_short.f l1).bind fun t114 => ((prebendref04_From.f k a0 t114).bind fun t117 => (if t113 = t117 then ((prebendlaw04_short.f l1).bind fun t118 => ((check_Of.f t118).bind fun t121 => ((prebendlaw04_short.f l1).bind fun t122 => ((prebendref04_Of.f k t122).bind fun t125 => (some (t121 == t125)))))) else (some false)))) = some r := H
    have A6 := Aside0.mk A60
    clear A60
    replace H := Option.bind_eq_some_iff.mp H
    obtain ⟨t114, A70, H⟩ := H
    replace H : ((prebendref04_From.f k a0 t114).bind fun t117 => (if t113 = t117 then ((prebendlaw04_short.f l1).bind fun t118 => ((check_Of.f t118).bind fun t121 => ((prebendlaw04_short.f l1).bind fun t122 => ((prebendref04_Of.f k t122).bind fun t125 => (some (t121 == t125)))))) else (some false))) = some r := H
    have A7 := Aside0.mk A70
    clear A70
    replace H := Option.bind_eq_some_iff.mp H
    obtain ⟨t117, A80, H⟩ := H
    replace H : (if t113 = t117 then ((prebendlaw04_short.f l1).bind fun t118 => ((check_Of.f t118).bind fun t121 => ((prebendlaw04_short.f l1).bind fun t122 => ((prebendref04_Of.f k t122).bind fun t125 => (some (t121 == t125)))))) else (some false)) = some r := H
    have A8 := Aside0.mk A80
    clear A80
    by_cases c9 : t113 = t117
    · rw [if_pos c9] at H
      have c9b0 : (t113 == t117) = true := beq_iff_eq.mpr c9
      have c9b1 : (t113 != t117) = false := bne_eq_false_iff_eq.mpr c9
      clear c9
      replace H := Option.bind_eq_some_iff.mp H
      obtain ⟨t118, A100, H⟩ := H
      replace H : ((check_Of.f t118).bind fun t121 => ((prebendlaw04_short.f l1).bind fun t122 => ((prebendref04_Of.f k t122).bind fun t125 => (some (t121 == t125))))) = some r := H
      have A10 := Aside0.mk A100
      clear A100
      replace H := Option.bind_eq_some_iff.mp H
      obtain ⟨t121, A110, H⟩ := H
      replace H : ((prebendlaw04_short.f l1).bind fun t122 => ((prebendref04_Of.f k t122).bind fun t125 => (some (t121 == t125)))) = some r := H
      have A11 := Aside0.mk A110
      clear A110
      replace H := Option.bind_eq_some_iff.mp H
      obtain ⟨t122, A120, H⟩ := H
      replace H : ((prebendref04_Of.f k t122).bind fun t125 => (some (t121 == t125))) = some r := H
      have A12 := Aside0.mk A120
      clear A120
      replace H := Option.bind_eq_some_iff.mp H
      obtain ⟨t125, A130, H⟩ := H
      replace H : (some (t121 == t125)) = some r := H
      have A13 := Aside0.mk A130
      clear A130
      obtain rfl := Option.some.inj H
      go_enter Try.func9, Try.ntmps9
      go_wp2_with (first | ((with_reducible refine gate_callee (f := 26) rfl ?_); refine goesL_ (some 5) rfl rfl Try.func26 (by kernel_rfl) rfl #[] rfl (by (try simp only [List.map_toArray, List.map_cons, List.map_nil]); first | done | rfl | (simp only [List.length_drop, List.length_take]; rfl)) ?_; (with_reducible refine (prebendlaw04_awake.calls  true _ A3.out).mono ?_); rintro e w14 ⟨rfl, hb⟩; refine ⟨_, rfl, ?_⟩; have n0_ := Aside0.mk (below_step (by repeat (first | (with_reducible first | exact HB.out | apply below_alloc | apply pw_below_drewN | apply below_drew1) | exact HB.out)) hb); clear HB; have HB := n0_; clear n0_; (try clear hb); (try clear hb2); (try clear hk); (try clear hi)) | (go_at_call 28; (with_reducible refine (prebendlaw04_short.calls (fun k_ => k_ < w.heap.size) _ _ l1 t110 _ ?side1 A5.out).mono ?_); (case side1 => exact Kd.V_mk HC1.out (Kd.F_below (Kd.C_F (Kd.heap_int .u8) HR1.out) (by repeat (first | (with_reducible first | exact HB.out | apply below_alloc | apply pw_below_drewN | apply below_drew1) | exact HB.out)))); rintro e w15 ⟨v111, rfl, ho0, hb⟩; (try clear A5); have n0_ := Aside0.mk (Kd.V_lower (Kd.V_mono (ok' := fun k_ => True) ho0 (fun k_ hk_ => trivial)) (below_size (by repeat (first | (with_reducible first | exact HB.out | apply below_alloc | apply pw_below_drewN | apply below_drew1) | exact HB.out)))); have n1_ := Aside0.mk (below_step (by repeat (first | (with_reducible first | exact HB.out | apply below_alloc | apply pw_below_drewN | apply below_drew1) | exact HB.out)) hb); clear HB; have HO112 := n0_; have HB := n1_; clear n0_ n1_; (try clear hb); (try clear hb2); (try clear hk); (try clear hi); (try clear ho0); obtain ⟨Ao16, co16, eo16⟩ := Kd.V_slice HO112.out; subst eo16) | (go_at_call 27; (with_reducible refine (check_From.calls a0 _ _ t110 t113 _ ?side1 ?side2 A6.out).mono ?_); (case side1 => repeat (first | exact (Kd.V_reads' HO112.out).2.2 | (with_reducible refine Kd.C_alloc ?_ _) | (with_reducible refine Kd.C_drewN ?_ _) | (with_reducible refine Kd.C_drew ?_))); (case side2 => exact (Kd.V_reads' HO112.out).2.1); rintro e w17 ⟨rfl, hb⟩; (try clear A6); have n0_ := Aside0.mk (Kd.V_below (by (with_reducible repeat (first | apply Kd.V_alloc | apply Kd.V_drewN | apply Kd.V_drew)); exact HO112.out) hb); have n1_ := Aside0.mk (below_step (by repeat (first | (with_reducible first | exact HB.out | apply below_alloc | apply pw_below_drewN | apply below_drew1) | exact HB.out)) hb); clear HO112; clear HB; have HO112 := n0_; have HB := n1_; clear n0_ n1_; (try clear hb); (try clear hb2); (try clear hk); (try clear hi)) | (go_at_call 28; (with_reducible refine (prebendlaw04_short.calls (fun k_ => k_ < w.heap.size) _ _ l1 t114 _ ?side1 A7.out).mono ?_); (case side1 => exact Kd.V_mk HC1.out (Kd.F_below (Kd.C_F (Kd.heap_int .u8) HR1.out) (by repeat (first | (with_reducible first | exact HB.out | apply below_alloc | apply pw_below_drewN | apply below_drew1) | exact HB.out)))); rintro e w18 ⟨v115, rfl, ho0, hb⟩; (try clear A7); have n0_ := Aside0.mk (Kd.V_below (by (with_reducible repeat (first | apply Kd.V_alloc | apply Kd.V_drewN | apply Kd.V_drew)); exact HO112.out) hb); have n1_ := Aside0.mk (Kd.V_lower (Kd.V_mono (ok' := fun k_ => True) ho0 (fun k_ hk_ => trivial)) (below_size (by repeat (first | (with_reducible first | exact HB.out | apply below_alloc | apply pw_below_drewN | apply below_drew1) | exact HB.out)))); have n2_ := Aside0.mk (below_step (by repeat (first | (with_reducible first | exact HB.out | apply below_alloc | apply pw_below_drewN | apply below_drew1) | exact HB.out)) hb); clear HO112; clear HB; have HO112 := n0_; have HO116 := n1_; have HB := n2_; clear n0_ n1_ n2_; (try clear hb); (try clear hb2); (try clear hk); (try clear hi); (try clear ho0); obtain ⟨Ao19, co19, eo19⟩ := Kd.V_slice HO116.out; subst eo19) | (go_at_call 29; (with_reducible refine (prebendref04_From.calls k a0 _ _ t114 t117 _ ?side1 ?side2 A8.out).mono ?_); (case side1 => repeat (first | exact (Kd.V_reads' HO116.out).2.2 | (with_reducible refine Kd.C_alloc ?_ _) | (with_reducible refine Kd.C_drewN ?_ _) | (with_reducible refine Kd.C_drew ?_))); (case side2 => exact (Kd.V_reads' HO116.out).2.1); rintro e w' ⟨rfl, ⟨nd, rfl⟩⟩; (try clear A8)) | (go_at_call 28; (with_reducible refine (prebendlaw04_short.calls (fun k_ => k_ < w.heap.size) _ _ l1 t118 _ ?side1 A10.out).mono ?_); (case side1 => exact Kd.V_mk HC1.out (Kd.F_below (Kd.C_F (Kd.heap_int .u8) HR1.out) (by repeat (first | (with_reducible first | exact HB.out | apply below_alloc | apply pw_below_drewN | apply below_drew1) | exact HB.out)))); rintro e w20 ⟨v119, rfl, ho0, hb⟩; (try clear A10); have n0_ := Aside0.mk (Kd.V_below (by (with_reducible repeat (first | apply Kd.V_alloc | apply Kd.V_drewN | apply Kd.V_drew)); exact HO112.out) hb); have n1_ := Aside0.mk (Kd.V_below (by (with_reducible repeat (first | apply Kd.V_alloc | apply Kd.V_drewN | apply Kd.V_drew)); exact HO116.out) hb); have n2_ := Aside0.mk (Kd.V_lower (Kd.V_mono (ok' := fun k_ => True) ho0 (fun k_ hk_ => trivial)) (below_size (by repeat (first | (with_reducible first | exact HB.out | apply below_alloc | apply pw_below_drewN | apply below_drew1) | exact HB.out)))); have n3_ := Aside0.mk (below_step (by repeat (first | (with_reducible first | exact HB.out | apply below_alloc | apply pw_below_drewN | apply below_drew1) | exact HB.out)) hb); clear HO112; clear HO116; clear HB; have HO112 := n0_; have HO116 := n1_; have HO120 := n2_; have HB := n3_; clear n0_ n1_ n2_ n3_; (try clear hb); (try clear hb2); (try clear hk); (try clear hi); (try clear ho0); obtain ⟨Ao21, co21, eo21⟩ := Kd.V_slice HO120.out; subst eo21) | (go_at_call 30; (with_reducible refine (check_Of.calls _ _ t118 t121 _ ?side1 ?side2 A11.out).mono ?_); (case side1 => repeat (first | exact (Kd.V_reads' HO120.out).2.2 | (with_reducible refine Kd.C_alloc ?_ _) | (with_reducible refine Kd.C_drewN ?_ _) | (with_reducible refine Kd.C_drew ?_))); (case side2 => exact (Kd.V_reads' HO120.out).2.1); rintro e w22 ⟨rfl, hb⟩; (try clear A11); have n0_ := Aside0.mk (Kd.V_below (by (with_reducible repeat (first | apply Kd.V_alloc | apply Kd.V_drewN | apply Kd.V_drew)); exact HO112.out) hb); have n1_ := Aside0.mk (Kd.V_below (by (with_reducible repeat (first | apply Kd.V_alloc | apply Kd.V_drewN | apply Kd.V_drew)); exact HO116.out) hb); have n2_ := Aside0.mk (Kd.V_below (by (with_reducible repeat (first | apply Kd.V_alloc | apply Kd.V_drewN | apply Kd.V_drew)); exact HO120.out) hb); have n3_ := Aside0.mk (below_step (by repeat (first | (with_reducible first | exact HB.out | apply below_alloc | apply pw_below_drewN | apply below_drew1) | exact HB.out)) hb); clear HO112; clear HO116; clear HO120; clear HB; have HO112 := n0_; have HO116 := n1_; have HO120 := n2_; have HB := n3_; clear n0_ n1_ n2_ n3_; (try clear hb); (try clear hb2); (try clear hk); (try clear hi)) | (go_at_call 28; (with_reducible refine (prebendlaw04_short.calls (fun k_ => k_ < w.heap.size) _ _ l1 t122 _ ?side1 A12.out).mono ?_); (case side1 => exact Kd.V_mk HC1.out (Kd.F_below (Kd.C_F (Kd.heap_int .u8) HR1.out) (by repeat (first | (with_reducible first | exact HB.out | apply below_alloc | apply pw_below_drewN | apply below_drew1) | exact HB.out)))); rintro e w23 ⟨v123, rfl, ho0, hb⟩; (try clear A12); have n0_ := Aside0.mk (Kd.V_below (by (with_reducible repeat (first | apply Kd.V_alloc | apply Kd.V_drewN | apply Kd.V_drew)); exact HO112.out) hb); have n1_ := Aside0.mk (Kd.V_below (by (with_reducible repeat (first | apply Kd.V_alloc | apply Kd.V_drewN | apply Kd.V_drew)); exact HO116.out) hb); have n2_ := Aside0.mk (Kd.V_below (by (with_reducible repeat (first | apply Kd.V_alloc | apply Kd.V_drewN | apply Kd.V_drew)); exact HO120.out) hb); have n3_ := Aside0.mk (Kd.V_lower (Kd.V_mono (ok' := fun k_ => True) ho0 (fun k_ hk_ => trivial)) (below_size (by repeat (first | (with_reducible first | exact HB.out | apply below_alloc | apply pw_below_drewN | apply below_drew1) | exact HB.out)))); have n4_ := Aside0.mk (below_step (by repeat (first | (with_reducible first | exact HB.out | apply below_alloc | apply pw_below_drewN | apply below_drew1) | exact HB.out)) hb); clear HO112; clear HO116; clear HO120; clear HB; have HO112 := n0_; have HO116 := n1_; have HO120 := n2_; have HO124 := n3_; have HB := n4_; clear n0_ n1_ n2_ n3_ n4_; (try clear hb); (try clear hb2); (try clear hk); (try clear hi); (try clear ho0); obtain ⟨Ao24, co24, eo24⟩ := Kd.V_slice HO124.out; subst eo24) | (go_at_call 31; (with_reducible refine (prebendref04_Of.calls k _ _ t122 t125 _ ?side1 ?side2 A13.out).mono ?_); (case side1 => repeat (first | exact (Kd.V_reads' HO124.out).2.2 | (with_reducible refine Kd.C_alloc ?_ _) | (with_reducible refine Kd.C_drewN ?_ _) | (with_reducible refine Kd.C_drew ?_))); (case side2 => exact (Kd.V_reads' HO124.out).2.1); rintro e w' ⟨rfl, ⟨nd, rfl⟩⟩; (try clear A13)))
      go_ret
      exact ⟨by first | rfl | (simp [errW_none, errW_some] <;> rfl) | (simp [*, errW_none, errW_some] <;> rfl), by repeat (first | (with_reducible first | exact HB.out | apply below_alloc | apply pw_below_drewN | apply below_drew1) | exact HB.out)⟩
    · rw [if_neg c9] at H
      have c9b0 : (t113 == t117) = false := beq_eq_false_iff_ne.mpr c9
      have c9b1 : (t113 != t117) = true := bne_iff_ne.mpr c9
      obtain rfl := Option.some.inj H
      go_enter Try.func9, Try.ntmps9
      go_wp2_with (first | ((with_reducible refine gate_callee (f := 26) rfl ?_); refine goesL_ (some 5) rfl rfl Try.func26 (by kernel_rfl) rfl #[] rfl (by (try simp only [List.map_toArray, List.map_cons, List.map_nil]); first | done | rfl | (simp only [List.length_drop, List.length_take]; rfl)) ?_; (with_reducible refine (prebendlaw04_awake.calls  true _ A3.out).mono ?_); rintro e w25 ⟨rfl, hb⟩; refine ⟨_, rfl, ?_⟩; have n0_ := Aside0.mk (below_step (by repeat (first | (with_reducible first | exact HB.out | apply below_alloc | apply pw_below_drewN | apply below_drew1) | exact HB.out)) hb); clear HB; have HB := n0_; clear n0_; (try clear hb); (try clear hb2); (try clear hk); (try clear hi)) | (go_at_call 28; (with_reducible refine (prebendlaw04_short.calls (fun k_ => k_ < w.heap.size) _ _ l1 t110 _ ?side1 A5.out).mono ?_); (case side1 => exact Kd.V_mk HC1.out (Kd.F_below (Kd.C_F (Kd.heap_int .u8) HR1.out) (by repeat (first | (with_reducible first | exact HB.out | apply below_alloc | apply pw_below_drewN | apply below_drew1) | exact HB.out)))); rintro e w26 ⟨v111, rfl, ho0, hb⟩; (try clear A5); have n0_ := Aside0.mk (Kd.V_lower (Kd.V_mono (ok' := fun k_ => True) ho0 (fun k_ hk_ => trivial)) (below_size (by repeat (first | (with_reducible first | exact HB.out | apply below_alloc | apply pw_below_drewN | apply below_drew1) | exact HB.out)))); have n1_ := Aside0.mk (below_step (by repeat (first | (with_reducible first | exact HB.out | apply below_alloc | apply pw_below_drewN | apply below_drew1) | exact HB.out)) hb); clear HB; have HO112 := n0_; have HB := n1_; clear n0_ n1_; (try clear hb); (try clear hb2); (try clear hk); (try clear hi); (try clear ho0); obtain ⟨Ao27, co27, eo27⟩ := Kd.V_slice HO112.out; subst eo27) | (go_at_call 27; (with_reducible refine (check_From.calls a0 _ _ t110 t113 _ ?side1 ?side2 A6.out).mono ?_); (case side1 => repeat (first | exact (Kd.V_reads' HO112.out).2.2 | (with_reducible refine Kd.C_alloc ?_ _) | (with_reducible refine Kd.C_drewN ?_ _) | (with_reducible refine Kd.C_drew ?_))); (case side2 => exact (Kd.V_reads' HO112.out).2.1); rintro e w28 ⟨rfl, hb⟩; (try clear A6); have n0_ := Aside0.mk (Kd.V_below (by (with_reducible repeat (first | apply Kd.V_alloc | apply Kd.V_drewN | apply Kd.V_drew)); exact HO112.out) hb); have n1_ := Aside0.mk (below_step (by repeat (first | (with_reducible first | exact HB.out | apply below_alloc | apply pw_below_drewN | apply below_drew1) | exact HB.out)) hb); clear HO112; clear HB; have HO112 := n0_; have HB := n1_; clear n0_ n1_; (try clear hb); (try clear hb2); (try clear hk); (try clear hi)) | (go_at_call 28; (with_reducible refine (prebendlaw04_short.calls (fun k_ => k_ < w.heap.size) _ _ l1 t114 _ ?side1 A7.out).mono ?_); (case side1 => exact Kd.V_mk HC1.out (Kd.F_below (Kd.C_F (Kd.heap_int .u8) HR1.out) (by repeat (first | (with_reducible first | exact HB.out | apply below_alloc | apply pw_below_drewN | apply below_drew1) | exact HB.out)))); rintro e w29 ⟨v115, rfl, ho0, hb⟩; (try clear A7); have n0_ := Aside0.mk (Kd.V_below (by (with_reducible repeat (first | apply Kd.V_alloc | apply Kd.V_drewN | apply Kd.V_drew)); exact HO112.out) hb); have n1_ := Aside0.mk (Kd.V_lower (Kd.V_mono (ok' := fun k_ => True) ho0 (fun k_ hk_ => trivial)) (below_size (by repeat (first | (with_reducible first | exact HB.out | apply below_alloc | apply pw_below_drewN | apply below_drew1) | exact HB.out)))); have n2_ := Aside0.mk (below_step (by repeat (first | (with_reducible first | exact HB.out | apply below_alloc | apply pw_below_drewN | apply below_drew1) | exact HB.out)) hb); clear HO112; clear HB; have HO112 := n0_; have HO116 := n1_; have HB := n2_; clear n0_ n1_ n2_; (try clear hb); (try clear hb2); (try clear hk); (try clear hi); (try clear ho0); obtain ⟨Ao30, co30, eo30⟩ := Kd.V_slice HO116.out; subst eo30) | (go_at_call 29; (with_reducible refine (prebendref04_From.calls k a0 _ _ t114 t117 _ ?side1 ?side2 A8.out).mono ?_); (case side1 => repeat (first | exact (Kd.V_reads' HO116.out).2.2 | (with_reducible refine Kd.C_alloc ?_ _) | (with_reducible refine Kd.C_drewN ?_ _) | (with_reducible refine Kd.C_drew ?_))); (case side2 => exact (Kd.V_reads' HO116.out).2.1); rintro e w' ⟨rfl, ⟨nd, rfl⟩⟩; (try clear A8)))
      go_ret
      exact ⟨by first | rfl | (simp [errW_none, errW_some] <;> rfl) | (simp [*, errW_none, errW_some] <;> rfl), by repeat (first | (with_reducible first | exact HB.out | apply below_alloc | apply pw_below_drewN | apply below_drew1) | exact HB.out)⟩
  · replace c4 := Bool.eq_false_iff.mpr c4
    subst c4
    have H1 : (some false) = some r := by rw [if_neg (show ¬ (false = true) by decide)] at H; exact H
    clear H
    have H := H1
    clear H1
    obtain rfl := Option.some.inj H
    go_enter Try.func9, Try.ntmps9
    go_wp2_with (first | ((with_reducible refine gate_callee (f := 26) rfl ?_); refine goesL_ (some 5) rfl rfl Try.func26 (by kernel_rfl) rfl #[] rfl (by (try simp only [List.map_toArray, List.map_cons, List.map_nil]); first | done | rfl | (simp only [List.length_drop, List.length_take]; rfl)) ?_; (with_reducible refine (prebendlaw04_awake.calls  false _ A3.out).mono ?_); rintro e w31 ⟨rfl, hb⟩; refine ⟨_, rfl, ?_⟩; have n0_ := Aside0.mk (below_step (by repeat (first | (with_reducible first | exact HB.out | apply below_alloc | apply pw_below_drewN | apply below_drew1) | exact HB.out)) hb); clear HB; have HB := n0_; clear n0_; (try clear hb); (try clear hb2); (try clear hk); (try clear hi)))
    go_ret
    exact ⟨by first | rfl | (simp [errW_none, errW_some] <;> rfl) | (simp [*, errW_none, errW_some] <;> rfl), by repeat (first | (with_reducible first | exact HB.out | apply below_alloc | apply pw_below_drewN | apply below_drew1) | exact HB.out)⟩

/-- THE ONE PURE STATEMENT of prebendlaw04_CheckOf: yours. -/
def prebendlaw04_CheckOf.Pure : Prop := ∀ (a0 : Int) (l1 : List Int), (Lit.int .u32 a0).wf = true → l1.length ≤ maxLen → l1.length * 1 ≤ 140737488351232 → (∀ x ∈ l1, (Lit.int .u8 x).wf = true) → ∃ k, prebendlaw04_CheckOf.f k a0 l1 = some true
theorem prebendlaw04_CheckOf.walk (P : prebendlaw04_CheckOf.Pure) (a0 : Int) (a1 : Option Addr) (len1 cap1 : Nat) (z1 : List Int) (w : World) (w0 : (Lit.int .u32 a0).wf = true) (w1 : (a1 = none ∧ len1 = 0 ∧ cap1 = 0 ∧ z1 = []) ∨ ∃ x, a1 = some x ∧ len1 ≤ cap1 ∧ cap1 ≤ maxLen ∧ z1.length = cap1 ∧ (∀ i, i < z1.length → w.cell? (x.add i) = some (.int .u8 (z1.getD i 0))) ∧ ∀ n ∈ z1, (Lit.int .u8 n).wf = true) (y1 : len1 * 1 ≤ 140737488351232) :
    Calls Try.prog 9 #[.int .u32 a0, .slice a1 len1 cap1] w fun e w' => e = .returned (.bool true) ∧ Below w.heap.size w w' := by
  obtain ⟨l1, rfl, hr1, hm1, hw1, hc1⟩ := ReadsInt.ofRowC w1
  obtain ⟨k, h⟩ := P a0 l1 w0 hm1 y1 hw1
  refine (prebendlaw04_CheckOf.calls k a0 _ _ l1 true w (Kd.C_of_reads (d := (0 : Int)) (h1 := fun _ => rfl) hr1) hc1 h).mono ?_
  rintro e w' ⟨rfl, hd⟩
  exact ⟨rfl, hd⟩

end Go.Proofs.Ytpppicehpadcbaa.QCheckOf
