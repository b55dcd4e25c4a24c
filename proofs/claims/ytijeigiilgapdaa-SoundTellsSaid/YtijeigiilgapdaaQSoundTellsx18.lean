/- Written by a program of this session (wip/tools/mp.sh): functions as Lean functions, with proofs that the calls come to what they say. Lean checks it. -/
import Derived.Test.YtijeigiilgapdaaQSoundTellsx0
import Derived.Test.YtijeigiilgapdaaXWd
namespace Go.Proofs.Ytijeigiilgapdaa.QSoundTells
open Go.RowKit Go.Proofs.YtijeigiilgapdaaW.PrintWords Go.Proofs.YtijeigiilgapdaaW.PrintLast Go.Proofs.YtijeigiilgapdaaW.PrintMore
attribute [local go_sem] max2_int min2_int max_two min_two max_three min_three max_four min_four   -- for this text's walks alone
set_option linter.unusedVariables false
set_option linter.unusedSimpArgs false

/-! ### prebendref08_Path: function 72 -/
mutual
def prebendref08_Path.j0 : Nat → List (S34) → Int → Bool → Option (List Int)
 | 0, _, _, _ => none
 | k + 1, x0, x1, x12 => if x12 = true then (some ([] : List Int)) else (if 0 ≤ x1 then (if x1 < (x0.length : Int) then (if ((rd_T34 x0 x1).f1) ≥ x1 then (some (([x1] : List Int))) else ((some (([x1] : List Int) : List Int)).bind fun y348 => ((prebendref08_Path.f k x0 ((rd_T34 x0 x1).f1)).bind fun t352 => (if y348.length + t352.length < 17592186044416 then (some (y348 ++ t352)) else (none))))) else (none)) else (none))
def prebendref08_Path.f : Nat → List (S34) → Int → Option (List Int)
 | 0, _, _ => none
 | k + 1, l0, a1 => if a1 < 0 then (prebendref08_Path.j0 k l0 a1 true) else (prebendref08_Path.j0 k l0 a1 (decide (a1 ≥ (l0.length : Int))))
end
theorem prebendref08_Path.mono_l : ∀ k, (∀ y0 y1, LeO (prebendref08_Path.f k y0 y1) (prebendref08_Path.f (k + 1) y0 y1)) ∧ (∀ y0 y1 y2, LeO (prebendref08_Path.j0 k y0 y1 y2) (prebendref08_Path.j0 (k + 1) y0 y1 y2))
 | 0 => ⟨fun _ _ r h => by simp [prebendref08_Path.f] at h, fun _ _ _ r h => by simp [prebendref08_Path.j0] at h⟩
 | k + 1 => by
  obtain ⟨ih0, ih1⟩ := prebendref08_Path.mono_l k; refine ⟨?_, ?_⟩
  ·intro y0 y1
   unfold prebendref08_Path.f
   exact lo
  ·intro y0 y1 y2
   unfold prebendref08_Path.j0
   exact lo
theorem prebendref08_Path.mono : ∀ a0 a1 k, LeO (prebendref08_Path.f k a0 a1) (prebendref08_Path.f (k + 1) a0 a1) := by
 intro a0 a1 k; obtain ⟨ih0, ih1⟩ := prebendref08_Path.mono_l k; exact ih0 a0 a1
set_option maxHeartbeats 8000000 in
set_option maxRecDepth 100000 in
theorem prebendref08_Path.calls (k : Nat) : ∀ (A0 : Option Addr) (c0 : Nat) (l0 : List (S34)) (a1 : Int) (r : List Int) (w : World) (hr0 : Kd.C k34 w A0 l0.length l0) (hc0 : l0.length ≤ c0) (h : prebendref08_Path.f k l0 a1 = some r),
  Calls Try.prog 72 #[.slice A0 l0.length c0, .int .i64 a1] w fun e w' => ∃ v0_ : Value, e = .returned (v0_) ∧ Kd.R (Kd.int .i64) 3 w' w.heap.size (fun _ => True) v0_ r ∧ Below w.heap.size w w' := by
 induction k using Nat.strongRecOn with
 | _ k ih =>
 intro A0 c0 l0 a1 r w hr0 hc0 h
 cases k with
 | zero => exact absurd h (by simp [prebendref08_Path.f])
 | succ k =>
 simp only [prebendref08_Path.f] at h; have HR0 := am hr0; have HC0 := am hc0; clear hr0 hc0; have HB := am (Below.refl w.heap.size w); have H : (if a1 < 0 then (prebendref08_Path.j0 k l0 a1 true) else (prebendref08_Path.j0 k l0 a1 (decide (a1 ≥ (l0.length : Int))))) = some r := h; clear h; have HC3 := am H; clear H
 go_enter Try.func72, Try.ntmps72
 go_upto_region 1 with (fail)
 go_cut [12] (fun v12 wc => ∃ (kq : Nat) (x12_2 : Bool), v12 = .bool x12_2 ∧ Aside0 (prebendref08_Path.j0 kq l0 a1 x12_2 = some r) ∧ Aside0 (kq ≤ k) ∧ Aside0 (Below w.heap.size w wc))
 case first =>
  have H := HC3.out; clear HC3
  by_cases c4 : a1 < 0
  ·rw [if_pos c4] at H
   have c4b0 := decide_eq_true c4; clear c4
   (first | rw [c4b0] | (simp only [i64_w, i32_w]; rw [c4b0]) | skip)
   have H' := am H; clear H; go_wp2
   go_meet
   case rel => exact ⟨_, (true), sx, H', ⟨by first | omega | exact Nat.le_refl _⟩, ⟨HB.out⟩⟩
  ·rw [if_neg c4] at H
   have c4b0 := decide_eq_false c4; clear c4
   (first | rw [c4b0] | (simp only [i64_w, i32_w]; rw [c4b0]) | skip)
   have H' := am H; clear H; go_wp2
   go_meet
   case rel => exact ⟨_, (decide (a1 ≥ (l0.length : Int))), sx, H', ⟨by first | omega | exact Nat.le_refl _⟩, ⟨HB.out⟩⟩
 case rest =>
  clear HC3; obtain ⟨kq, x12_2, rfl, HA, HJ2, HB⟩ := hcut
  cases kq with
  | zero => exact absurd HA.out (by simp [prebendref08_Path.j0])
  | succ kj2 =>
   have H := HA.out; clear HA; simp only [prebendref08_Path.j0] at H
   by_cases c5 : x12_2 = true
   ·subst c5
    rw [if_pos rfl] at H; obtain rfl := Option.some.inj H; go_wp2; go_ret; exact ⟨_, by first | rfl | (simp [*, errW_none, errW_some] <;> rfl), by first | exact Kd.R_nil _ _ _ _ _ | exact Kd.N_nil _ _ _ _ _ | exact Kd.V_nil _ _ _ _ _ | exact Kd.Q_nil _ _ _ _ _ | exact Kd.S_nil _ _ _ _ _, HB.out⟩
   ·replace c5 := Bool.eq_false_iff.mpr c5
    subst c5; rw [if_neg (show ¬ (false = true) by decide)] at H
    by_cases c6 : 0 ≤ a1
    ·rw [if_pos c6] at H
     have c6b0 := decide_eq_true c6; clear c6
     by_cases c7 : a1 < (l0.length : Int)
     ·rw [if_pos c7] at H
      have c7b0 := decide_eq_true c7; clear c7
      by_cases c8 : ((rd_T34 l0 a1).f1) ≥ a1
      ·rw [if_pos c8] at H
       have c8b0 := decide_eq_true c8; clear c8; obtain ⟨y345, hy345⟩ : ∃ y_ : List Int, y_ = (([a1] : List Int)) := ⟨_, rfl⟩; (first | rw [Option.bind_some, ← hy345] at H | rw [← hy345] at H)
       have Ny345 := am hy345; clear hy345; obtain rfl := Option.some.inj H; have p344 : 0 ≤ (a1 : Int) := of_decide_eq_true (by assumption); have q344 : a1 < (l0.length : Int) := of_decide_eq_true (by assumption); obtain ⟨ad344, e344, hx344_0, hx344_1, hx344_2⟩ := at_T34 HR0.out a1 p344 q344; cases e344; replace hx344_0 := cb HB.out hx344_0; replace hx344_1 := cb HB.out hx344_1; replace hx344_2 := cb HB.out hx344_2; replace p344 := eq_true p344; replace q344 := eq_true q344; go_wp2_with (first | ((with_reducible refine gate_dst (N := 21) rfl ?_); (try (refine gate_guard (by rfl) ?_; dsimp only)); refine Kd.R_lit (Kd.int .i64) _ 3 ?hg (N := 21) ?hd (xs := ([a1] : List Int)) (inner := [.int .i64 a1]) (ok := fun _ => True) (okp := fun _ => True) ?hr ?hp (fun _ hk => hk) trivial (Below.refl _ _) (Nat.le_refl _) (by simp) ?_; (case hd => rfl); (case hg => rfl); (case hr => first | (go_simp; done) | (go_simp; rfl)); (case hp => exact (Reps.one (show Kd.M (Kd.int .i64) _ _ _ a1 [.int .i64 a1] from rfl) (Reps.none _ _))); intro v346 w9 ho10 hb hg_ hnew_; clear hg_ hnew_; (first | rw [← Ny345.out] at ho10 | (simp only [Int.reduceToNat] at ho10; rw [← Ny345.out] at ho10)); have HO347 := am (Kd.R_lower ho10 (below_size HB.out)); replace HB := am (below_step HB.out hb); clear hb ho10))
       go_ret; exact ⟨_, by first | rfl | (simp [*, errW_none, errW_some] <;> rfl), HO347.out, HB.out⟩
      ·rw [if_neg c8] at H
       have c8b0 := decide_eq_false c8; clear c8; obtain ⟨y348, hy348⟩ : ∃ y_ : List Int, y_ = (([a1] : List Int)) := ⟨_, rfl⟩; (first | rw [Option.bind_some, ← hy348] at H | rw [← hy348] at H)
       have Ny348 := am hy348; clear hy348; replace H := Option.bind_eq_some_iff.mp H; obtain ⟨t352, A110, H⟩ := H; have A11 := am A110; clear A110
       by_cases c12 : y348.length + t352.length < 17592186044416
       ·rw [if_pos c12] at H
        have LMc12 := am c12; clear c12; obtain ⟨y355, hy355⟩ : ∃ y_ : List Int, y_ = (y348 ++ t352) := ⟨_, rfl⟩; (first | rw [Option.bind_some, ← hy355] at H | rw [← hy355] at H)
        have Ny355 := am hy355; clear hy355; obtain rfl := Option.some.inj H; have p344 : 0 ≤ (a1 : Int) := of_decide_eq_true (by assumption); have q344 : a1 < (l0.length : Int) := of_decide_eq_true (by assumption); obtain ⟨ad344, e344, hx344_0, hx344_1, hx344_2⟩ := at_T34 HR0.out a1 p344 q344; cases e344; replace hx344_0 := cb HB.out hx344_0; replace hx344_1 := cb HB.out hx344_1; replace hx344_2 := cb HB.out hx344_2; replace p344 := eq_true p344; replace q344 := eq_true q344; go_wp2_with (first | ((with_reducible refine gate_dst (N := 23) rfl ?_); (try (refine gate_guard (by rfl) ?_; dsimp only)); refine Kd.R_lit (Kd.int .i64) _ 3 ?hg (N := 23) ?hd (xs := ([a1] : List Int)) (inner := [.int .i64 a1]) (ok := fun _ => True) (okp := fun _ => True) ?hr ?hp (fun _ hk => hk) trivial (Below.refl _ _) (Nat.le_refl _) (by simp) ?_; (case hd => rfl); (case hg => rfl); (case hr => first | (go_simp; done) | (go_simp; rfl)); (case hp => exact (Reps.one (show Kd.M (Kd.int .i64) _ _ _ a1 [.int .i64 a1] from rfl) (Reps.none _ _))); intro v349 w13 ho14 hb hg_ hnew_; clear hg_ hnew_; (first | rw [← Ny348.out] at ho14 | (simp only [Int.reduceToNat] at ho14; rw [← Ny348.out] at ho14)); have HO350 := am (Kd.R_lower ho14 (below_size HB.out)); replace HB := am (below_step HB.out hb); clear hb ho14; have p351 : 0 ≤ (a1 : Int) := of_decide_eq_true (by assumption); have q351 : a1 < (l0.length : Int) := of_decide_eq_true (by assumption); obtain ⟨ad351, e351, hx351_0, hx351_1, hx351_2⟩ := at_T34 HR0.out a1 p351 q351; obtain rfl : ad344 = ad351 := (by injection e351); replace hx351_0 := cb HB.out hx351_0; replace hx351_1 := cb HB.out hx351_1; replace hx351_2 := cb HB.out hx351_2; replace p351 := eq_true p351; replace q351 := eq_true q351) | (refine gl (some 30) Try.func72 #[.slice (some ad344) l0.length c0, .int .i64 ((rd_T34 l0 a1).f1)] ?_; (with_reducible refine (ih kj2 (by have := HJ2.out; omega) _ _ l0 ((rd_T34 l0 a1).f1) t352 _ ?side1 ?side2 A11.out).mono ?_); (case side1 => repeat (first | exact (Kd.C_below HR0.out HB.out) | (with_reducible refine Kd.C_alloc ?_ _) | (with_reducible refine Kd.C_drewN ?_ _) | (with_reducible refine Kd.C_drew ?_))); (case side2 => exact HC0.out); rintro e w15 ⟨v353, rfl, ho0, hb⟩; refine ⟨_, rfl, ?_⟩; have HO354 := am (Kd.R_lower (Kd.R_new' ho0 (Kd.R_lt HO350.out)) (below_size HB.out)); replace HO350 := am (Kd.R_elder' HO350.out (Kd.R_base ho0) hb); replace HB := am (below_step HB.out hb); (try clear hb); (try clear hb2); (try clear hk); (try clear hi); (try clear ho0); obtain ⟨Ao17, co17, eo17⟩ := Kd.R_slice HO354.out; subst eo17) | ((with_reducible refine gate_builtin (b := .append) (xs := #[.tmp 23, .tmp 30]) rfl ?_); (try (refine gate_guard (by rfl) ?_; dsimp only)); at_builtin; refine Kd.R_append_rows (Kd.int .i64) (w0 := w) w.heap.size rfl (.tmp 23) (.tmp 30) 40 3 (.int .i64 0) 8 rfl Try.underlying40 info3 rfl (by decide) (by omega) v349 y348 t352 _ _ _ (fun k_ => some k_ ≠ (.slice Ao17 t352.length co17 : Value).ownBlock) (fun _ => False) rfl rfl ?aO ?aR (fun _ _ h => h) (fun _ h => h.elim) ?aF ?aB ?aS ?aL ?_; (case aR => repeat (first | exact (Kd.R_reads' HO354.out).2.2 | (with_reducible refine Kd.C_alloc ?_ _) | (with_reducible refine Kd.C_drewN ?_ _) | (with_reducible refine Kd.C_drew ?_))); (case aB => exact HB.out); (case aF => exact (fun k_ hk => Kd.fresh' (Kd.R_lt HO354.out) k_ hk)); (case aO => exact (Kd.R_mono HO350.out (fun _ hk => hk.2))); (case aS => exact (below_size HB.out)); (case aL => have := LMc12.out; omega); intro v356 w16 ho hb hg hat; rw [← Ny355.out] at ho; replace HO354 := am (Kd.R_after (ok := (fun _ => True)) HO354.out hg hat); replace HB := am (hb); have HO357 := am (ho); clear HO350; clear ho hb hg hat))
        go_ret; exact ⟨_, by first | rfl | (simp [*, errW_none, errW_some] <;> rfl), by (with_reducible repeat first | apply rA | apply rN | apply rD); exact Kd.R_mono HO357.out (fun _ hk => trivial), HB.out⟩
       ·rw [if_neg c12] at H
        exact absurd H (by simp)
     ·rw [if_neg c7] at H
      exact absurd H (by simp)
    ·rw [if_neg c6] at H
     exact absurd H (by simp)

/-! ### prebendref08_Below: function 65 -/
def prebendref08_Below.l0 : Nat → Int → List Int → Int → Option (Bool)
 | 0, _, _, _ => none
 | k + 1, x2, x7, x8 => if x8 < (x7.length : Int) then (if 0 ≤ x8 then (if (rd x7 x8) = x2 then (some true) else (prebendref08_Below.l0 k x2 x7 (wrap64 (x8 + 1)))) else (none)) else (some false)
def prebendref08_Below.f (k : Nat) (l0 : List (S34)) (a1 : Int) (a2 : Int) : Option (Bool) := (prebendref08_Path.f k l0 a1).bind fun t358 => (prebendref08_Below.l0 k a2 t358 0)
theorem prebendref08_Below.mono_l : ∀ k, (∀ y0 y1 y2, LeO (prebendref08_Below.l0 k y0 y1 y2) (prebendref08_Below.l0 (k + 1) y0 y1 y2))
 | 0 => fun _ _ _ r h => by simp [prebendref08_Below.l0] at h
 | k + 1 => by
  have ih0 := prebendref08_Below.mono_l k
  ·intro y0 y1 y2
   unfold prebendref08_Below.l0
   have ih9 := @prebendref08_Path.mono; exact lo
theorem prebendref08_Below.mono : ∀ a0 a1 a2 k, LeO (prebendref08_Below.f k a0 a1 a2) (prebendref08_Below.f (k + 1) a0 a1 a2) := by
 intro a0 a1 a2 k; have ih0 := prebendref08_Below.mono_l k; unfold prebendref08_Below.f
 have ih9 := @prebendref08_Path.mono; exact lo
set_option maxHeartbeats 8000000 in
set_option maxRecDepth 100000 in
theorem prebendref08_Below.calls (k : Nat) (A0 : Option Addr) (c0 : Nat) (l0 : List (S34)) (a1 : Int) (a2 : Int) (r : Bool) (w : World) (hr0 : Kd.C k34 w A0 l0.length l0) (hc0 : l0.length ≤ c0) (h : prebendref08_Below.f k l0 a1 a2 = some r) :
  Calls Try.prog 65 #[.slice A0 l0.length c0, .int .i64 a1, .int .i64 a2] w fun e w' => e = .returned (.bool r) ∧ Below w.heap.size w w' := by
 have HR0 := am hr0; have HC0 := am hc0; clear hr0 hc0; have HB := am (Below.refl w.heap.size w); have H : ((prebendref08_Path.f k l0 a1).bind fun t358 => (prebendref08_Below.l0 k a2 t358 0)) = some r := h; clear h; replace H := Option.bind_eq_some_iff.mp H; obtain ⟨t358, A40, H⟩ := H; have A4 := am A40; clear A40; have H' := am H; clear H
 go_enter Try.func65, Try.ntmps65
 go_wp2_with (first | (refine gl (some 11) Try.func72 #[.slice A0 l0.length c0, .int .i64 a1] ?_; (with_reducible refine (prebendref08_Path.calls k _ _ l0 a1 t358 _ ?side1 ?side2 A4.out).mono ?_); (case side1 => repeat (first | exact HR0.out | (with_reducible refine Kd.C_alloc ?_ _) | (with_reducible refine Kd.C_drewN ?_ _) | (with_reducible refine Kd.C_drew ?_))); (case side2 => exact HC0.out); rintro e w5 ⟨v359, rfl, ho0, hb⟩; refine ⟨_, rfl, ?_⟩; have HO360 := am (Kd.R_lower ho0 (below_size HB.out)); replace HB := am (below_step HB.out hb); (try clear hb); (try clear hb2); (try clear hk); (try clear hi); (try clear ho0)))
 go_loopg [8] k (fun kq v8 w' => ∃ (x8_1 : Int), v8 = .int .i64 x8_1 ∧ Aside0 (prebendref08_Below.l0 kq a2 t358 x8_1 = some r) ∧ Aside0 (kq ≤ k) ∧ Aside0 (Kd.R (Kd.int .i64) 3 w' w.heap.size (fun _ => True) v359 t358) ∧ Aside0 (Below w.heap.size w w'))
 case atStart => exact ⟨(0), sx, H', ⟨Nat.le_refl _⟩, ⟨HO360.out⟩, ⟨HB.out⟩⟩
 case round =>
  clear H'; obtain ⟨x8_1, rfl, HA, HK1, HO_7, HB⟩ := hrel
  cases gk with
  | zero => exact absurd HA.out (by simp [prebendref08_Below.l0])
  | succ k1 =>
   have H := HA.out; clear HA; simp only [prebendref08_Below.l0] at H
   by_cases c6 : x8_1 < (t358.length : Int)
   ·rw [if_pos c6] at H
    have c6b0 := decide_eq_true c6; clear c6
    by_cases c7 : 0 ≤ x8_1
    ·rw [if_pos c7] at H
     have c7b0 := decide_eq_true c7; clear c7
     by_cases c8 : (rd t358 x8_1) = a2
     ·rw [if_pos c8] at H
      have c8b0 := beq_iff_eq.mpr c8; have c8b1 := bne_eq_false_iff_eq.mpr c8; clear c8; obtain rfl := Option.some.inj H; obtain ⟨Ao9, co9, eo9⟩ := Kd.R_slice HO_7.out; subst eo9; have p361 : 0 ≤ (x8_1 : Int) := of_decide_eq_true (by assumption); have q361 : x8_1 < (t358.length : Int) := of_decide_eq_true (by assumption); obtain ⟨ad361, e361, hx361_0⟩ := Kd.at_int (Kd.R_reads' HO_7.out).2.2 x8_1 p361 q361; cases e361; replace p361 := eq_true p361; replace q361 := eq_true q361; go_wp2; go_ret; exact ⟨by first | rfl | (simp [*, errW_none, errW_some] <;> rfl), HB.out⟩
     ·rw [if_neg c8] at H
      have c8b0 := beq_eq_false_iff_ne.mpr c8; have c8b1 := bne_iff_ne.mpr c8; have H' := am H; clear H; obtain ⟨Ao10, co10, eo10⟩ := Kd.R_slice HO_7.out; subst eo10; have p361 : 0 ≤ (x8_1 : Int) := of_decide_eq_true (by assumption); have q361 : x8_1 < (t358.length : Int) := of_decide_eq_true (by assumption); obtain ⟨ad361, e361, hx361_0⟩ := Kd.at_int (Kd.R_reads' HO_7.out).2.2 x8_1 p361 q361; cases e361; replace p361 := eq_true p361; replace q361 := eq_true q361; go_wp2
      go_roundg k1
      case measure => have := HK1.out; omega
      case rel => exact ⟨(wrap64 (x8_1 + 1)), sx, H', ⟨by have := HK1.out; omega⟩, ⟨HO_7.out⟩, ⟨HB.out⟩⟩
    ·rw [if_neg c7] at H
     exact absurd H (by simp)
   ·rw [if_neg c6] at H
    have c6b0 := decide_eq_false c6; clear c6; obtain rfl := Option.some.inj H; obtain ⟨Ao11, co11, eo11⟩ := Kd.R_slice HO_7.out; subst eo11; go_wp2; go_ret; exact ⟨by first | rfl | (simp [*, errW_none, errW_some] <;> rfl), HB.out⟩

end Go.Proofs.Ytijeigiilgapdaa.QSoundTells
