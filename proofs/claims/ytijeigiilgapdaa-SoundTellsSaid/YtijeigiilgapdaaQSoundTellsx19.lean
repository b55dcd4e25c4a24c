/- Written by a program of this session (wip/tools/mp.sh): functions as Lean functions, with proofs that the calls come to what they say. Lean checks it. -/
import Derived.Test.YtijeigiilgapdaaQSoundTellsx0
import Derived.Test.YtijeigiilgapdaaXWd
import Derived.Test.YtijeigiilgapdaaQSoundTellsx12
import Derived.Test.YtijeigiilgapdaaQSoundTellsx18
namespace Go.Proofs.Ytijeigiilgapdaa.QSoundTells
open Go.RowKit Go.Proofs.YtijeigiilgapdaaW.PrintWords Go.Proofs.YtijeigiilgapdaaW.PrintLast Go.Proofs.YtijeigiilgapdaaW.PrintMore
attribute [local go_sem] max2_int min2_int max_two min_two max_three min_three max_four min_four   -- for this text's walks alone
set_option linter.unusedVariables false
set_option linter.unusedSimpArgs false

/-! ### prebendref08_Use: function 50 -/
mutual
def prebendref08_Use.j0 : Nat → List (S34) → List (S36) → Int → Bool → Option (Int × Int)
 | 0, _, _, _, _ => none
 | k + 1, x0, x1, x2, x17 => if x17 = true then (some (0, 4)) else (prebendref08_Use.l0 k x0 x1 x2 (([] : List Int)) 0)
def prebendref08_Use.l0 : Nat → List (S34) → List (S36) → Int → List Int → Int → Option (Int × Int)
 | 0, _, _, _, _, _ => none
 | k + 1, x0, x1, x2, x8, x9 => if x9 < (x1.length : Int) then (if 0 ≤ x9 then ((prebendref08_Below.f k x0 ((rd_T36 x1 x9).f0) x2).bind fun t366 => (if t366 = true then ((some (([(rd_T36 x1 x9).f4] : List Int) : List Int)).bind fun y368 => (if x8.length + y368.length < 17592186044416 then ((some (x8 ++ y368 : List Int)).bind fun y371 => ((some (([(rd_T36 x1 x9).f5] : List Int) : List Int)).bind fun y375 => (if y371.length + y375.length < 17592186044416 then (prebendref08_Use.l0 k x0 x1 x2 (y371 ++ y375) (wrap64 (x9 + 1))) else (none)))) else (none))) else (prebendref08_Use.l0 k x0 x1 x2 x8 (wrap64 (x9 + 1))))) else (none)) else ((prebendref01_Add.f k x8).bind fun bt381 => (some (bt381.1, bt381.2)))
end
def prebendref08_Use.f (k : Nat) (l0 : List (S34)) (l1 : List (S36)) (a2 : Int) : Option (Int × Int) := if a2 < 0 then (prebendref08_Use.j0 k l0 l1 a2 true) else (prebendref08_Use.j0 k l0 l1 a2 (decide (a2 ≥ (l0.length : Int))))
theorem prebendref08_Use.mono_l : ∀ k, (∀ y0 y1 y2 y3, LeO (prebendref08_Use.j0 k y0 y1 y2 y3) (prebendref08_Use.j0 (k + 1) y0 y1 y2 y3)) ∧ (∀ y0 y1 y2 y3 y4, LeO (prebendref08_Use.l0 k y0 y1 y2 y3 y4) (prebendref08_Use.l0 (k + 1) y0 y1 y2 y3 y4))
 | 0 => ⟨fun _ _ _ _ r h => by simp [prebendref08_Use.j0] at h, fun _ _ _ _ _ r h => by simp [prebendref08_Use.l0] at h⟩
 | k + 1 => by
  obtain ⟨ih0, ih1⟩ := prebendref08_Use.mono_l k; refine ⟨?_, ?_⟩
  ·intro y0 y1 y2 y3
   unfold prebendref08_Use.j0
   have ih9 := @prebendref01_Add.mono; have ih8 := @prebendref08_Below.mono; exact lo
  ·intro y0 y1 y2 y3 y4
   unfold prebendref08_Use.l0
   have ih9 := @prebendref01_Add.mono; have ih8 := @prebendref08_Below.mono; exact lo
theorem prebendref08_Use.mono : ∀ a0 a1 a2 k, LeO (prebendref08_Use.f k a0 a1 a2) (prebendref08_Use.f (k + 1) a0 a1 a2) := by
 intro a0 a1 a2 k; obtain ⟨ih0, ih1⟩ := prebendref08_Use.mono_l k; unfold prebendref08_Use.f
 have ih9 := @prebendref01_Add.mono; have ih8 := @prebendref08_Below.mono; exact lo
def prebendref08_Use.T8 : Bool × List (List Nat × List Nat) := (true, [([], []), ([], []), ([], []), ([1, 2], [1, 2]), ([3], [3]), ([4], [4]), ([5], [5]), ([0, 6], [0, 6]), ([], []), ([], []), ([8, 9], [8, 9]), ([10], [10]), ([11], [11]), ([12], [12]), ([7, 13, 7], [7, 13]), ([14, 14, 0, 1, 2, 3, 4, 5, 6, 7, 8, 9, 10, 11, 12, 13, 14], [0, 14])])
def prebendref08_Use.B8 : List Nat := [0, 0, 0, 6, 14, 30, 62, 127, 0, 0, 768, 1792, 3840, 7936, 16383, 32767]
theorem prebendref08_Use.tab8 : rtab .any (opsOf Try.f50 8) = prebendref08_Use.T8 := by kernel_rfl
theorem prebendref08_Use.bits8 : waitsOk prebendref08_Use.T8.2 prebendref08_Use.B8 = true := by kernel_rfl
set_option maxHeartbeats 8000000 in
set_option maxRecDepth 100000 in
theorem prebendref08_Use.calls (k : Nat) (A0 : Option Addr) (c0 : Nat) (l0 : List (S34)) (A1 : Option Addr) (c1 : Nat) (l1 : List (S36)) (a2 : Int) (r1 : Int) (r2 : Int) (w : World) (hr0 : Kd.C k34 w A0 l0.length l0) (hc0 : l0.length ≤ c0) (hr1 : Kd.C k36 w A1 l1.length l1) (hc1 : l1.length ≤ c1) (h : prebendref08_Use.f k l0 l1 a2 = some (r1, r2)) :
  Calls Try.prog 50 #[.slice A0 l0.length c0, .slice A1 l1.length c1, .int .i64 a2] w fun e w' => e = .returned (.tuple #[.int .i64 r1, .int .i64 r2]) ∧ Below w.heap.size w w' := by
 have HR0 := am hr0; have HC0 := am hc0; clear hr0 hc0; have HR1 := am hr1; have HC1 := am hc1; clear hr1 hc1; have HB := am (Below.refl w.heap.size w); have H : (if a2 < 0 then (prebendref08_Use.j0 k l0 l1 a2 true) else (prebendref08_Use.j0 k l0 l1 a2 (decide (a2 ≥ (l0.length : Int))))) = some (r1, r2) := h; clear h; have HC4 := am H; clear H
 go_enter Try.func50, Try.ntmps50
 go_upto_region 1 with (fail)
 go_cut [17] (fun v17 wc => ∃ (kq : Nat) (x17_3 : Bool), v17 = .bool x17_3 ∧ Aside0 (prebendref08_Use.j0 kq l0 l1 a2 x17_3 = some (r1, r2)) ∧ Aside0 (kq ≤ k) ∧ Aside0 (Below w.heap.size w wc))
 case first =>
  have H := HC4.out; clear HC4
  by_cases c5 : a2 < 0
  ·rw [if_pos c5] at H
   have c5b0 := decide_eq_true c5; clear c5
   (first | rw [c5b0] | (simp only [i64_w, i32_w]; rw [c5b0]) | skip)
   have H' := am H; clear H; go_wp2
   go_meet
   case rel => exact ⟨_, (true), sx, H', ⟨by first | omega | exact Nat.le_refl _⟩, ⟨HB.out⟩⟩
  ·rw [if_neg c5] at H
   have c5b0 := decide_eq_false c5; clear c5
   (first | rw [c5b0] | (simp only [i64_w, i32_w]; rw [c5b0]) | skip)
   have H' := am H; clear H; go_wp2
   go_meet
   case rel => exact ⟨_, (decide (a2 ≥ (l0.length : Int))), sx, H', ⟨by first | omega | exact Nat.le_refl _⟩, ⟨HB.out⟩⟩
 case rest =>
  clear HC4
  try clear c1
  obtain ⟨kq, x17_3, rfl, HA, HJ3, HB⟩ := hcut
  cases kq with
  | zero => exact absurd HA.out (by simp [prebendref08_Use.j0])
  | succ kj3 =>
   have H := HA.out; clear HA; simp only [prebendref08_Use.j0] at H
   by_cases c6 : x17_3 = true
   ·subst c6
    rw [if_pos rfl] at H; simp only [Option.some.injEq, Prod.mk.injEq] at H; obtain ⟨rfl, rfl⟩ := H; go_wp2
    go_ret2
    exact ⟨by first | rfl | (simp [*, errW_none, errW_some] <;> rfl), HB.out⟩
   ·replace c6 := Bool.eq_false_iff.mpr c6
    subst c6; rw [if_neg (show ¬ (false = true) by decide)] at H; obtain ⟨y362, hy362⟩ : ∃ y_ : List Int, y_ = (([] : List Int)) := ⟨_, rfl⟩; (first | rw [Option.bind_some, ← hy362] at H | rw [← hy362] at H)
    have Ny362 := am hy362
    clear hy362
    have H' := am H
    clear H
    go_wp2_with (first | ((with_reducible refine gate_dst (N := 18) rfl ?_); (try (refine gate_guard (by rfl) ?_; dsimp only)); refine Kd.R_lit (Kd.int .i64) _ 3 ?hg (N := 18) ?hd (xs := ([] : List Int)) (inner := []) (ok := fun _ => True) (okp := fun _ => True) ?hr ?hp (fun _ hk => hk) trivial (Below.refl _ _) (Nat.le_refl _) (by simp) ?_; (case hd => rfl); (case hg => rfl); (case hr => first | (go_simp; done) | (go_simp; rfl)); (case hp => exact (Reps.none _ _)); intro v363 w7 ho8 hb hg_ hnew_; clear hg_ hnew_; (first | rw [← Ny362.out] at ho8 | (simp only [Int.reduceToNat] at ho8; rw [← Ny362.out] at ho8)); have HO364 := am (Kd.R_lower ho8 (below_size HB.out)); replace HB := am (below_step HB.out hb); clear hb ho8))
    go_loopg [8, 9] kj3 (fun kq v8 v9 w' => ∃ (x8_2 : List Int) (x9_2 : Int), v9 = .int .i64 x9_2 ∧ Aside0 (prebendref08_Use.l0 kq l0 l1 a2 x8_2 x9_2 = some (r1, r2)) ∧ Aside0 (kq ≤ kj3) ∧ Aside0 (Kd.R (Kd.int .i64) 3 w' w.heap.size (fun _ => True) v8 x8_2) ∧ Aside0 (Below w.heap.size w w'))
    case atStart => exact ⟨(y362), (0), sx, H', ⟨Nat.le_refl _⟩, ⟨HO364.out⟩, ⟨HB.out⟩⟩
    case round =>
     clear H'
     try clear c1
     try clear c6
     obtain ⟨x8_2, x9_2, rfl, HA, HK2, HO_8, HB⟩ := hrel
     cases gk with
     | zero => exact absurd HA.out (by simp [prebendref08_Use.l0])
     | succ k2 =>
      have H := HA.out
      clear HA
      simp only [prebendref08_Use.l0] at H
      by_cases c9 : x9_2 < (l1.length : Int)
      ·rw [if_pos c9] at H
       have c9b0 := decide_eq_true c9; clear c9
       by_cases c10 : 0 ≤ x9_2
       ·rw [if_pos c10] at H
        have c10b0 := decide_eq_true c10; clear c10; replace H := Option.bind_eq_some_iff.mp H; obtain ⟨t366, A110, H⟩ := H; have A11 := am A110; clear A110
        by_cases c12 : t366 = true
        ·subst c12
         rw [if_pos rfl] at H; obtain ⟨y368, hy368⟩ : ∃ y_ : List Int, y_ = (([(rd_T36 l1 x9_2).f4] : List Int)) := ⟨_, rfl⟩; (first | rw [Option.bind_some, ← hy368] at H | rw [← hy368] at H)
         have Ny368 := am hy368; clear hy368
         by_cases c13 : x8_2.length + y368.length < 17592186044416
         ·rw [if_pos c13] at H
          have LMc13 := am c13; clear c13; obtain ⟨y371, hy371⟩ : ∃ y_ : List Int, y_ = (x8_2 ++ y368) := ⟨_, rfl⟩; (first | rw [Option.bind_some, ← hy371] at H | rw [← hy371] at H)
          have Ny371 := am hy371; clear hy371; obtain ⟨y375, hy375⟩ : ∃ y_ : List Int, y_ = (([(rd_T36 l1 x9_2).f5] : List Int)) := ⟨_, rfl⟩; (first | rw [Option.bind_some, ← hy375] at H | rw [← hy375] at H)
          have Ny375 := am hy375; clear hy375
          by_cases c14 : y371.length + y375.length < 17592186044416
          ·rw [if_pos c14] at H
           have LMc14 := am c14; clear c14; obtain ⟨y378, hy378⟩ : ∃ y_ : List Int, y_ = (y371 ++ y375) := ⟨_, rfl⟩; (first | rw [Option.bind_some, ← hy378] at H | rw [← hy378] at H)
           have Ny378 := am hy378; clear hy378; have H' := am H; clear H; have p365 : 0 ≤ (x9_2 : Int) := of_decide_eq_true (by assumption); have q365 : x9_2 < (l1.length : Int) := of_decide_eq_true (by assumption); obtain ⟨ad365, e365, hx365_0, hx365_1, hx365_2, hx365_3, hx365_4, hx365_5⟩ := at_T36 HR1.out x9_2 p365 q365; cases e365; replace hx365_0 := cb HB.out hx365_0; replace hx365_1 := cb HB.out hx365_1; replace hx365_2 := cb HB.out hx365_2; replace hx365_3 := cb HB.out hx365_3; replace hx365_4 := cb HB.out hx365_4; replace hx365_5 := cb HB.out hx365_5; replace p365 := eq_true p365; replace q365 := eq_true q365
           try go_wp2_with (first | (refine gl (some 32) Try.func65 #[.slice A0 l0.length c0, .int .i64 ((rd_T36 l1 x9_2).f0), .int .i64 a2] ?_; (with_reducible refine (prebendref08_Below.calls k2 _ _ l0 ((rd_T36 l1 x9_2).f0) a2 true _ ?side1 ?side2 A11.out).mono ?_); (case side1 => repeat (first | exact (Kd.C_below HR0.out HB.out) | (with_reducible refine Kd.C_alloc ?_ _) | (with_reducible refine Kd.C_drewN ?_ _) | (with_reducible refine Kd.C_drew ?_))); (case side2 => exact HC0.out); rintro e w15 ⟨rfl, hb⟩; refine ⟨_, rfl, ?_⟩; replace HO_8 := am (Kd.R_below HO_8.out hb); replace HB := am (below_step HB.out hb); (try clear hb); (try clear hb2); (try clear hk); (try clear hi); obtain ⟨Ao16, co16, eo16⟩ := Kd.R_slice HO_8.out; subst eo16))
           replace HO_8 := am (Kd.R_drew HO_8.out); replace HB := am (below_drew1 HB.out); have p367 : 0 ≤ (x9_2 : Int) := of_decide_eq_true (by assumption); have q367 : x9_2 < (l1.length : Int) := of_decide_eq_true (by assumption); obtain ⟨ad367, e367, hx367_0, hx367_1, hx367_2, hx367_3, hx367_4, hx367_5⟩ := at_T36 HR1.out x9_2 p367 q367; have hw367_5 := hx367_5; have hw367_4 := hx367_4; have hw367_3 := hx367_3; have hw367_2 := hx367_2; have hw367_1 := hx367_1; have hw367_0 := hx367_0; obtain rfl : ad365 = ad367 := (by injection e367); replace hx367_0 := cb HB.out hx367_0; replace hx367_1 := cb HB.out hx367_1; replace hx367_2 := cb HB.out hx367_2; replace hx367_3 := cb HB.out hx367_3; replace hx367_4 := cb HB.out hx367_4; replace hx367_5 := cb HB.out hx367_5; replace p367 := eq_true p367; replace q367 := eq_true q367; have p374 : 0 ≤ (x9_2 : Int) := of_decide_eq_true (by assumption); have q374 : x9_2 < (l1.length : Int) := of_decide_eq_true (by assumption); obtain ⟨ad374, e374, hx374_0, hx374_1, hx374_2, hx374_3, hx374_4, hx374_5⟩ := at_T36 HR1.out x9_2 p374 q374; have hw374_5 := hx374_5; have hw374_4 := hx374_4; have hw374_3 := hx374_3; have hw374_2 := hx374_2; have hw374_1 := hx374_1; have hw374_0 := hx374_0; obtain rfl : ad365 = ad374 := (by injection e374); replace hx374_0 := cb HB.out hx374_0; replace hx374_1 := cb HB.out hx374_1; replace hx374_2 := cb HB.out hx374_2; replace hx374_3 := cb HB.out hx374_3; replace hx374_4 := cb HB.out hx374_4; replace hx374_5 := cb HB.out hx374_5; replace p374 := eq_true p374; replace q374 := eq_true q374; refine start_ (n := 16) (S := fun w' => h6 w' (ad365.add ((x9_2).toNat * 6)) (rd_T36 l1 x9_2) (h5 w' (ad365.add ((x9_2).toNat * 6)) (rd_T36 l1 x9_2))) (ds := []) (tb 16 0) (by kernel_rfl) rfl rfl ⟨(cb HB.out hw367_0), (cb HB.out hw367_1), (cb HB.out hw367_2), (cb HB.out hw367_3), (cb HB.out hw367_4), (cb HB.out hw367_5), (cb HB.out hw374_0), (cb HB.out hw374_1), (cb HB.out hw374_2), (cb HB.out hw374_3), (cb HB.out hw374_4), (cb HB.out hw374_5)⟩ (fun hHeld => ?_); refine with_tabW prebendref08_Use.tab8 prebendref08_Use.bits8 (fun HT_ HW_ => ?_)
           generalize w15.drew = w17 at HO_8 HB hx367_0 hx367_1 hx367_2 hx367_3 hx367_4 hx367_5 hx374_0 hx374_1 hx374_2 hx374_3 hx374_4 hx374_5 hHeld ⊢; refine pu 0 33 (tb 16 1) HT_ ?_; refine pu 1 34 (tb 16 3) HT_ ?_; refine pu 2 35 (tb 16 7) HT_ ?_; refine pu 3 36 (tb 16 15) HT_ ?_; refine pu 4 37 (tb 16 31) HT_ ?_; refine pu 8 41 (tb 16 287) HT_ ?_; refine pu 9 42 (tb 16 799) HT_ ?_; refine pu 10 43 (tb 16 1823) HT_ ?_; refine pu 11 44 (tb 16 3871) HT_ ?_; refine tk 5 38 (tb 16 3903) HT_ HW_ hHeld ?_; refine tk 12 45 (tb 16 7999) HT_ HW_ hHeld ?_; refine join_ (σ := Value × Value × Value) 2 (tb 16 16383) (fun s_ => [(39, s_.1), (40, s_.2.1), (46, s_.2.2)]) (fun s_ w' => (h6 w' (ad365.add ((x9_2).toNat * 6)) (rd_T36 l1 x9_2) (h5 w' (ad365.add ((x9_2).toNat * 6)) (rd_T36 l1 x9_2))) ∧ (Kd.R (Kd.int .i64) 3 w' w.heap.size (fun k_ => some k_ ≠ (s_.2.1 : Value).ownBlock ∧ some k_ ≠ (s_.2.2 : Value).ownBlock) s_.1 y368) ∧ (Kd.R (Kd.int .i64) 3 w' w.heap.size (fun k_ => some k_ ≠ (s_.1 : Value).ownBlock ∧ some k_ ≠ (s_.2.2 : Value).ownBlock) s_.2.1 y371) ∧ (Kd.R (Kd.int .i64) 3 w' w.heap.size (fun k_ => some k_ ≠ (s_.1 : Value).ownBlock ∧ some k_ ≠ (s_.2.1 : Value).ownBlock) s_.2.2 y375) ∧ (Below w.heap.size w w')) ?_ ?_; rotate_left
           ·intro hCont
            refine two_ (i := 6) (j := 13) (Ni := some 39) (Nj := some 46) (tb 16 8063) (tb 16 16191) rfl rfl rfl rfl (two_of HT_.out (by kernel_rfl)) (by decide) (by decide) (fun K hK => ?_) (fun K hK => ?_)
            ·skip
             refine Kd.R_lit_step (Kd.int .i64) _ 3 ?hg (N := 39) ?hd (xs := ([(rd_T36 l1 x9_2).f4] : List Int)) (inner := [.int .i64 ((rd_T36 l1 x9_2).f4)]) (ok := fun _ => True) (okp := fun _ => True) ?hr ?hp (fun _ hk => hk) trivial (Below.refl _ _) (Nat.le_refl _) (by simp) ?_; (case hd => rfl); (case hg => rfl); (case hr => first | (go_simp; done) | (go_simp; rfl)); (case hp => exact (Reps.one (show Kd.M (Kd.int .i64) _ _ _ ((rd_T36 l1 x9_2).f4) [.int .i64 ((rd_T36 l1 x9_2).f4)] from rfl) (Reps.none _ _)))
             intro v369 w18 ho19 hb hg_ hnew_; clear hg_ hnew_
             (first | rw [← Ny368.out] at ho19 | (simp only [Int.reduceToNat] at ho19; rw [← Ny368.out] at ho19))
             have HO370 := am (Kd.R_lower (Kd.R_new' ho19 (Kd.R_lt HO_8.out)) (below_size HB.out)); replace HO_8 := am (Kd.R_elder' HO_8.out (Kd.R_base ho19) hb); replace HB := am (below_step HB.out hb); clear hb ho19; obtain ⟨Ao21, co21, eo21⟩ := Kd.R_slice HO370.out
             (first | subst eo21 | (injection eo21 with f1_ f2_ f3_; have f4_ := f1_.symm; have f5_ := f3_.symm; clear f1_ f2_ f3_; subst f4_; subst f5_))
             refine hK.out _ _ ⟨(cb HB.out hw367_0), (cb HB.out hw367_1), (cb HB.out hw367_2), (cb HB.out hw367_3), (cb HB.out hw367_4), (cb HB.out hw367_5), (cb HB.out hw374_0), (cb HB.out hw374_1), (cb HB.out hw374_2), (cb HB.out hw374_3), (cb HB.out hw374_4), (cb HB.out hw374_5)⟩ (fun hHeld => ?_); clear hK K; refine norm_ (a' := ?_) ?_ ?_; rotate_left
             ·show Act.put _ (some 39) _ = _
              simp only [Act.put, List.setIfInBounds_toArray, List.set_cons_zero, List.set_cons_succ, i64_w, i32_w]; rfl
             refine two_ (i := 7) (j := 13) (Ni := some 40) (Nj := some 46) (tb 16 8191) (tb 16 16255) rfl rfl rfl rfl (two_of HT_.out (by kernel_rfl)) (by decide) (by decide) (fun K hK => ?_) (fun K hK => ?_)
             ·skip
              refine Kd.R_append_rows_step (Kd.int .i64) (w0 := w) w.heap.size (by rfl) (.tmp 33) (.tmp 39) 40 3 (.int .i64 0) 8 rfl Try.underlying40 info3 rfl (by decide) (by omega) (.slice Ao16 x8_2.length co16) x8_2 y368 _ _ _ (fun k_ => some k_ ≠ (.slice Ao21 y368.length co21 : Value).ownBlock) (fun _ => False) rfl rfl ?aO ?aR (fun _ _ h => h) (fun _ h => h.elim) ?aF ?aB ?aS ?aL ?_
              (case aR => repeat (first | exact (Kd.R_reads' HO370.out).2.2 | (with_reducible refine Kd.C_alloc ?_ _) | (with_reducible refine Kd.C_drewN ?_ _) | (with_reducible refine Kd.C_drew ?_)))
              (case aB => exact HB.out)
              (case aF => exact (fun k_ hk => Kd.fresh' (Kd.R_lt HO370.out) k_ hk))
              (case aO => exact (Kd.R_mono HO_8.out (fun _ hk => hk.2)))
              (case aS => exact (below_size HB.out))
              (case aL => have := LMc13.out; omega)
              intro v372 w20 ho hb hg hat; rw [← Ny371.out] at ho; replace HO370 := am (Kd.R_after (ok := (fun _ => True)) HO370.out hg hat); replace HB := am (hb); have HO373 := am (ho); clear HO_8; clear ho hb hg hat; refine hK.out _ _ ⟨(cb HB.out hw367_0), (cb HB.out hw367_1), (cb HB.out hw367_2), (cb HB.out hw367_3), (cb HB.out hw367_4), (cb HB.out hw367_5), (cb HB.out hw374_0), (cb HB.out hw374_1), (cb HB.out hw374_2), (cb HB.out hw374_3), (cb HB.out hw374_4), (cb HB.out hw374_5)⟩ (fun hHeld => ?_); clear hK K; refine norm_ (a' := ?_) ?_ ?_; rotate_left
              ·show Act.put _ (some 40) _ = _
               simp only [Act.put, List.setIfInBounds_toArray, List.set_cons_zero, List.set_cons_succ, i64_w, i32_w]; rfl
              refine one_ (i := 13) (N := some 46) (tb 16 16383) rfl rfl (one_of HT_.out (by kernel_rfl)) (by decide) (fun K hK => ?_); refine Kd.R_lit_step (Kd.int .i64) _ 3 ?hg (N := 46) ?hd (xs := ([(rd_T36 l1 x9_2).f5] : List Int)) (inner := [.int .i64 ((rd_T36 l1 x9_2).f5)]) (ok := fun _ => True) (okp := fun _ => True) ?hr ?hp (fun _ hk => hk) trivial (Below.refl _ _) (Nat.le_refl _) (by simp) ?_; (case hd => rfl); (case hg => rfl); (case hr => first | (go_simp; done) | (go_simp; rfl)); (case hp => exact (Reps.one (show Kd.M (Kd.int .i64) _ _ _ ((rd_T36 l1 x9_2).f5) [.int .i64 ((rd_T36 l1 x9_2).f5)] from rfl) (Reps.none _ _)))
              intro v376 w22 ho23 hb hg_ hnew_; clear hg_ hnew_
              (first | rw [← Ny375.out] at ho23 | (simp only [Int.reduceToNat] at ho23; rw [← Ny375.out] at ho23))
              have HO377 := am (Kd.R_lower (Kd.R_new' (Kd.R_new' ho23 (Kd.R_lt HO370.out)) (Kd.R_lt HO373.out)) (below_size HB.out)); replace HO370 := am (Kd.R_elder' HO370.out (Kd.R_base ho23) hb); replace HO373 := am (Kd.R_elder' HO373.out (Kd.R_base ho23) hb); replace HB := am (below_step HB.out hb); clear hb ho23; refine hK.out _ _ ⟨(cb HB.out hw367_0), (cb HB.out hw367_1), (cb HB.out hw367_2), (cb HB.out hw367_3), (cb HB.out hw367_4), (cb HB.out hw367_5), (cb HB.out hw374_0), (cb HB.out hw374_1), (cb HB.out hw374_2), (cb HB.out hw374_3), (cb HB.out hw374_4), (cb HB.out hw374_5)⟩ (fun hHeld => ?_); clear hK K; refine norm_ (a' := ?_) ?_ ?_; rotate_left
              ·show Act.put _ (some 46) _ = _
               simp only [Act.put, List.setIfInBounds_toArray, List.set_cons_zero, List.set_cons_succ, i64_w, i32_w]; rfl
              exact norm_ (by simp only [putAll, Act.put, List.setIfInBounds_toArray, List.set_cons_zero, List.set_cons_succ]) (hCont (.slice Ao21 y368.length co21, v372, v376) _ ⟨hHeld, (Kd.R_mono HO370.out (fun _ hk => ⟨hk.1.2, hk.2⟩)), HO373.out, (Kd.R_mono HO377.out (fun _ hk => ⟨hk.1.2, hk.2⟩)), HB.out⟩)
             ·skip
              refine Kd.R_lit_step (Kd.int .i64) _ 3 ?hg (N := 46) ?hd (xs := ([(rd_T36 l1 x9_2).f5] : List Int)) (inner := [.int .i64 ((rd_T36 l1 x9_2).f5)]) (ok := fun _ => True) (okp := fun _ => True) ?hr ?hp (fun _ hk => hk) trivial (Below.refl _ _) (Nat.le_refl _) (by simp) ?_; (case hd => rfl); (case hg => rfl); (case hr => first | (go_simp; done) | (go_simp; rfl)); (case hp => exact (Reps.one (show Kd.M (Kd.int .i64) _ _ _ ((rd_T36 l1 x9_2).f5) [.int .i64 ((rd_T36 l1 x9_2).f5)] from rfl) (Reps.none _ _)))
              intro v376 w20 ho21 hb hg_ hnew_; clear hg_ hnew_
              (first | rw [← Ny375.out] at ho21 | (simp only [Int.reduceToNat] at ho21; rw [← Ny375.out] at ho21))
              have HO377 := am (Kd.R_lower (Kd.R_new' (Kd.R_new' ho21 (Kd.R_lt HO_8.out)) (Kd.R_lt HO370.out)) (below_size HB.out)); replace HO_8 := am (Kd.R_elder' HO_8.out (Kd.R_base ho21) hb); replace HO370 := am (Kd.R_elder' HO370.out (Kd.R_base ho21) hb); replace HB := am (below_step HB.out hb); clear hb ho21; obtain ⟨Ao23, co23, eo23⟩ := Kd.R_slice HO370.out
              (first | subst eo23 | (injection eo23 with f1_ f2_ f3_; have f4_ := f1_.symm; have f5_ := f3_.symm; clear f1_ f2_ f3_; subst f4_; subst f5_))
              refine hK.out _ _ ⟨(cb HB.out hw367_0), (cb HB.out hw367_1), (cb HB.out hw367_2), (cb HB.out hw367_3), (cb HB.out hw367_4), (cb HB.out hw367_5), (cb HB.out hw374_0), (cb HB.out hw374_1), (cb HB.out hw374_2), (cb HB.out hw374_3), (cb HB.out hw374_4), (cb HB.out hw374_5)⟩ (fun hHeld => ?_); clear hK K; refine norm_ (a' := ?_) ?_ ?_; rotate_left
              ·show Act.put _ (some 46) _ = _
               simp only [Act.put, List.setIfInBounds_toArray, List.set_cons_zero, List.set_cons_succ, i64_w, i32_w]; rfl
              refine one_ (i := 7) (N := some 40) (tb 16 16383) rfl rfl (one_of HT_.out (by kernel_rfl)) (by decide) (fun K hK => ?_); refine Kd.R_append_rows_step (Kd.int .i64) (w0 := w) w.heap.size (by rfl) (.tmp 33) (.tmp 39) 40 3 (.int .i64 0) 8 rfl Try.underlying40 info3 rfl (by decide) (by omega) (.slice Ao16 x8_2.length co16) x8_2 y368 _ _ _ (fun k_ => some k_ ≠ (.slice Ao23 y368.length co23 : Value).ownBlock ∧ some k_ ≠ (v376 : Value).ownBlock) (fun _ => False) rfl rfl ?aO ?aR (fun _ _ h => h) (fun _ h => h.elim) ?aF ?aB ?aS ?aL ?_
              (case aR => repeat (first | exact (Kd.R_reads' HO370.out).2.2 | (with_reducible refine Kd.C_alloc ?_ _) | (with_reducible refine Kd.C_drewN ?_ _) | (with_reducible refine Kd.C_drew ?_)))
              (case aB => exact HB.out)
              (case aF => exact (fun k_ hk => ⟨Kd.fresh' (Kd.R_lt HO370.out) k_ hk, Kd.fresh' (Kd.R_lt HO377.out) k_ hk⟩))
              (case aO => exact (Kd.R_mono HO_8.out (fun _ hk => ⟨hk.1.2, hk.2⟩)))
              (case aS => exact (below_size HB.out))
              (case aL => have := LMc13.out; omega)
              intro v372 w22 ho hb hg hat; rw [← Ny371.out] at ho; replace HO370 := am (Kd.R_after (ok := (fun k_ => some k_ ≠ (v376 : Value).ownBlock)) (Kd.R_mono HO370.out (fun _ hk => ⟨hk.2, hk.1.2⟩)) hg hat); replace HO377 := am (Kd.R_after (ok := (fun k_ => some k_ ≠ (.slice Ao23 y368.length co23 : Value).ownBlock)) (Kd.R_mono HO377.out (fun _ hk => ⟨hk.2, hk.1.2⟩)) hg hat); replace HB := am (hb); have HO373 := am (ho); clear HO_8; clear ho hb hg hat; refine hK.out _ _ ⟨(cb HB.out hw367_0), (cb HB.out hw367_1), (cb HB.out hw367_2), (cb HB.out hw367_3), (cb HB.out hw367_4), (cb HB.out hw367_5), (cb HB.out hw374_0), (cb HB.out hw374_1), (cb HB.out hw374_2), (cb HB.out hw374_3), (cb HB.out hw374_4), (cb HB.out hw374_5)⟩ (fun hHeld => ?_); clear hK K; refine norm_ (a' := ?_) ?_ ?_; rotate_left
              ·show Act.put _ (some 40) _ = _
               simp only [Act.put, List.setIfInBounds_toArray, List.set_cons_zero, List.set_cons_succ, i64_w, i32_w]; rfl
              exact norm_ (by simp only [putAll, Act.put, List.setIfInBounds_toArray, List.set_cons_zero, List.set_cons_succ]) (hCont (.slice Ao23 y368.length co23, v372, v376) _ ⟨hHeld, (Kd.R_mono HO370.out (fun _ hk => ⟨hk.2, hk.1⟩)), HO373.out, HO377.out, HB.out⟩)
            ·skip
             refine Kd.R_lit_step (Kd.int .i64) _ 3 ?hg (N := 46) ?hd (xs := ([(rd_T36 l1 x9_2).f5] : List Int)) (inner := [.int .i64 ((rd_T36 l1 x9_2).f5)]) (ok := fun _ => True) (okp := fun _ => True) ?hr ?hp (fun _ hk => hk) trivial (Below.refl _ _) (Nat.le_refl _) (by simp) ?_; (case hd => rfl); (case hg => rfl); (case hr => first | (go_simp; done) | (go_simp; rfl)); (case hp => exact (Reps.one (show Kd.M (Kd.int .i64) _ _ _ ((rd_T36 l1 x9_2).f5) [.int .i64 ((rd_T36 l1 x9_2).f5)] from rfl) (Reps.none _ _)))
             intro v376 w18 ho19 hb hg_ hnew_; clear hg_ hnew_
             (first | rw [← Ny375.out] at ho19 | (simp only [Int.reduceToNat] at ho19; rw [← Ny375.out] at ho19))
             have HO377 := am (Kd.R_lower (Kd.R_new' ho19 (Kd.R_lt HO_8.out)) (below_size HB.out)); replace HO_8 := am (Kd.R_elder' HO_8.out (Kd.R_base ho19) hb); replace HB := am (below_step HB.out hb); clear hb ho19; refine hK.out _ _ ⟨(cb HB.out hw367_0), (cb HB.out hw367_1), (cb HB.out hw367_2), (cb HB.out hw367_3), (cb HB.out hw367_4), (cb HB.out hw367_5), (cb HB.out hw374_0), (cb HB.out hw374_1), (cb HB.out hw374_2), (cb HB.out hw374_3), (cb HB.out hw374_4), (cb HB.out hw374_5)⟩ (fun hHeld => ?_); clear hK K; refine norm_ (a' := ?_) ?_ ?_; rotate_left
             ·show Act.put _ (some 46) _ = _
              simp only [Act.put, List.setIfInBounds_toArray, List.set_cons_zero, List.set_cons_succ, i64_w, i32_w]; rfl
             refine one_ (i := 6) (N := some 39) (tb 16 16255) rfl rfl (one_of HT_.out (by kernel_rfl)) (by decide) (fun K hK => ?_); refine Kd.R_lit_step (Kd.int .i64) _ 3 ?hg (N := 39) ?hd (xs := ([(rd_T36 l1 x9_2).f4] : List Int)) (inner := [.int .i64 ((rd_T36 l1 x9_2).f4)]) (ok := fun _ => True) (okp := fun _ => True) ?hr ?hp (fun _ hk => hk) trivial (Below.refl _ _) (Nat.le_refl _) (by simp) ?_; (case hd => rfl); (case hg => rfl); (case hr => first | (go_simp; done) | (go_simp; rfl)); (case hp => exact (Reps.one (show Kd.M (Kd.int .i64) _ _ _ ((rd_T36 l1 x9_2).f4) [.int .i64 ((rd_T36 l1 x9_2).f4)] from rfl) (Reps.none _ _)))
             intro v369 w20 ho21 hb hg_ hnew_; clear hg_ hnew_
             (first | rw [← Ny368.out] at ho21 | (simp only [Int.reduceToNat] at ho21; rw [← Ny368.out] at ho21))
             have HO370 := am (Kd.R_lower (Kd.R_new' (Kd.R_new' ho21 (Kd.R_lt HO_8.out)) (Kd.R_lt HO377.out)) (below_size HB.out)); replace HO_8 := am (Kd.R_elder' HO_8.out (Kd.R_base ho21) hb); replace HO377 := am (Kd.R_elder' HO377.out (Kd.R_base ho21) hb); replace HB := am (below_step HB.out hb); clear hb ho21; obtain ⟨Ao23, co23, eo23⟩ := Kd.R_slice HO370.out
             (first | subst eo23 | (injection eo23 with f1_ f2_ f3_; have f4_ := f1_.symm; have f5_ := f3_.symm; clear f1_ f2_ f3_; subst f4_; subst f5_))
             refine hK.out _ _ ⟨(cb HB.out hw367_0), (cb HB.out hw367_1), (cb HB.out hw367_2), (cb HB.out hw367_3), (cb HB.out hw367_4), (cb HB.out hw367_5), (cb HB.out hw374_0), (cb HB.out hw374_1), (cb HB.out hw374_2), (cb HB.out hw374_3), (cb HB.out hw374_4), (cb HB.out hw374_5)⟩ (fun hHeld => ?_); clear hK K; refine norm_ (a' := ?_) ?_ ?_; rotate_left
             ·show Act.put _ (some 39) _ = _
              simp only [Act.put, List.setIfInBounds_toArray, List.set_cons_zero, List.set_cons_succ, i64_w, i32_w]; rfl
             refine one_ (i := 7) (N := some 40) (tb 16 16383) rfl rfl (one_of HT_.out (by kernel_rfl)) (by decide) (fun K hK => ?_); refine Kd.R_append_rows_step (Kd.int .i64) (w0 := w) w.heap.size (by rfl) (.tmp 33) (.tmp 39) 40 3 (.int .i64 0) 8 rfl Try.underlying40 info3 rfl (by decide) (by omega) (.slice Ao16 x8_2.length co16) x8_2 y368 _ _ _ (fun k_ => some k_ ≠ (v376 : Value).ownBlock ∧ some k_ ≠ (.slice Ao23 y368.length co23 : Value).ownBlock) (fun _ => False) rfl rfl ?aO ?aR (fun _ _ h => h) (fun _ h => h.elim) ?aF ?aB ?aS ?aL ?_
             (case aR => repeat (first | exact (Kd.R_reads' HO370.out).2.2 | (with_reducible refine Kd.C_alloc ?_ _) | (with_reducible refine Kd.C_drewN ?_ _) | (with_reducible refine Kd.C_drew ?_)))
             (case aB => exact HB.out)
             (case aF => exact (fun k_ hk => ⟨Kd.fresh' (Kd.R_lt HO377.out) k_ hk, Kd.fresh' (Kd.R_lt HO370.out) k_ hk⟩))
             (case aO => exact (Kd.R_mono HO_8.out (fun _ hk => ⟨hk.1.2, hk.2⟩)))
             (case aS => exact (below_size HB.out))
             (case aL => have := LMc13.out; omega)
             intro v372 w22 ho hb hg hat; rw [← Ny371.out] at ho; replace HO377 := am (Kd.R_after (ok := (fun k_ => some k_ ≠ (.slice Ao23 y368.length co23 : Value).ownBlock)) (Kd.R_mono HO377.out (fun _ hk => ⟨hk.2, hk.1.2⟩)) hg hat); replace HO370 := am (Kd.R_after (ok := (fun k_ => some k_ ≠ (v376 : Value).ownBlock)) (Kd.R_mono HO370.out (fun _ hk => ⟨hk.2, hk.1.2⟩)) hg hat); replace HB := am (hb); have HO373 := am (ho); clear HO_8; clear ho hb hg hat; refine hK.out _ _ ⟨(cb HB.out hw367_0), (cb HB.out hw367_1), (cb HB.out hw367_2), (cb HB.out hw367_3), (cb HB.out hw367_4), (cb HB.out hw367_5), (cb HB.out hw374_0), (cb HB.out hw374_1), (cb HB.out hw374_2), (cb HB.out hw374_3), (cb HB.out hw374_4), (cb HB.out hw374_5)⟩ (fun hHeld => ?_); clear hK K; refine norm_ (a' := ?_) ?_ ?_; rotate_left
             ·show Act.put _ (some 40) _ = _
              simp only [Act.put, List.setIfInBounds_toArray, List.set_cons_zero, List.set_cons_succ, i64_w, i32_w]; rfl
             exact norm_ (by simp only [putAll, Act.put, List.setIfInBounds_toArray, List.set_cons_zero, List.set_cons_succ]) (hCont (.slice Ao23 y368.length co23, v372, v376) _ ⟨hHeld, (Kd.R_mono HO370.out (fun _ hk => ⟨hk.2, hk.1⟩)), (Kd.R_mono HO373.out (fun _ hk => ⟨hk.2, hk.1⟩)), HO377.out, HB.out⟩)
           rintro ⟨v369, v372, v376⟩ w24 ⟨hS_, h0_, h1_, h2_, h3_⟩; have n0_ : Aside0 (Kd.R (Kd.int .i64) 3 w24 w.heap.size (fun k_ => some k_ ≠ (v372 : Value).ownBlock ∧ some k_ ≠ (v376 : Value).ownBlock) v369 y368) := ⟨h0_⟩; have n1_ : Aside0 (Kd.R (Kd.int .i64) 3 w24 w.heap.size (fun k_ => some k_ ≠ (v369 : Value).ownBlock ∧ some k_ ≠ (v376 : Value).ownBlock) v372 y371) := ⟨h1_⟩; have n2_ : Aside0 (Kd.R (Kd.int .i64) 3 w24 w.heap.size (fun k_ => some k_ ≠ (v369 : Value).ownBlock ∧ some k_ ≠ (v372 : Value).ownBlock) v376 y375) := ⟨h2_⟩; have n3_ : Aside0 (Below w.heap.size w w24) := ⟨h3_⟩; clear HO_8; clear HB; clear h0_ h1_ h2_ h3_; have HO370 := n0_; have HO373 := n1_; have HO377 := n2_; have HB := n3_; clear n0_ n1_ n2_ n3_; have hHeld : h6 w24 (ad365.add ((x9_2).toNat * 6)) (rd_T36 l1 x9_2) (h5 w24 (ad365.add ((x9_2).toNat * 6)) (rd_T36 l1 x9_2)) := hS_; obtain ⟨Ao26, co26, eo26⟩ := Kd.R_slice HO377.out
           (first | subst eo26 | (injection eo26 with f1_ f2_ f3_; have f4_ := f1_.symm; have f5_ := f3_.symm; clear f1_ f2_ f3_; subst f4_; subst f5_))
           refine norm_ (a' := ?_) ?_ ?_; rotate_left
           ·simp only [putAll, Act.put, List.setIfInBounds_toArray, List.set_cons_zero, List.set_cons_succ]
            rfl
           refine one_ (i := 14) (N := some 47) (tb 16 32767) rfl rfl (one_of HT_.out (by kernel_rfl)) (by decide) (fun K hK => ?_); refine Kd.R_append_rows_step (Kd.int .i64) (w0 := w) w.heap.size (by rfl) (.tmp 40) (.tmp 46) 40 3 (.int .i64 0) 8 rfl Try.underlying40 info3 rfl (by decide) (by omega) v372 y371 y375 _ _ _ (fun k_ => some k_ ≠ (v369 : Value).ownBlock ∧ some k_ ≠ (.slice Ao26 y375.length co26 : Value).ownBlock) (fun _ => False) rfl rfl ?aO ?aR (fun _ _ h => h) (fun _ h => h.elim) ?aF ?aB ?aS ?aL ?_
           (case aR => repeat (first | exact (Kd.R_reads' HO377.out).2.2 | (with_reducible refine Kd.C_alloc ?_ _) | (with_reducible refine Kd.C_drewN ?_ _) | (with_reducible refine Kd.C_drew ?_)))
           (case aB => exact HB.out)
           (case aF => exact (fun k_ hk => ⟨Kd.fresh' (Kd.R_lt HO370.out) k_ hk, Kd.fresh' (Kd.R_lt HO377.out) k_ hk⟩))
           (case aO => exact HO373.out)
           (case aS => exact (below_size HB.out))
           (case aL => have := LMc14.out; omega)
           intro v379 w25 ho hb hg hat; rw [← Ny378.out] at ho; replace HO370 := am (Kd.R_after (ok := (fun k_ => some k_ ≠ (.slice Ao26 y375.length co26 : Value).ownBlock)) (Kd.R_mono HO370.out (fun _ hk => ⟨hk.2, hk.1⟩)) hg hat); replace HO377 := am (Kd.R_after (ok := (fun k_ => some k_ ≠ (v369 : Value).ownBlock)) HO377.out hg hat); replace HB := am (hb); have HO380 := am (ho); clear HO373; clear ho hb hg hat; refine hK.out _ _ ⟨(cb HB.out hw367_0), (cb HB.out hw367_1), (cb HB.out hw367_2), (cb HB.out hw367_3), (cb HB.out hw367_4), (cb HB.out hw367_5), (cb HB.out hw374_0), (cb HB.out hw374_1), (cb HB.out hw374_2), (cb HB.out hw374_3), (cb HB.out hw374_4), (cb HB.out hw374_5)⟩ (fun hHeld => ?_); clear hK K; refine norm_ (a' := ?_) ?_ ?_; rotate_left
           ·show Act.put _ (some 47) _ = _
            simp only [Act.put, List.setIfInBounds_toArray, List.set_cons_zero, List.set_cons_succ, i64_w, i32_w]; rfl
           refine pu 15 8 (tb 16 65535) HT_ ?_; refine done_ (done_of HT_.out (by kernel_rfl)) ?_
           try go_wp2
           go_roundg k2
           case measure => have := HJ3.out; have := HK2.out; omega
           case rel => exact ⟨(y378), (wrap64 (x9_2 + 1)), sx, H', ⟨by have := HJ3.out; have := HK2.out; omega⟩, ⟨by (with_reducible repeat first | apply rA | apply rN | apply rD); exact Kd.R_mono HO380.out (fun _ hk => trivial)⟩, ⟨HB.out⟩⟩
          ·rw [if_neg c14] at H
           exact absurd H (by simp)
         ·rw [if_neg c13] at H
          exact absurd H (by simp)
        ·replace c12 := Bool.eq_false_iff.mpr c12
         subst c12; rw [if_neg (show ¬ (false = true) by decide)] at H; have H' := am H; clear H; have p365 : 0 ≤ (x9_2 : Int) := of_decide_eq_true (by assumption); have q365 : x9_2 < (l1.length : Int) := of_decide_eq_true (by assumption); obtain ⟨ad365, e365, hx365_0, hx365_1, hx365_2, hx365_3, hx365_4, hx365_5⟩ := at_T36 HR1.out x9_2 p365 q365; cases e365; replace hx365_0 := cb HB.out hx365_0; replace hx365_1 := cb HB.out hx365_1; replace hx365_2 := cb HB.out hx365_2; replace hx365_3 := cb HB.out hx365_3; replace hx365_4 := cb HB.out hx365_4; replace hx365_5 := cb HB.out hx365_5; replace p365 := eq_true p365; replace q365 := eq_true q365; go_wp2_with (first | (refine gl (some 32) Try.func65 #[.slice A0 l0.length c0, .int .i64 ((rd_T36 l1 x9_2).f0), .int .i64 a2] ?_; (with_reducible refine (prebendref08_Below.calls k2 _ _ l0 ((rd_T36 l1 x9_2).f0) a2 false _ ?side1 ?side2 A11.out).mono ?_); (case side1 => repeat (first | exact (Kd.C_below HR0.out HB.out) | (with_reducible refine Kd.C_alloc ?_ _) | (with_reducible refine Kd.C_drewN ?_ _) | (with_reducible refine Kd.C_drew ?_))); (case side2 => exact HC0.out); rintro e w27 ⟨rfl, hb⟩; refine ⟨_, rfl, ?_⟩; replace HO_8 := am (Kd.R_below HO_8.out hb); replace HB := am (below_step HB.out hb); (try clear hb); (try clear hb2); (try clear hk); (try clear hi)))
         go_roundg k2
         case measure => have := HJ3.out; have := HK2.out; omega
         case rel => exact ⟨(x8_2), (wrap64 (x9_2 + 1)), sx, H', ⟨by have := HJ3.out; have := HK2.out; omega⟩, ⟨HO_8.out⟩, ⟨HB.out⟩⟩
       ·rw [if_neg c10] at H
        exact absurd H (by simp)
      ·rw [if_neg c9] at H
       have c9b0 := decide_eq_false c9; clear c9; replace H := Option.bind_eq_some_iff.mp H; obtain ⟨⟨t381, t382⟩, A280, H⟩ := H; have A28 := am A280; clear A280; simp only [Option.some.injEq, Prod.mk.injEq] at H; obtain ⟨rfl, rfl⟩ := H; obtain ⟨Ao29, co29, eo29⟩ := Kd.R_slice HO_8.out; subst eo29; go_wp2_with (first | (refine gl (some 49) Try.func27 #[.slice Ao29 x8_2.length co29] ?_; (with_reducible refine (prebendref01_Add.calls k2 _ _ x8_2 t381 t382 _ ?side1 ?side2 A28.out).mono ?_); (case side1 => repeat (first | exact (Kd.R_reads' HO_8.out).2.2 | (with_reducible refine Kd.C_alloc ?_ _) | (with_reducible refine Kd.C_drewN ?_ _) | (with_reducible refine Kd.C_drew ?_))); (case side2 => exact (Kd.R_reads' HO_8.out).2.1); rintro e w' ⟨rfl, ⟨nd, rfl⟩⟩; refine ⟨_, rfl, ?_⟩))
       go_ret2
       exact ⟨by first | rfl | (simp [*, errW_none, errW_some] <;> rfl), bx⟩

/-! ### prebendref08_Over: function 36 -/
def prebendref08_Over.l0 : Nat → List (S34) → List (S36) → Int → Option (Int)
 | 0, _, _, _ => none
 | k + 1, x0, x1, x5 => if x5 < (x0.length : Int) then ((prebendref08_Use.f k x0 x1 x5).bind fun bt383 => (if 0 ≤ x5 then (if ((rd_T34 x0 x5).f2) > 0 then (if bt383.2 = 0 then (if bt383.1 > ((rd_T34 x0 x5).f2) then (some x5) else (prebendref08_Over.l0 k x0 x1 (wrap64 (x5 + 1)))) else (some x5)) else (prebendref08_Over.l0 k x0 x1 (wrap64 (x5 + 1)))) else (none))) else (some (-1))
def prebendref08_Over.f (k : Nat) (l0 : List (S34)) (l1 : List (S36)) : Option (Int) := prebendref08_Over.l0 k l0 l1 0
theorem prebendref08_Over.mono_l : ∀ k, (∀ y0 y1 y2, LeO (prebendref08_Over.l0 k y0 y1 y2) (prebendref08_Over.l0 (k + 1) y0 y1 y2))
 | 0 => fun _ _ _ r h => by simp [prebendref08_Over.l0] at h
 | k + 1 => by
  have ih0 := prebendref08_Over.mono_l k
  ·intro y0 y1 y2
   unfold prebendref08_Over.l0
   have ih9 := @prebendref08_Use.mono; exact lo
theorem prebendref08_Over.mono : ∀ a0 a1 k, LeO (prebendref08_Over.f k a0 a1) (prebendref08_Over.f (k + 1) a0 a1) := by
 intro a0 a1 k; have ih0 := prebendref08_Over.mono_l k; unfold prebendref08_Over.f
 have ih9 := @prebendref08_Use.mono; exact lo
set_option maxHeartbeats 8000000 in
set_option maxRecDepth 100000 in
theorem prebendref08_Over.calls (k : Nat) (A0 : Option Addr) (c0 : Nat) (l0 : List (S34)) (A1 : Option Addr) (c1 : Nat) (l1 : List (S36)) (r : Int) (w : World) (hr0 : Kd.C k34 w A0 l0.length l0) (hc0 : l0.length ≤ c0) (hr1 : Kd.C k36 w A1 l1.length l1) (hc1 : l1.length ≤ c1) (h : prebendref08_Over.f k l0 l1 = some r) :
  Calls Try.prog 36 #[.slice A0 l0.length c0, .slice A1 l1.length c1] w fun e w' => e = .returned (.int .i64 r) ∧ Below w.heap.size w w' := by
 have HR0 := am hr0; have HC0 := am hc0; clear hr0 hc0; have HR1 := am hr1; have HC1 := am hc1; clear hr1 hc1; have HB := am (Below.refl w.heap.size w); have H : (prebendref08_Over.l0 k l0 l1 0) = some r := h; clear h; have H' := am H; clear H
 go_enter Try.func36, Try.ntmps36
 go_wp2
 go_loopg [5] k (fun kq v5 w' => ∃ (x5_1 : Int), v5 = .int .i64 x5_1 ∧ Aside0 (prebendref08_Over.l0 kq l0 l1 x5_1 = some r) ∧ Aside0 (kq ≤ k) ∧ Aside0 (Below w.heap.size w w'))
 case atStart => exact ⟨(0), sx, H', ⟨Nat.le_refl _⟩, ⟨HB.out⟩⟩
 case round =>
  clear H'
  try clear c1
  obtain ⟨x5_1, rfl, HA, HK1, HB⟩ := hrel
  cases gk with
  | zero => exact absurd HA.out (by simp [prebendref08_Over.l0])
  | succ k1 =>
   have H := HA.out
   clear HA
   simp only [prebendref08_Over.l0] at H
   by_cases c3 : x5_1 < (l0.length : Int)
   ·rw [if_pos c3] at H
    have c3b0 := decide_eq_true c3; clear c3; replace H := Option.bind_eq_some_iff.mp H; obtain ⟨⟨t383, t384⟩, A40, H⟩ := H; have A4 := am A40; clear A40
    by_cases c5 : 0 ≤ x5_1
    ·rw [if_pos c5] at H
     have c5b0 := decide_eq_true c5; clear c5
     go_upto_region 5 with (first | (refine gl (some 18) Try.func50 #[.slice A0 l0.length c0, .slice A1 l1.length c1, .int .i64 x5_1] ?_; (with_reducible refine (prebendref08_Use.calls k1 _ _ l0 _ _ l1 x5_1 t383 t384 _ ?side1 ?side2 ?side3 ?side4 A4.out).mono ?_); (case side1 => repeat (first | exact (Kd.C_below HR0.out HB.out) | (with_reducible refine Kd.C_alloc ?_ _) | (with_reducible refine Kd.C_drewN ?_ _) | (with_reducible refine Kd.C_drew ?_))); (case side2 => exact HC0.out); (case side3 => repeat (first | exact (Kd.C_below HR1.out HB.out) | (with_reducible refine Kd.C_alloc ?_ _) | (with_reducible refine Kd.C_drewN ?_ _) | (with_reducible refine Kd.C_drew ?_))); (case side4 => exact HC1.out); rintro e w11 ⟨rfl, hb⟩; refine ⟨_, rfl, ?_⟩; replace HB := am (below_step HB.out hb); (try clear hb); (try clear hb2); (try clear hk); (try clear hi); have p385 : 0 ≤ (x5_1 : Int) := of_decide_eq_true (by assumption); have q385 : x5_1 < (l0.length : Int) := of_decide_eq_true (by assumption); obtain ⟨ad385, e385, hx385_0, hx385_1, hx385_2⟩ := at_T34 HR0.out x5_1 p385 q385; cases e385; replace hx385_0 := cb HB.out hx385_0; replace hx385_1 := cb HB.out hx385_1; replace hx385_2 := cb HB.out hx385_2; replace p385 := eq_true p385; replace q385 := eq_true q385))
     by_cases c6 : ((rd_T34 l0 x5_1).f2) > 0
     ·rw [if_pos c6] at H
      have c6b0 := decide_eq_true c6; clear c6
      by_cases c7 : t384 = 0
      ·rw [if_pos c7] at H
       have c7b0 := beq_iff_eq.mpr c7; have c7b1 := bne_eq_false_iff_eq.mpr c7; clear c7
       go_upto_region 5 with (first | (refine gl (some 18) Try.func50 #[.slice A0 l0.length c0, .slice A1 l1.length c1, .int .i64 x5_1] ?_; (with_reducible refine (prebendref08_Use.calls k1 _ _ l0 _ _ l1 x5_1 t383 t384 _ ?side1 ?side2 ?side3 ?side4 A4.out).mono ?_); (case side1 => repeat (first | exact (Kd.C_below HR0.out HB.out) | (with_reducible refine Kd.C_alloc ?_ _) | (with_reducible refine Kd.C_drewN ?_ _) | (with_reducible refine Kd.C_drew ?_))); (case side2 => exact HC0.out); (case side3 => repeat (first | exact (Kd.C_below HR1.out HB.out) | (with_reducible refine Kd.C_alloc ?_ _) | (with_reducible refine Kd.C_drewN ?_ _) | (with_reducible refine Kd.C_drew ?_))); (case side4 => exact HC1.out); rintro e w9 ⟨rfl, hb⟩; refine ⟨_, rfl, ?_⟩; replace HB := am (below_step HB.out hb); (try clear hb); (try clear hb2); (try clear hk); (try clear hi); have p385 : 0 ≤ (x5_1 : Int) := of_decide_eq_true (by assumption); have q385 : x5_1 < (l0.length : Int) := of_decide_eq_true (by assumption); obtain ⟨ad385, e385, hx385_0, hx385_1, hx385_2⟩ := at_T34 HR0.out x5_1 p385 q385; cases e385; replace hx385_0 := cb HB.out hx385_0; replace hx385_1 := cb HB.out hx385_1; replace hx385_2 := cb HB.out hx385_2; replace p385 := eq_true p385; replace q385 := eq_true q385; have p386 : 0 ≤ (x5_1 : Int) := of_decide_eq_true (by assumption); have q386 : x5_1 < (l0.length : Int) := of_decide_eq_true (by assumption); obtain ⟨ad386, e386, hx386_0, hx386_1, hx386_2⟩ := at_T34 HR0.out x5_1 p386 q386; obtain rfl : ad385 = ad386 := (by injection e386); replace hx386_0 := cb HB.out hx386_0; replace hx386_1 := cb HB.out hx386_1; replace hx386_2 := cb HB.out hx386_2; replace p386 := eq_true p386; replace q386 := eq_true q386))
       by_cases c8 : t383 > ((rd_T34 l0 x5_1).f2)
       ·rw [if_pos c8] at H
        have c8b0 := decide_eq_true c8; clear c8; obtain rfl := Option.some.inj H; go_wp2
        go_ret; exact ⟨by first | rfl | (simp [*, errW_none, errW_some] <;> rfl), HB.out⟩
       ·rw [if_neg c8] at H
        have c8b0 := decide_eq_false c8; clear c8; have H' := am H; clear H; go_wp2
        go_roundg k1
        case measure => have := HK1.out; omega
        case rel => exact ⟨(wrap64 (x5_1 + 1)), sx, H', ⟨by have := HK1.out; omega⟩, ⟨HB.out⟩⟩
      ·rw [if_neg c7] at H
       have c7b0 := beq_eq_false_iff_ne.mpr c7; have c7b1 := bne_iff_ne.mpr c7; obtain rfl := Option.some.inj H; go_wp2
       go_ret; exact ⟨by first | rfl | (simp [*, errW_none, errW_some] <;> rfl), HB.out⟩
     ·rw [if_neg c6] at H
      have c6b0 := decide_eq_false c6; clear c6; have H' := am H; clear H; go_wp2
      go_roundg k1
      case measure => have := HK1.out; omega
      case rel => exact ⟨(wrap64 (x5_1 + 1)), sx, H', ⟨by have := HK1.out; omega⟩, ⟨HB.out⟩⟩
    ·rw [if_neg c5] at H
     exact absurd H (by simp)
   ·rw [if_neg c3] at H
    have c3b0 := decide_eq_false c3; clear c3; obtain rfl := Option.some.inj H; go_wp2; go_ret; exact ⟨by first | rfl | (simp [*, errW_none, errW_some] <;> rfl), HB.out⟩

end Go.Proofs.Ytijeigiilgapdaa.QSoundTells
