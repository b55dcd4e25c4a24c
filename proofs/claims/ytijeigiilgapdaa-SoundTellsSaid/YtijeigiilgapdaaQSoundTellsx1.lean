/- Written by a program of this session (wip/tools/mp.sh): functions as Lean functions, with proofs that the calls come to what they say. Lean checks it. -/
import Derived.Test.YtijeigiilgapdaaQSoundTellsx0
import Derived.Test.YtijeigiilgapdaaXWd
namespace Go.Proofs.Ytijeigiilgapdaa.QSoundTells
open Go.RowKit Go.Proofs.YtijeigiilgapdaaW.PrintWords Go.Proofs.YtijeigiilgapdaaW.PrintLast Go.Proofs.YtijeigiilgapdaaW.PrintMore
attribute [local go_sem] max2_int min2_int max_two min_two max_three min_three max_four min_four   -- for this text's walks alone
set_option linter.unusedVariables false
set_option linter.unusedSimpArgs false

/-! ### money_fits: function 66 -/
def money_fits.f (a0 : Int) : Option (Bool) := if a0 ≥ (-1152921504606846976) then (some (decide (a0 ≤ 1152921504606846976))) else (some false)
set_option maxHeartbeats 8000000 in
set_option maxRecDepth 100000 in
theorem money_fits.calls (a0 : Int) (r : Bool) (w : World) (h : money_fits.f a0 = some r) :
  Calls Try.prog 66 #[.int .i64 a0] w fun e w' => e = .returned (.bool r) ∧ Drawn0 w w' := by
 have H : (if a0 ≥ (-1152921504606846976) then (some (decide (a0 ≤ 1152921504606846976))) else (some false)) = some r := h; clear h
 by_cases c2 : a0 ≥ (-1152921504606846976)
 ·rw [if_pos c2] at H
  have c2b0 := decide_eq_true c2; clear c2; obtain rfl := Option.some.inj H
  go_enter Try.func66, Try.ntmps66
  go_wp2; go_ret; exact ⟨sx, by repeat (first | exact Drawn0.refl _ | apply Drawn0.step)⟩
 ·rw [if_neg c2] at H
  have c2b0 := decide_eq_false c2; clear c2; obtain rfl := Option.some.inj H
  go_enter Try.func66, Try.ntmps66
  go_wp2; go_ret; exact ⟨sx, by repeat (first | exact Drawn0.refl _ | apply Drawn0.step)⟩

/-! ### money_Add: function 51 -/
def money_Add.l0 : Nat → Int → List Int → Int → Int → Option (Int × Int)
 | 0, _, _, _, _ => none
 | k + 1, x4, x7, x8, x9 => if x9 < x8 then (if 0 ≤ x9 then (if x9 < (x7.length : Int) then ((money_fits.f (rd x7 x9)).bind fun t102 => (if t102 = true then ((money_fits.f (wrap64 (x4 + (rd x7 x9)))).bind fun t103 => (if t103 = true then (money_Add.l0 k (wrap64 (x4 + (rd x7 x9))) x7 x8 (wrap64 (x9 + 1))) else (some (0, 2)))) else (some (0, 2)))) else (none)) else (none)) else (some (x4, 0))
def money_Add.f (k : Nat) (l0 : List Int) : Option (Int × Int) := money_Add.l0 k 0 l0 (l0.length : Int) 0
theorem money_Add.mono_l : ∀ k, (∀ y0 y1 y2 y3, LeO (money_Add.l0 k y0 y1 y2 y3) (money_Add.l0 (k + 1) y0 y1 y2 y3))
 | 0 => fun _ _ _ _ r h => by simp [money_Add.l0] at h
 | k + 1 => by
  have ih0 := money_Add.mono_l k
  ·intro y0 y1 y2 y3
   unfold money_Add.l0
   exact lo
theorem money_Add.mono : ∀ a0 k, LeO (money_Add.f k a0) (money_Add.f (k + 1) a0) := by
 intro a0 k; have ih0 := money_Add.mono_l k; unfold money_Add.f
 exact lo
set_option maxHeartbeats 8000000 in
set_option maxRecDepth 100000 in
theorem money_Add.calls (k : Nat) (A0 : Option Addr) (c0 : Nat) (l0 : List Int) (r1 : Int) (r2 : Int) (w : World) (hr0 : Kd.C (Kd.int .i64) w A0 l0.length l0) (hc0 : l0.length ≤ c0) (h : money_Add.f k l0 = some (r1, r2)) :
  Calls Try.prog 51 #[.slice A0 l0.length c0] w fun e w' => e = .returned (.tuple #[.int .i64 r1, .int .i64 r2]) ∧ Drawn0 w w' := by
 have HR0 := am hr0; have HC0 := am hc0; clear hr0 hc0; have H : (money_Add.l0 k 0 l0 (l0.length : Int) 0) = some (r1, r2) := h; clear h; have H' := am H; clear H
 go_enter Try.func51, Try.ntmps51
 go_wp2
 go_loopg [4, 9] k (fun kq v4 v9 w' => ∃ (x4_1 : Int) (x9_1 : Int), v4 = .int .i64 x4_1 ∧ v9 = .int .i64 x9_1 ∧ Aside0 (money_Add.l0 kq x4_1 l0 (l0.length : Int) x9_1 = some (r1, r2)) ∧ Aside0 (kq ≤ k) ∧ Drawn0 w w')
 case atStart => exact ⟨(0), (0), sx, sx, H', ⟨Nat.le_refl _⟩, by repeat (first | exact Drawn0.refl _ | apply Drawn0.step)⟩
 case round =>
  clear H'; obtain ⟨x4_1, x9_1, rfl, rfl, HA, HK1, ⟨m1, rfl⟩⟩ := hrel
  cases gk with
  | zero => exact absurd HA.out (by simp [money_Add.l0])
  | succ k1 =>
   have H := HA.out; clear HA; simp only [money_Add.l0] at H
   by_cases c2 : x9_1 < (l0.length : Int)
   ·rw [if_pos c2] at H
    have c2b0 := decide_eq_true c2; clear c2
    by_cases c3 : 0 ≤ x9_1
    ·rw [if_pos c3] at H
     have c3b0 := decide_eq_true c3; clear c3
     by_cases c4 : x9_1 < (l0.length : Int)
     ·rw [if_pos c4] at H
      have c4b0 := decide_eq_true c4; clear c4; replace H := Option.bind_eq_some_iff.mp H; obtain ⟨t102, A50, H⟩ := H; have A5 := am A50; clear A50
      by_cases c6 : t102 = true
      ·subst c6
       rw [if_pos rfl] at H; replace H := Option.bind_eq_some_iff.mp H; obtain ⟨t103, A70, H⟩ := H; have A7 := am A70; clear A70
       by_cases c8 : t103 = true
       ·subst c8
        rw [if_pos rfl] at H; have H' := am H; clear H; have p101 : 0 ≤ (x9_1 : Int) := of_decide_eq_true (by assumption); have q101 : x9_1 < (l0.length : Int) := of_decide_eq_true (by assumption); obtain ⟨ad101, e101, hx101_0⟩ := Kd.at_int HR0.out x9_1 p101 q101; cases e101; replace p101 := eq_true p101; replace q101 := eq_true q101; go_wp2_with (first | (refine gl (some 14) Try.func66 #[.int .i64 (rd l0 x9_1)] ?_; (with_reducible refine (money_fits.calls (rd l0 x9_1) true _ A5.out).mono ?_); rintro e w' ⟨rfl, ⟨nd, rfl⟩⟩; refine ⟨_, rfl, ?_⟩) | (go_at_call 66; (with_reducible refine (money_fits.calls (wrap64 (x4_1 + (rd l0 x9_1))) true _ A7.out).mono ?_); rintro e w' ⟨rfl, ⟨nd, rfl⟩⟩; (try clear A7)))
        go_roundg k1
        case measure => have := HK1.out; omega
        case rel => exact ⟨(wrap64 (x4_1 + (rd l0 x9_1))), (wrap64 (x9_1 + 1)), sx, sx, H', ⟨by have := HK1.out; omega⟩, by repeat (first | exact Drawn0.refl _ | apply Drawn0.step)⟩
       ·replace c8 := Bool.eq_false_iff.mpr c8
        subst c8; rw [if_neg (show ¬ (false = true) by decide)] at H; simp only [Option.some.injEq, Prod.mk.injEq] at H; obtain ⟨rfl, rfl⟩ := H; have p101 : 0 ≤ (x9_1 : Int) := of_decide_eq_true (by assumption); have q101 : x9_1 < (l0.length : Int) := of_decide_eq_true (by assumption); obtain ⟨ad101, e101, hx101_0⟩ := Kd.at_int HR0.out x9_1 p101 q101; cases e101; replace p101 := eq_true p101; replace q101 := eq_true q101; go_wp2_with (first | (refine gl (some 14) Try.func66 #[.int .i64 (rd l0 x9_1)] ?_; (with_reducible refine (money_fits.calls (rd l0 x9_1) true _ A5.out).mono ?_); rintro e w' ⟨rfl, ⟨nd, rfl⟩⟩; refine ⟨_, rfl, ?_⟩) | (go_at_call 66; (with_reducible refine (money_fits.calls (wrap64 (x4_1 + (rd l0 x9_1))) false _ A7.out).mono ?_); rintro e w' ⟨rfl, ⟨nd, rfl⟩⟩; (try clear A7)))
        go_ret2
        exact ⟨sx, by repeat (first | exact Drawn0.refl _ | apply Drawn0.step)⟩
      ·replace c6 := Bool.eq_false_iff.mpr c6
       subst c6; rw [if_neg (show ¬ (false = true) by decide)] at H; simp only [Option.some.injEq, Prod.mk.injEq] at H; obtain ⟨rfl, rfl⟩ := H; have p101 : 0 ≤ (x9_1 : Int) := of_decide_eq_true (by assumption); have q101 : x9_1 < (l0.length : Int) := of_decide_eq_true (by assumption); obtain ⟨ad101, e101, hx101_0⟩ := Kd.at_int HR0.out x9_1 p101 q101; cases e101; replace p101 := eq_true p101; replace q101 := eq_true q101; go_wp2_with (first | (refine gl (some 14) Try.func66 #[.int .i64 (rd l0 x9_1)] ?_; (with_reducible refine (money_fits.calls (rd l0 x9_1) false _ A5.out).mono ?_); rintro e w' ⟨rfl, ⟨nd, rfl⟩⟩; refine ⟨_, rfl, ?_⟩))
       go_ret2
       exact ⟨sx, by repeat (first | exact Drawn0.refl _ | apply Drawn0.step)⟩
     ·rw [if_neg c4] at H
      exact absurd H (by simp)
    ·rw [if_neg c3] at H
     exact absurd H (by simp)
   ·rw [if_neg c2] at H
    have c2b0 := decide_eq_false c2; clear c2; simp only [Option.some.injEq, Prod.mk.injEq] at H; obtain ⟨rfl, rfl⟩ := H; go_wp2
    go_ret2
    exact ⟨sx, by repeat (first | exact Drawn0.refl _ | apply Drawn0.step)⟩

/-! ### ledger_Total: function 37 -/
def ledger_Total.l0 : Nat → List Int → List (S36) → Int → Int → Option (Int × Int)
 | 0, _, _, _, _ => none
 | k + 1, x6, x11, x12, x13 => if x13 < x12 then (if 0 ≤ x13 then (if x13 < (x11.length : Int) then ((some (([(rd_T36 x11 x13).f3, (rd_T36 x11 x13).f4, (rd_T36 x11 x13).f5] : List Int) : List Int)).bind fun y109 => (if x6.length + y109.length < 17592186044416 then (ledger_Total.l0 k (x6 ++ y109) x11 x12 (wrap64 (x13 + 1))) else (none))) else (none)) else (none)) else ((money_Add.f k x6).bind fun bt115 => (some (bt115.1, bt115.2)))
def ledger_Total.f (k : Nat) (a0 : Int) (l1 : List (S36)) : Option (Int × Int) := ledger_Total.l0 k (([a0] : List Int)) l1 (l1.length : Int) 0
theorem ledger_Total.mono_l : ∀ k, (∀ y0 y1 y2 y3, LeO (ledger_Total.l0 k y0 y1 y2 y3) (ledger_Total.l0 (k + 1) y0 y1 y2 y3))
 | 0 => fun _ _ _ _ r h => by simp [ledger_Total.l0] at h
 | k + 1 => by
  have ih0 := ledger_Total.mono_l k
  ·intro y0 y1 y2 y3
   unfold ledger_Total.l0
   have ih9 := @money_Add.mono; exact lo
theorem ledger_Total.mono : ∀ a0 a1 k, LeO (ledger_Total.f k a0 a1) (ledger_Total.f (k + 1) a0 a1) := by
 intro a0 a1 k; have ih0 := ledger_Total.mono_l k; unfold ledger_Total.f
 have ih9 := @money_Add.mono; exact lo
set_option maxHeartbeats 8000000 in
set_option maxRecDepth 100000 in
theorem ledger_Total.calls (k : Nat) (a0 : Int) (A1 : Option Addr) (c1 : Nat) (l1 : List (S36)) (r1 : Int) (r2 : Int) (w : World) (hr1 : Kd.C k36 w A1 l1.length l1) (hc1 : l1.length ≤ c1) (h : ledger_Total.f k a0 l1 = some (r1, r2)) :
  Calls Try.prog 37 #[.int .i64 a0, .slice A1 l1.length c1] w fun e w' => e = .returned (.tuple #[.int .i64 r1, .int .i64 r2]) ∧ Below w.heap.size w w' := by
 have hu36 := Try.underlying36; have HR1 := am hr1; have HC1 := am hc1; clear hr1 hc1; have HB := am (Below.refl w.heap.size w); have H : (ledger_Total.l0 k (([a0] : List Int)) l1 (l1.length : Int) 0) = some (r1, r2) := h; clear h; obtain ⟨y104, hy104⟩ : ∃ y_ : List Int, y_ = (([a0] : List Int)) := ⟨_, rfl⟩; (first | rw [Option.bind_some, ← hy104] at H | rw [← hy104] at H)
 have Ny104 := am hy104; clear hy104; have H' := am H; clear H
 go_enter Try.func37, Try.ntmps37
 go_wp2_with (first | ((with_reducible refine gate_dst (N := 10) rfl ?_); refine Kd.R_lit (Kd.int .i64) _ 3 ?hg (N := 10) ?hd (xs := ([a0] : List Int)) (inner := [.int .i64 a0]) (ok := fun _ => True) (okp := fun _ => True) ?hr ?hp (fun _ hk => hk) trivial (Below.refl _ _) (Nat.le_refl _) (by simp) ?_; (case hd => rfl); (case hg => rfl); (case hr => first | (go_simp; done) | (go_simp; rfl)); (case hp => exact (Reps.one (show Kd.M (Kd.int .i64) _ _ _ a0 [.int .i64 a0] from rfl) (Reps.none _ _))); intro v105 w3 ho4 hb hg_ hnew_; clear hg_ hnew_; (first | rw [← Ny104.out] at ho4 | (simp only [Int.reduceToNat] at ho4; rw [← Ny104.out] at ho4)); have HO106 := am (Kd.R_lower ho4 (below_size HB.out)); replace HB := am (below_step HB.out hb); clear hb ho4))
 go_loopg [6, 13] k (fun kq v6 v13 w' => ∃ (x6_1 : List Int) (x13_1 : Int), v13 = .int .i64 x13_1 ∧ Aside0 (ledger_Total.l0 kq x6_1 l1 (l1.length : Int) x13_1 = some (r1, r2)) ∧ Aside0 (kq ≤ k) ∧ Aside0 (Kd.R (Kd.int .i64) 3 w' w.heap.size (fun _ => True) v6 x6_1) ∧ Aside0 (Below w.heap.size w w'))
 case atStart => exact ⟨(y104), (0), sx, H', ⟨Nat.le_refl _⟩, ⟨HO106.out⟩, ⟨bx⟩⟩
 case round =>
  clear H'
  try clear c1
  obtain ⟨x6_1, x13_1, rfl, HA, HK1, HO_6, HB⟩ := hrel
  cases gk with
  | zero => exact absurd HA.out (by simp [ledger_Total.l0])
  | succ k1 =>
   have H := HA.out
   clear HA
   simp only [ledger_Total.l0] at H
   by_cases c5 : x13_1 < (l1.length : Int)
   ·rw [if_pos c5] at H
    have c5b0 := decide_eq_true c5; clear c5
    by_cases c6 : 0 ≤ x13_1
    ·rw [if_pos c6] at H
     have c6b0 := decide_eq_true c6; clear c6
     by_cases c7 : x13_1 < (l1.length : Int)
     ·rw [if_pos c7] at H
      have c7b0 := decide_eq_true c7; clear c7; obtain ⟨y109, hy109⟩ : ∃ y_ : List Int, y_ = (([(rd_T36 l1 x13_1).f3, (rd_T36 l1 x13_1).f4, (rd_T36 l1 x13_1).f5] : List Int)) := ⟨_, rfl⟩; (first | rw [Option.bind_some, ← hy109] at H | rw [← hy109] at H)
      have Ny109 := am hy109; clear hy109
      by_cases c8 : x6_1.length + y109.length < 17592186044416
      ·rw [if_pos c8] at H
       have LMc8 := am c8; clear c8; obtain ⟨y112, hy112⟩ : ∃ y_ : List Int, y_ = (x6_1 ++ y109) := ⟨_, rfl⟩; (first | rw [Option.bind_some, ← hy112] at H | rw [← hy112] at H)
       have Ny112 := am hy112; clear hy112; have H' := am H; clear H; have p107 : 0 ≤ (x13_1 : Int) := of_decide_eq_true (by assumption); have q107 : x13_1 < (l1.length : Int) := of_decide_eq_true (by assumption); obtain ⟨ad107, e107, hx107_0, hx107_1, hx107_2, hx107_3, hx107_4, hx107_5⟩ := at_T36 HR1.out x13_1 p107 q107; cases e107; replace hx107_0 := cb HB.out hx107_0; replace hx107_1 := cb HB.out hx107_1; replace hx107_2 := cb HB.out hx107_2; replace hx107_3 := cb HB.out hx107_3; replace hx107_4 := cb HB.out hx107_4; replace hx107_5 := cb HB.out hx107_5; replace p107 := eq_true p107; replace q107 := eq_true q107; go_wp2_with (first | ((with_reducible refine gate_dst (N := 8) rfl ?_); refine be (N := 8) (cs := #[.int .i64 0, .int .i64 0, .int .i64 0, .int .i64 0, .int .i64 0, .int .i64 0]) (t := 36) ?_; intro gb108 hg w9 hbox hb; replace HO_6 := am (Kd.R_below HO_6.out hb); have BK108 := am (hbox); have GW108 := am ((by rw [hg]; exact (below_size bx) : w.heap.size ≤ gb108)); have GE108 := am ((by rw [hg]; exact (below_size bx) : w.heap.size ≤ gb108)); replace HB := am (below_step bx hb); clear hb hbox hg; obtain ⟨_, _, _, _, _, _⟩ := c6 BK108.out; obtain ⟨_, _, _, _, _, _⟩ := f6 BK108.out) | ((with_reducible refine gate_dst (N := 24) rfl ?_); refine Kd.R_lit (Kd.int .i64) _ 3 ?hg (N := 24) ?hd (xs := ([(rd_T36 l1 x13_1).f3, (rd_T36 l1 x13_1).f4, (rd_T36 l1 x13_1).f5] : List Int)) (inner := [.int .i64 ((rd_T36 l1 x13_1).f3), .int .i64 ((rd_T36 l1 x13_1).f4), .int .i64 ((rd_T36 l1 x13_1).f5)]) (ok := fun _ => True) (okp := fun _ => True) ?hr ?hp (fun _ hk => hk) trivial (Below.refl _ _) (Nat.le_refl _) (by simp) ?_; (case hd => rfl); (case hg => rfl); (case hr => first | (go_simp; done) | (go_simp; rfl)); (case hp => exact (Reps.one (show Kd.M (Kd.int .i64) _ _ _ ((rd_T36 l1 x13_1).f3) [.int .i64 ((rd_T36 l1 x13_1).f3)] from rfl) (Reps.one (show Kd.M (Kd.int .i64) _ _ _ ((rd_T36 l1 x13_1).f4) [.int .i64 ((rd_T36 l1 x13_1).f4)] from rfl) (Reps.one (show Kd.M (Kd.int .i64) _ _ _ ((rd_T36 l1 x13_1).f5) [.int .i64 ((rd_T36 l1 x13_1).f5)] from rfl) (Reps.none _ _))))); intro v110 w11 ho12 hb hg_ hnew_; clear hg_ hnew_; (first | rw [← Ny109.out] at ho12 | (simp only [Int.reduceToNat] at ho12; rw [← Ny109.out] at ho12)); have HO111 := am (Kd.R_lower (Kd.R_new' ho12 (Kd.R_lt (by (with_reducible repeat first | apply rA | apply rN | apply rD); exact (Kd.R_mono (rf (rf (rf (rf (rf (rf (Kd.R_types HO_6.out BK108.out (by decide)))))))) (fun _ h_ => h_.1))))) (below_size bx)); replace HO_6 := am (Kd.R_elder' (by (with_reducible repeat first | apply rA | apply rN | apply rD); exact (Kd.R_mono (rf (rf (rf (rf (rf (rf (Kd.R_types HO_6.out BK108.out (by decide)))))))) (fun _ h_ => h_.1))) (Kd.R_base ho12) hb); replace BK108 := am (blk_below (g := gb108) (o := .cells #[.int .i64 ((rd_T36 l1 x13_1).f0), .int .i64 ((rd_T36 l1 x13_1).f1), .int .i64 ((rd_T36 l1 x13_1).f2), .int .i64 ((rd_T36 l1 x13_1).f3), .int .i64 ((rd_T36 l1 x13_1).f4), .int .i64 ((rd_T36 l1 x13_1).f5)] 36 (0, 0)) (by (iterate 6 ((with_reducible repeat first | apply kn | apply kd | apply ka); refine bp (.int .i64 0) rfl ?_; simp only [List.set])); (with_reducible repeat first | apply kn | apply kd | apply ka); exact BK108.out) hb); replace HB := am (below_step bx hb); clear hb ho12; obtain ⟨Ao14, co14, eo14⟩ := Kd.R_slice HO111.out; subst eo14) | ((with_reducible refine gate_builtin (b := .append) (xs := #[.tmp 17, .tmp 24]) rfl ?_); at_builtin; refine Kd.R_append_rows (Kd.int .i64) (w0 := w) w.heap.size rfl (.tmp 17) (.tmp 24) 40 3 (.int .i64 0) 8 rfl Try.underlying40 info3 rfl (by decide) (by omega) u6 x6_1 y109 _ _ _ (fun k_ => some k_ ≠ (.slice Ao14 y109.length co14 : Value).ownBlock) (fun _ => False) rfl rfl ?aO ?aR (fun _ _ h => h) (fun _ h => h.elim) ?aF ?aB ?aS ?aL ?_; (case aR => repeat (first | exact (Kd.R_reads' HO111.out).2.2 | (with_reducible refine Kd.C_alloc ?_ _) | (with_reducible refine Kd.C_drewN ?_ _) | (with_reducible refine Kd.C_drew ?_))); (case aB => exact bx); (case aF => exact (fun k_ hk => Kd.fresh' (Kd.R_lt HO111.out) k_ hk)); (case aO => exact (Kd.R_mono HO_6.out (fun _ hk => hk.2))); (case aS => exact (below_size bx)); (case aL => have := LMc8.out; omega); intro v113 w13 ho hb hg hat; rw [← Ny112.out] at ho; replace BK108 := am (blk_grown BK108.out hg (Kd.R_ne HO_6.out BK108.out (by decide))); replace HO111 := am (Kd.R_after (ok := (fun _ => True)) HO111.out hg hat); replace HB := am (hb); have HO114 := am (ho); clear HO_6; clear ho hb hg hat))
       go_roundg k1
       case measure => have := HK1.out; omega
       case rel => exact ⟨(y112), (wrap64 (x13_1 + 1)), sx, H', ⟨by have := HK1.out; omega⟩, ⟨by (with_reducible repeat first | apply rA | apply rN | apply rD); exact Kd.R_mono HO114.out (fun _ hk => trivial)⟩, ⟨HB.out⟩⟩
      ·rw [if_neg c8] at H
       exact absurd H (by simp)
     ·rw [if_neg c7] at H
      exact absurd H (by simp)
    ·rw [if_neg c6] at H
     exact absurd H (by simp)
   ·rw [if_neg c5] at H
    have c5b0 := decide_eq_false c5; clear c5; replace H := Option.bind_eq_some_iff.mp H; obtain ⟨⟨t115, t116⟩, A150, H⟩ := H; have A15 := am A150; clear A150; simp only [Option.some.injEq, Prod.mk.injEq] at H; obtain ⟨rfl, rfl⟩ := H; obtain ⟨Ao16, co16, eo16⟩ := Kd.R_slice HO_6.out; subst eo16; go_wp2_with (first | (refine gl (some 28) Try.func51 #[.slice Ao16 x6_1.length co16] ?_; (with_reducible refine (money_Add.calls k1 _ _ x6_1 t115 t116 _ ?side1 ?side2 A15.out).mono ?_); (case side1 => repeat (first | exact (Kd.R_reads' HO_6.out).2.2 | (with_reducible refine Kd.C_alloc ?_ _) | (with_reducible refine Kd.C_drewN ?_ _) | (with_reducible refine Kd.C_drew ?_))); (case side2 => exact (Kd.R_reads' HO_6.out).2.1); rintro e w' ⟨rfl, ⟨nd, rfl⟩⟩; refine ⟨_, rfl, ?_⟩))
    go_ret2
    exact ⟨by first | rfl | (simp [*, errW_none, errW_some] <;> rfl), bx⟩

/-! ### sound_total: function 9 -/
def sound_total.f (k : Nat) (a0_0 : Int) (a0_1 : Int) (a0_2 : Int) (l0_3 : List (S34)) (l0_4 : List (S36)) (l0_5 : List (S68)) (l0_6 : List (S50)) (l0_7 : List ByteArray) : Option (Bool) := (ledger_Total.f k a0_1 l0_4).bind fun bt118 => (if bt118.2 = 0 then (some (bt118.1 == 0)) else (some false))
theorem sound_total.mono : ∀ a0 a1 a2 a3 a4 a5 a6 a7 k, LeO (sound_total.f k a0 a1 a2 a3 a4 a5 a6 a7) (sound_total.f (k + 1) a0 a1 a2 a3 a4 a5 a6 a7) := by
 intro a0 a1 a2 a3 a4 a5 a6 a7 k; unfold sound_total.f
 have ih9 := @ledger_Total.mono; exact lo
set_option maxHeartbeats 8000000 in
set_option maxRecDepth 100000 in
theorem sound_total.calls (k : Nat) (a0_0 : Int) (a0_1 : Int) (a0_2 : Int) (A0_3 : Option Addr) (c0_3 : Nat) (l0_3 : List (S34)) (A0_4 : Option Addr) (c0_4 : Nat) (l0_4 : List (S36)) (A0_5 : Option Addr) (c0_5 : Nat) (l0_5 : List (S68)) (A0_6 : Option Addr) (c0_6 : Nat) (l0_6 : List (S50)) (A0_7 : Option Addr) (c0_7 : Nat) (l0_7 : List ByteArray) (r : Bool) (w : World) (hr0_3 : Kd.C k34 w A0_3 l0_3.length l0_3) (hc0_3 : l0_3.length ≤ c0_3) (hr0_4 : Kd.C k36 w A0_4 l0_4.length l0_4) (hc0_4 : l0_4.length ≤ c0_4) (hr0_5 : Kd.C k68 w A0_5 l0_5.length l0_5) (hc0_5 : l0_5.length ≤ c0_5) (hr0_6 : Kd.C k50 w A0_6 l0_6.length l0_6) (hc0_6 : l0_6.length ≤ c0_6) (hr0_7 : Kd.C Kd.string w A0_7 l0_7.length l0_7) (hc0_7 : l0_7.length ≤ c0_7) (h : sound_total.f k a0_0 a0_1 a0_2 l0_3 l0_4 l0_5 l0_6 l0_7 = some r) :
  Calls Try.prog 9 #[.agg #[.int .i64 a0_0, .int .i64 a0_1, .int .i64 a0_2, .slice A0_3 l0_3.length c0_3, .slice A0_4 l0_4.length c0_4, .slice A0_5 l0_5.length c0_5, .slice A0_6 l0_6.length c0_6, .slice A0_7 l0_7.length c0_7]] w fun e w' => e = .returned (.bool r) ∧ Below w.heap.size w w' := by
 have hu28 := Try.underlying28; have HR0_3 := am hr0_3; have HC0_3 := am hc0_3; clear hr0_3 hc0_3; have HR0_4 := am hr0_4; have HC0_4 := am hc0_4; clear hr0_4 hc0_4; have HR0_5 := am hr0_5; have HC0_5 := am hc0_5; clear hr0_5 hc0_5; have HR0_6 := am hr0_6; have HC0_6 := am hc0_6; clear hr0_6 hc0_6; have HR0_7 := am hr0_7; have HC0_7 := am hc0_7; clear hr0_7 hc0_7; have HB := am (Below.refl w.heap.size w); have H : ((ledger_Total.f k a0_1 l0_4).bind fun bt118 => (if bt118.2 = 0 then (some (bt118.1 == 0)) else (some false))) = some r := h; clear h; replace H := Option.bind_eq_some_iff.mp H; obtain ⟨⟨t118, t119⟩, A20, H⟩ := H; have A2 := am A20; clear A20
 by_cases c3 : t119 = 0
 ·rw [if_pos c3] at H
  have c3b0 := beq_iff_eq.mpr c3; have c3b1 := bne_eq_false_iff_eq.mpr c3; clear c3; obtain rfl := Option.some.inj H
  go_enter Try.func9, Try.ntmps9
  go_wp2_with (first | ((with_reducible refine gate_dst (N := 1) rfl ?_); refine be (N := 1) (cs := #[.int .i64 a0_0, .int .i64 a0_1, .int .i64 a0_2, .slice A0_3 l0_3.length c0_3, .slice A0_4 l0_4.length c0_4, .slice A0_5 l0_5.length c0_5, .slice A0_6 l0_6.length c0_6, .slice A0_7 l0_7.length c0_7]) (t := 28) ?_; intro gb117 hg w4 hbox hb; have BK117 := am (hbox); have GW117 := am ((by rw [hg]; exact (below_size HB.out) : w.heap.size ≤ gb117)); have GE117 := am ((by rw [hg]; exact (below_size HB.out) : w.heap.size ≤ gb117)); replace HB := am (below_step HB.out hb); clear hb hbox hg; obtain ⟨_, _, _, _, _, _, _, _⟩ := c8 BK117.out; obtain ⟨_, _, _, _, _, _, _, _⟩ := f8 BK117.out) | (refine gl (some 10) Try.func37 #[.int .i64 a0_1, .slice A0_4 l0_4.length c0_4] ?_; (with_reducible refine (ledger_Total.calls k a0_1 _ _ l0_4 t118 t119 _ ?side1 ?side2 A2.out).mono ?_); (case side1 => repeat (first | exact (Kd.C_below HR0_4.out HB.out) | (with_reducible refine Kd.C_alloc ?_ _) | (with_reducible refine Kd.C_drewN ?_ _) | (with_reducible refine Kd.C_drew ?_))); (case side2 => exact HC0_4.out); rintro e w6 ⟨rfl, hb⟩; refine ⟨_, rfl, ?_⟩; replace BK117 := am (blk_below BK117.out hb); replace HB := am (below_step HB.out hb); (try clear hb); (try clear hb2); (try clear hk); (try clear hi)))
  go_ret; exact ⟨by first | rfl | (simp [*, errW_none, errW_some] <;> rfl), HB.out⟩
 ·rw [if_neg c3] at H
  have c3b0 := beq_eq_false_iff_ne.mpr c3; have c3b1 := bne_iff_ne.mpr c3; obtain rfl := Option.some.inj H
  go_enter Try.func9, Try.ntmps9
  go_wp2_with (first | ((with_reducible refine gate_dst (N := 1) rfl ?_); refine be (N := 1) (cs := #[.int .i64 a0_0, .int .i64 a0_1, .int .i64 a0_2, .slice A0_3 l0_3.length c0_3, .slice A0_4 l0_4.length c0_4, .slice A0_5 l0_5.length c0_5, .slice A0_6 l0_6.length c0_6, .slice A0_7 l0_7.length c0_7]) (t := 28) ?_; intro gb117 hg w7 hbox hb; have BK117 := am (hbox); have GW117 := am ((by rw [hg]; exact (below_size HB.out) : w.heap.size ≤ gb117)); have GE117 := am ((by rw [hg]; exact (below_size HB.out) : w.heap.size ≤ gb117)); replace HB := am (below_step HB.out hb); clear hb hbox hg; obtain ⟨_, _, _, _, _, _, _, _⟩ := c8 BK117.out; obtain ⟨_, _, _, _, _, _, _, _⟩ := f8 BK117.out) | (refine gl (some 10) Try.func37 #[.int .i64 a0_1, .slice A0_4 l0_4.length c0_4] ?_; (with_reducible refine (ledger_Total.calls k a0_1 _ _ l0_4 t118 t119 _ ?side1 ?side2 A2.out).mono ?_); (case side1 => repeat (first | exact (Kd.C_below HR0_4.out HB.out) | (with_reducible refine Kd.C_alloc ?_ _) | (with_reducible refine Kd.C_drewN ?_ _) | (with_reducible refine Kd.C_drew ?_))); (case side2 => exact HC0_4.out); rintro e w9 ⟨rfl, hb⟩; refine ⟨_, rfl, ?_⟩; replace BK117 := am (blk_below BK117.out hb); replace HB := am (below_step HB.out hb); (try clear hb); (try clear hb2); (try clear hk); (try clear hi)))
  go_ret; exact ⟨by first | rfl | (simp [*, errW_none, errW_some] <;> rfl), HB.out⟩

/-! ### sound_signs: function 11 -/
def sound_signs.l0 : Nat → List (S36) → Int → Int → Int → Int → Int → List (S34) → List (S36) → List (S68) → List (S50) → List ByteArray → Option (Bool)
 | 0, _, _, _, _, _, _, _, _, _, _, _ => none
 | k + 1, x6, x7, x8, x121000, x121001, x121002, x121003, x121004, x121005, x121006, x121007 => if x8 < x7 then (if 0 ≤ x8 then (if x8 < (x6.length : Int) then (if (mn (mn ((rd_T36 x6 x8).f3) ((rd_T36 x6 x8).f4)) ((rd_T36 x6 x8).f5)) < 0 then (some false) else (sound_signs.l0 k x6 x7 (wrap64 (x8 + 1)) x121000 x121001 x121002 x121003 x121004 x121005 x121006 x121007)) else (none)) else (none)) else (some (decide (x121001 ≤ 0)))
def sound_signs.f (k : Nat) (a0_0 : Int) (a0_1 : Int) (a0_2 : Int) (l0_3 : List (S34)) (l0_4 : List (S36)) (l0_5 : List (S68)) (l0_6 : List (S50)) (l0_7 : List ByteArray) : Option (Bool) := sound_signs.l0 k l0_4 (l0_4.length : Int) 0 a0_0 a0_1 a0_2 l0_3 l0_4 l0_5 l0_6 l0_7
theorem sound_signs.mono_l : ∀ k, (∀ y0 y1 y2 y3 y4 y5 y6 y7 y8 y9 y10, LeO (sound_signs.l0 k y0 y1 y2 y3 y4 y5 y6 y7 y8 y9 y10) (sound_signs.l0 (k + 1) y0 y1 y2 y3 y4 y5 y6 y7 y8 y9 y10))
 | 0 => fun _ _ _ _ _ _ _ _ _ _ _ r h => by simp [sound_signs.l0] at h
 | k + 1 => by
  have ih0 := sound_signs.mono_l k
  ·intro y0 y1 y2 y3 y4 y5 y6 y7 y8 y9 y10
   unfold sound_signs.l0
   exact lo
theorem sound_signs.mono : ∀ a0 a1 a2 a3 a4 a5 a6 a7 k, LeO (sound_signs.f k a0 a1 a2 a3 a4 a5 a6 a7) (sound_signs.f (k + 1) a0 a1 a2 a3 a4 a5 a6 a7) := by
 intro a0 a1 a2 a3 a4 a5 a6 a7 k; have ih0 := sound_signs.mono_l k; unfold sound_signs.f
 exact lo
set_option maxHeartbeats 8000000 in
set_option maxRecDepth 100000 in
theorem sound_signs.calls (k : Nat) (a0_0 : Int) (a0_1 : Int) (a0_2 : Int) (A0_3 : Option Addr) (c0_3 : Nat) (l0_3 : List (S34)) (A0_4 : Option Addr) (c0_4 : Nat) (l0_4 : List (S36)) (A0_5 : Option Addr) (c0_5 : Nat) (l0_5 : List (S68)) (A0_6 : Option Addr) (c0_6 : Nat) (l0_6 : List (S50)) (A0_7 : Option Addr) (c0_7 : Nat) (l0_7 : List ByteArray) (r : Bool) (w : World) (hr0_3 : Kd.C k34 w A0_3 l0_3.length l0_3) (hc0_3 : l0_3.length ≤ c0_3) (hr0_4 : Kd.C k36 w A0_4 l0_4.length l0_4) (hc0_4 : l0_4.length ≤ c0_4) (hr0_5 : Kd.C k68 w A0_5 l0_5.length l0_5) (hc0_5 : l0_5.length ≤ c0_5) (hr0_6 : Kd.C k50 w A0_6 l0_6.length l0_6) (hc0_6 : l0_6.length ≤ c0_6) (hr0_7 : Kd.C Kd.string w A0_7 l0_7.length l0_7) (hc0_7 : l0_7.length ≤ c0_7) (h : sound_signs.f k a0_0 a0_1 a0_2 l0_3 l0_4 l0_5 l0_6 l0_7 = some r) :
  Calls Try.prog 11 #[.agg #[.int .i64 a0_0, .int .i64 a0_1, .int .i64 a0_2, .slice A0_3 l0_3.length c0_3, .slice A0_4 l0_4.length c0_4, .slice A0_5 l0_5.length c0_5, .slice A0_6 l0_6.length c0_6, .slice A0_7 l0_7.length c0_7]] w fun e w' => e = .returned (.bool r) ∧ Below w.heap.size w w' := by
 have hu28 := Try.underlying28; have hu36 := Try.underlying36; have HR0_3 := am hr0_3; have HC0_3 := am hc0_3; clear hr0_3 hc0_3; have HR0_4 := am hr0_4; have HC0_4 := am hc0_4; clear hr0_4 hc0_4; have HR0_5 := am hr0_5; have HC0_5 := am hc0_5; clear hr0_5 hc0_5; have HR0_6 := am hr0_6; have HC0_6 := am hc0_6; clear hr0_6 hc0_6; have HR0_7 := am hr0_7; have HC0_7 := am hc0_7; clear hr0_7 hc0_7; have HB := am (Below.refl w.heap.size w); have H : (sound_signs.l0 k l0_4 (l0_4.length : Int) 0 a0_0 a0_1 a0_2 l0_3 l0_4 l0_5 l0_6 l0_7) = some r := h; clear h; have H' := am H; clear H
 go_enter Try.func11, Try.ntmps11
 go_wp2_with (first | ((with_reducible refine gate_dst (N := 1) rfl ?_); refine be (N := 1) (cs := #[.int .i64 a0_0, .int .i64 a0_1, .int .i64 a0_2, .slice A0_3 l0_3.length c0_3, .slice A0_4 l0_4.length c0_4, .slice A0_5 l0_5.length c0_5, .slice A0_6 l0_6.length c0_6, .slice A0_7 l0_7.length c0_7]) (t := 28) ?_; intro gb120 hg w2 hbox hb; have BK120 := am (hbox); have GW120 := am ((by rw [hg]; exact (below_size HB.out) : w.heap.size ≤ gb120)); have GE120 := am ((by rw [hg]; exact (below_size HB.out) : w.heap.size ≤ gb120)); replace HB := am (below_step HB.out hb); clear hb hbox hg; obtain ⟨hcz3_0, hcz3_1, hcz3_2, hcz3_3, hcz3_4, hcz3_5, hcz3_6, hcz3_7⟩ := c8 BK120.out; obtain ⟨_, _, _, _, _, _, _, _⟩ := f8 BK120.out))
 go_loopg [8] k (fun kq v8 w' => ∃ (x8_1 : Int), v8 = .int .i64 x8_1 ∧ Aside0 (sound_signs.l0 kq l0_4 (l0_4.length : Int) x8_1 a0_0 a0_1 a0_2 l0_3 l0_4 l0_5 l0_6 l0_7 = some r) ∧ Aside0 (kq ≤ k) ∧ Aside0 (w'.heap[gb120]? = some (.cells #[.int .i64 a0_0, .int .i64 a0_1, .int .i64 a0_2, (.slice A0_3 l0_3.length c0_3), (.slice A0_4 l0_4.length c0_4), (.slice A0_5 l0_5.length c0_5), (.slice A0_6 l0_6.length c0_6), (.slice A0_7 l0_7.length c0_7)] 28 (0, 0))) ∧ Aside0 (Below w.heap.size w w'))
 case atStart => exact ⟨(0), sx, H', ⟨Nat.le_refl _⟩, ⟨BK120.out⟩, ⟨HB.out⟩⟩
 case round =>
  clear H'; try clear hcz3_0 hcz3_1 hcz3_2 hcz3_3 hcz3_4 hcz3_5 hcz3_6 hcz3_7; obtain ⟨x8_1, rfl, HA, HK1, BK120, HB⟩ := hrel
  cases gk with
  | zero => exact absurd HA.out (by simp [sound_signs.l0])
  | succ k1 =>
   have H := HA.out; clear HA; simp only [sound_signs.l0] at H
   by_cases c4 : x8_1 < (l0_4.length : Int)
   ·rw [if_pos c4] at H
    have c4b0 := decide_eq_true c4; clear c4
    by_cases c5 : 0 ≤ x8_1
    ·rw [if_pos c5] at H
     have c5b0 := decide_eq_true c5; clear c5
     by_cases c6 : x8_1 < (l0_4.length : Int)
     ·rw [if_pos c6] at H
      have c6b0 := decide_eq_true c6; clear c6; obtain ⟨ji7, hji7⟩ : ∃ j_ : Int, (mn ((rd_T36 l0_4 x8_1).f3) ((rd_T36 l0_4 x8_1).f4)) = j_ := ⟨_, rfl⟩; replace H : (if (mn (ji7) ((rd_T36 l0_4 x8_1).f5)) < 0 then (some false) else (sound_signs.l0 k1 l0_4 (l0_4.length : Int) (wrap64 (x8_1 + 1)) a0_0 a0_1 a0_2 l0_3 l0_4 l0_5 l0_6 l0_7)) = some r := by first | (rw [hji7] at H; exact H) | (simp only [hji7] at H ⊢; exact H)
      have hji7_ : (if ((rd_T36 l0_4 x8_1).f4) < ((rd_T36 l0_4 x8_1).f3) then ((rd_T36 l0_4 x8_1).f4) else ((rd_T36 l0_4 x8_1).f3)) = ji7 := hji7; obtain ⟨ji8, hji8⟩ : ∃ j_ : Int, (mn (ji7) ((rd_T36 l0_4 x8_1).f5)) = j_ := ⟨_, rfl⟩; replace H : (if (ji8) < 0 then (some false) else (sound_signs.l0 k1 l0_4 (l0_4.length : Int) (wrap64 (x8_1 + 1)) a0_0 a0_1 a0_2 l0_3 l0_4 l0_5 l0_6 l0_7)) = some r := by first | (rw [hji8] at H; exact H) | (simp only [hji8] at H ⊢; exact H)
      have hji8_ : (if ((rd_T36 l0_4 x8_1).f5) < (ji7) then ((rd_T36 l0_4 x8_1).f5) else (ji7)) = ji8 := hji8
      have p121 : 0 ≤ (x8_1 : Int) := of_decide_eq_true (by assumption); have q121 : x8_1 < (l0_4.length : Int) := of_decide_eq_true (by assumption); obtain ⟨ad121, e121, hx121_0, hx121_1, hx121_2, hx121_3, hx121_4, hx121_5⟩ := at_T36 HR0_4.out x8_1 p121 q121; cases e121; replace hx121_0 := cb HB.out hx121_0; replace hx121_1 := cb HB.out hx121_1; replace hx121_2 := cb HB.out hx121_2; replace hx121_3 := cb HB.out hx121_3; replace hx121_4 := cb HB.out hx121_4; replace hx121_5 := cb HB.out hx121_5; replace p121 := eq_true p121; replace q121 := eq_true q121; go_upto_region 4 with (first | ((with_reducible refine gate_dst (N := 4) rfl ?_); refine be (N := 4) (cs := #[.int .i64 0, .int .i64 0, .int .i64 0, .int .i64 0, .int .i64 0, .int .i64 0]) (t := 36) ?_; intro gb122 hg w10 hbox hb; have BK122 := am (hbox); have GW122 := am ((by rw [hg]; exact (below_size HB.out) : w.heap.size ≤ gb122)); have GE122 := am ((by rw [hg]; exact (below_size HB.out) : w.heap.size ≤ gb122)); replace HB := am (below_step HB.out hb); have NB120_122 := am ((by rw [hg]; exact Nat.ne_of_lt (blk_lt BK120.out) : gb120 ≠ gb122)); have NB122_120 := am ((by rw [hg]; exact Nat.ne_of_gt (blk_lt BK120.out) : gb122 ≠ gb120)); replace BK120 := am (blk_below BK120.out hb); clear hb hbox hg; have hnb11 := NB122_120.out; have hnc11 := NB120_122.out; obtain ⟨_, _, _, _, _, _⟩ := c6 BK122.out; obtain ⟨_, _, _, _, _, _⟩ := f6 BK122.out))
      by_cases c9 : (ji8) < 0
      ·rw [if_pos c9] at H
       have c9b0 := decide_eq_true c9; clear c9; obtain rfl := Option.some.inj H; go_wp2
       go_ret; exact ⟨by first | rfl | (simp [errW_none, errW_some] <;> rfl) | (simp only [← hji7, ← hji8]; first | rfl | (simp [errW_none, errW_some] <;> rfl)) | (simp [*, errW_none, errW_some] <;> rfl), bx⟩
      ·rw [if_neg c9] at H
       have c9b0 := decide_eq_false c9; clear c9; have H' := am H; clear H; go_wp2
       go_roundg k1
       case measure => have := HK1.out; omega
       case rel => exact ⟨(wrap64 (x8_1 + 1)), sx, H', ⟨by have := HK1.out; omega⟩, ⟨by (with_reducible repeat first | apply kn | apply kd | apply ka); refine blk_far ?_ NB120_122.out _; (with_reducible repeat first | apply kn | apply kd | apply ka); refine blk_far ?_ NB120_122.out _; (with_reducible repeat first | apply kn | apply kd | apply ka); refine blk_far ?_ NB120_122.out _; (with_reducible repeat first | apply kn | apply kd | apply ka); refine blk_far ?_ NB120_122.out _; (with_reducible repeat first | apply kn | apply kd | apply ka); refine blk_far ?_ NB120_122.out _; (with_reducible repeat first | apply kn | apply kd | apply ka); refine blk_far ?_ NB120_122.out _; (with_reducible repeat first | apply kn | apply kd | apply ka); exact BK120.out⟩, ⟨bx⟩⟩
     ·rw [if_neg c6] at H
      exact absurd H (by simp)
    ·rw [if_neg c5] at H
     exact absurd H (by simp)
   ·rw [if_neg c4] at H
    have c4b0 := decide_eq_false c4; clear c4; obtain rfl := Option.some.inj H; obtain ⟨_, _, _, _, _, _, _, _⟩ := c8 BK120.out; go_wp2; go_ret; exact ⟨by first | rfl | (simp [*, errW_none, errW_some] <;> rfl), HB.out⟩

/-! ### tree_Good: function 38 -/
def tree_Good.f (l0 : List S34) : Option Bool := some (XGood.goodF (fun x => x.f0) (fun x => x.f1) (fun x => x.f2) l0)
theorem tree_Good.calls (A0 : Option Addr) (c0 : Nat) (l0 : List S34) (r : Bool) (w : World) (hr0 : Kd.C k34 w A0 l0.length l0) (hc0 : l0.length ≤ c0) (h : tree_Good.f l0 = some r) :
  Calls Try.prog 38 #[.slice A0 l0.length c0] w fun e w' => e = .returned (.bool r) ∧ Below w.heap.size w w' := by
 unfold tree_Good.f at h; have h := Option.some.inj h; rw [← h]; exact XGood.good_walk k34 _ _ _ ⟨rfl, fun w x cs hK => k34_open hK⟩ A0 c0 l0 w hr0 hc0

/-! ### rate_Good: function 39 -/
def rate_Good.l0 : Nat → List (S68) → Int → Int → Option (Bool)
 | 0, _, _, _ => none
 | k + 1, x8, x9, x10 => if x10 < x9 then (if 0 ≤ x10 then (if x10 < (x8.length : Int) then (if (mn (mn ((rd_T68 x8 x10).f0) ((rd_T68 x8 x10).f1)) ((rd_T68 x8 x10).f2)) < 0 then (some false) else (if ((rd_T68 x8 x10).f0) ≥ 8 then (some false) else (if ((rd_T68 x8 x10).f1) > 1099511627776 then (some false) else (if ((rd_T68 x8 x10).f2) > 1099511627776 then (some false) else (rate_Good.l0 k x8 x9 (wrap64 (x10 + 1))))))) else (none)) else (none)) else (some true)
def rate_Good.f (k : Nat) (l0 : List (S68)) : Option (Bool) := if (l0.length : Int) > 16 then (some false) else (rate_Good.l0 k l0 (l0.length : Int) 0)
theorem rate_Good.mono_l : ∀ k, (∀ y0 y1 y2, LeO (rate_Good.l0 k y0 y1 y2) (rate_Good.l0 (k + 1) y0 y1 y2))
 | 0 => fun _ _ _ r h => by simp [rate_Good.l0] at h
 | k + 1 => by
  have ih0 := rate_Good.mono_l k
  ·intro y0 y1 y2
   unfold rate_Good.l0
   exact lo
theorem rate_Good.mono : ∀ a0 k, LeO (rate_Good.f k a0) (rate_Good.f (k + 1) a0) := by
 intro a0 k; have ih0 := rate_Good.mono_l k; unfold rate_Good.f
 exact lo
set_option maxHeartbeats 8000000 in
set_option maxRecDepth 100000 in
theorem rate_Good.calls (k : Nat) (A0 : Option Addr) (c0 : Nat) (l0 : List (S68)) (r : Bool) (w : World) (hr0 : Kd.C k68 w A0 l0.length l0) (hc0 : l0.length ≤ c0) (h : rate_Good.f k l0 = some r) :
  Calls Try.prog 39 #[.slice A0 l0.length c0] w fun e w' => e = .returned (.bool r) ∧ Below w.heap.size w w' := by
 have hu68 := Try.underlying68; have HR0 := am hr0; have HC0 := am hc0; clear hr0 hc0; have HB := am (Below.refl w.heap.size w); have H : (if (l0.length : Int) > 16 then (some false) else (rate_Good.l0 k l0 (l0.length : Int) 0)) = some r := h; clear h
 by_cases c2 : (l0.length : Int) > 16
 ·rw [if_pos c2] at H
  have c2b0 := decide_eq_true c2; have c2b1 : decide (16 < l0.length) = true := decide_eq_true (by omega); clear c2; obtain rfl := Option.some.inj H
  go_enter Try.func39, Try.ntmps39
  go_wp2; go_ret; exact ⟨by first | rfl | (simp [*, errW_none, errW_some] <;> rfl), HB.out⟩
 ·rw [if_neg c2] at H
  have c2b0 := decide_eq_false c2; have c2b1 : decide (16 < l0.length) = false := decide_eq_false (by omega); clear c2; have H' := am H; clear H
  go_enter Try.func39, Try.ntmps39
  go_wp2
  go_loopg [10] k (fun kq v10 w' => ∃ (x10_1 : Int), v10 = .int .i64 x10_1 ∧ Aside0 (rate_Good.l0 kq l0 (l0.length : Int) x10_1 = some r) ∧ Aside0 (kq ≤ k) ∧ Aside0 (Below w.heap.size w w'))
  case atStart => exact ⟨(0), sx, H', ⟨Nat.le_refl _⟩, ⟨HB.out⟩⟩
  case round =>
   clear H'
   try clear c2
   try clear c2b0
   try clear c2b1
   obtain ⟨x10_1, rfl, HA, HK1, HB⟩ := hrel
   cases gk with
   | zero => exact absurd HA.out (by simp [rate_Good.l0])
   | succ k1 =>
    have H := HA.out
    clear HA
    simp only [rate_Good.l0] at H
    by_cases c3 : x10_1 < (l0.length : Int)
    ·rw [if_pos c3] at H
     have c3b0 := decide_eq_true c3; clear c3
     by_cases c4 : 0 ≤ x10_1
     ·rw [if_pos c4] at H
      have c4b0 := decide_eq_true c4; clear c4
      by_cases c5 : x10_1 < (l0.length : Int)
      ·rw [if_pos c5] at H
       have c5b0 := decide_eq_true c5; clear c5; obtain ⟨ji6, hji6⟩ : ∃ j_ : Int, (mn ((rd_T68 l0 x10_1).f0) ((rd_T68 l0 x10_1).f1)) = j_ := ⟨_, rfl⟩; replace H : (if (mn (ji6) ((rd_T68 l0 x10_1).f2)) < 0 then (some false) else (if ((rd_T68 l0 x10_1).f0) ≥ 8 then (some false) else (if ((rd_T68 l0 x10_1).f1) > 1099511627776 then (some false) else (if ((rd_T68 l0 x10_1).f2) > 1099511627776 then (some false) else (rate_Good.l0 k1 l0 (l0.length : Int) (wrap64 (x10_1 + 1))))))) = some r := by first | (rw [hji6] at H; exact H) | (simp only [hji6] at H ⊢; exact H)
       have hji6_ : (if ((rd_T68 l0 x10_1).f1) < ((rd_T68 l0 x10_1).f0) then ((rd_T68 l0 x10_1).f1) else ((rd_T68 l0 x10_1).f0)) = ji6 := hji6; obtain ⟨ji7, hji7⟩ : ∃ j_ : Int, (mn (ji6) ((rd_T68 l0 x10_1).f2)) = j_ := ⟨_, rfl⟩; replace H : (if (ji7) < 0 then (some false) else (if ((rd_T68 l0 x10_1).f0) ≥ 8 then (some false) else (if ((rd_T68 l0 x10_1).f1) > 1099511627776 then (some false) else (if ((rd_T68 l0 x10_1).f2) > 1099511627776 then (some false) else (rate_Good.l0 k1 l0 (l0.length : Int) (wrap64 (x10_1 + 1))))))) = some r := by first | (rw [hji7] at H; exact H) | (simp only [hji7] at H ⊢; exact H)
       have hji7_ : (if ((rd_T68 l0 x10_1).f2) < (ji6) then ((rd_T68 l0 x10_1).f2) else (ji6)) = ji7 := hji7
       have p123 : 0 ≤ (x10_1 : Int) := of_decide_eq_true (by assumption); have q123 : x10_1 < (l0.length : Int) := of_decide_eq_true (by assumption); obtain ⟨ad123, e123, hx123_0, hx123_1, hx123_2⟩ := at_T68 HR0.out x10_1 p123 q123; cases e123; replace hx123_0 := cb HB.out hx123_0; replace hx123_1 := cb HB.out hx123_1; replace hx123_2 := cb HB.out hx123_2; replace p123 := eq_true p123; replace q123 := eq_true q123; go_upto_region 4 with (first | ((with_reducible refine gate_dst (N := 4) rfl ?_); refine be (N := 4) (cs := #[.int .i64 0, .int .i64 0, .int .i64 0]) (t := 68) ?_; intro gb124 hg w9 hbox hb; have BK124 := am (hbox); have GW124 := am ((by rw [hg]; exact (below_size HB.out) : w.heap.size ≤ gb124)); have GE124 := am ((by rw [hg]; exact (below_size HB.out) : w.heap.size ≤ gb124)); replace HB := am (below_step HB.out hb); clear hb hbox hg; obtain ⟨_, _, _⟩ := c3 BK124.out; obtain ⟨_, _, _⟩ := f3 BK124.out))
       by_cases c8 : (ji7) < 0
       ·rw [if_pos c8] at H
        have c8b0 := decide_eq_true c8; clear c8; obtain rfl := Option.some.inj H; go_wp2
        go_ret; exact ⟨by first | rfl | (simp [errW_none, errW_some] <;> rfl) | (simp only [← hji6, ← hji7]; first | rfl | (simp [errW_none, errW_some] <;> rfl)) | (simp [*, errW_none, errW_some] <;> rfl), bx⟩
       ·rw [if_neg c8] at H
        have c8b0 := decide_eq_false c8; clear c8
        by_cases c11 : ((rd_T68 l0 x10_1).f0) ≥ 8
        ·rw [if_pos c11] at H
         have c11b0 := decide_eq_true c11; clear c11; obtain rfl := Option.some.inj H; go_wp2
         go_ret; exact ⟨by first | rfl | (simp [errW_none, errW_some] <;> rfl) | (simp only [← hji6, ← hji7]; first | rfl | (simp [errW_none, errW_some] <;> rfl)) | (simp [*, errW_none, errW_some] <;> rfl), bx⟩
        ·rw [if_neg c11] at H
         have c11b0 := decide_eq_false c11; clear c11
         by_cases c14 : ((rd_T68 l0 x10_1).f1) > 1099511627776
         ·rw [if_pos c14] at H
          have c14b0 := decide_eq_true c14; clear c14; obtain rfl := Option.some.inj H; go_wp2
          go_ret; exact ⟨by first | rfl | (simp [errW_none, errW_some] <;> rfl) | (simp only [← hji6, ← hji7]; first | rfl | (simp [errW_none, errW_some] <;> rfl)) | (simp [*, errW_none, errW_some] <;> rfl), bx⟩
         ·rw [if_neg c14] at H
          have c14b0 := decide_eq_false c14; clear c14
          by_cases c17 : ((rd_T68 l0 x10_1).f2) > 1099511627776
          ·rw [if_pos c17] at H
           have c17b0 := decide_eq_true c17; clear c17; obtain rfl := Option.some.inj H; go_wp2
           go_ret; exact ⟨by first | rfl | (simp [errW_none, errW_some] <;> rfl) | (simp only [← hji6, ← hji7]; first | rfl | (simp [errW_none, errW_some] <;> rfl)) | (simp [*, errW_none, errW_some] <;> rfl), bx⟩
          ·rw [if_neg c17] at H
           have c17b0 := decide_eq_false c17; clear c17; have H' := am H; clear H; go_wp2
           go_roundg k1
           case measure => have := HK1.out; omega
           case rel => exact ⟨(wrap64 (x10_1 + 1)), sx, H', ⟨by have := HK1.out; omega⟩, ⟨bx⟩⟩
      ·rw [if_neg c5] at H
       exact absurd H (by simp)
     ·rw [if_neg c4] at H
      exact absurd H (by simp)
    ·rw [if_neg c3] at H
     have c3b0 := decide_eq_false c3; clear c3; obtain rfl := Option.some.inj H; go_wp2; go_ret; exact ⟨by first | rfl | (simp [*, errW_none, errW_some] <;> rfl), HB.out⟩

end Go.Proofs.Ytijeigiilgapdaa.QSoundTells
