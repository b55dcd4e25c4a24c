/- Written by a program of this session (wip/tools/mp.sh): functions as Lean functions, with proofs that the calls come to what they say. Lean checks it. -/
import Derived.Test.YtijeigiilgapdaaQSoundTellsx0
import Derived.Test.YtijeigiilgapdaaXWd
import Derived.Test.YtijeigiilgapdaaQSoundTellsx12
namespace Go.Proofs.Ytijeigiilgapdaa.QSoundTells
open Go.RowKit Go.Proofs.YtijeigiilgapdaaW.PrintWords Go.Proofs.YtijeigiilgapdaaW.PrintLast Go.Proofs.YtijeigiilgapdaaW.PrintMore
attribute [local go_sem] max2_int min2_int max_two min_two max_three min_three max_four min_four   -- for this text's walks alone
set_option linter.unusedVariables false
set_option linter.unusedSimpArgs false

/-! ### prebendref25_sum: function 32 -/
mutual
def prebendref25_sum.l0 : Nat → Int → Int → List Int → Int → Int → Int → Int → List (S34) → List (S36) → List (S68) → List (S50) → List ByteArray → Option (Int × Bool)
 | 0, _, _, _, _, _, _, _, _, _, _, _, _ => none
 | k + 1, x1, x2, x8, x9, x316000, x316001, x316002, x316003, x316004, x316005, x316006, x316007 => if x9 < (x316006.length : Int) then (prebendref25_sum.l1 k x1 x2 x8 x9 0 x316000 x316001 x316002 x316003 x316004 x316005 x316006 x316007) else ((prebendref01_Add.f k x8).bind fun bt319 => (some (bt319.1, (bt319.2 == 0))))
def prebendref25_sum.l1 : Nat → Int → Int → List Int → Int → Int → Int → Int → Int → List (S34) → List (S36) → List (S68) → List (S50) → List ByteArray → Option (Int × Bool)
 | 0, _, _, _, _, _, _, _, _, _, _, _, _, _ => none
 | k + 1, x1, x2, x8, x9, x10, x316000, x316001, x316002, x316003, x316004, x316005, x316006, x316007 => if 0 ≤ x9 then (if x9 < (x316006.length : Int) then (if x10 < (((rd_T50 x316006 x9).f11).length : Int) then (prebendref25_sum.j2 k x1 x2 x8 x9 x10 (((rd_T50 x316006 x9).f7) == x1) x316000 x316001 x316002 x316003 x316004 x316005 x316006 x316007) else (prebendref25_sum.j2 k x1 x2 x8 x9 x10 false x316000 x316001 x316002 x316003 x316004 x316005 x316006 x316007)) else (none)) else (none)
def prebendref25_sum.j2 : Nat → Int → Int → List Int → Int → Int → Bool → Int → Int → Int → List (S34) → List (S36) → List (S68) → List (S50) → List ByteArray → Option (Int × Bool)
 | 0, _, _, _, _, _, _, _, _, _, _, _, _, _, _ => none
 | k + 1, x1, x2, x8, x9, x10, x39, x316000, x316001, x316002, x316003, x316004, x316005, x316006, x316007 => if x39 = true then (if 0 ≤ x9 then (if x9 < (x316006.length : Int) then (if 0 ≤ x10 then (if x10 < (((rd_T50 x316006 x9).f11).length : Int) then (if ((rd_T60 ((rd_T50 x316006 x9).f11) x10).f0) = x2 then (if x8.length < 17592186044416 then (prebendref25_sum.l1 k x1 x2 (x8 ++ [(rd_T60 ((rd_T50 x316006 x9).f11) x10).f1]) x9 (wrap64 (x10 + 1)) x316000 x316001 x316002 x316003 x316004 x316005 x316006 x316007) else (none)) else (prebendref25_sum.l1 k x1 x2 x8 x9 (wrap64 (x10 + 1)) x316000 x316001 x316002 x316003 x316004 x316005 x316006 x316007)) else (none)) else (none)) else (none)) else (none)) else (prebendref25_sum.l0 k x1 x2 x8 (wrap64 (x9 + 1)) x316000 x316001 x316002 x316003 x316004 x316005 x316006 x316007)
end
def prebendref25_sum.f (k : Nat) (a0_0 : Int) (a0_1 : Int) (a0_2 : Int) (l0_3 : List (S34)) (l0_4 : List (S36)) (l0_5 : List (S68)) (l0_6 : List (S50)) (l0_7 : List ByteArray) (a1 : Int) (a2 : Int) : Option (Int × Bool) := prebendref25_sum.l0 k a1 a2 (([] : List Int)) 0 a0_0 a0_1 a0_2 l0_3 l0_4 l0_5 l0_6 l0_7
theorem prebendref25_sum.mono_l : ∀ k, (∀ y0 y1 y2 y3 y4 y5 y6 y7 y8 y9 y10 y11, LeO (prebendref25_sum.l0 k y0 y1 y2 y3 y4 y5 y6 y7 y8 y9 y10 y11) (prebendref25_sum.l0 (k + 1) y0 y1 y2 y3 y4 y5 y6 y7 y8 y9 y10 y11)) ∧ (∀ y0 y1 y2 y3 y4 y5 y6 y7 y8 y9 y10 y11 y12, LeO (prebendref25_sum.l1 k y0 y1 y2 y3 y4 y5 y6 y7 y8 y9 y10 y11 y12) (prebendref25_sum.l1 (k + 1) y0 y1 y2 y3 y4 y5 y6 y7 y8 y9 y10 y11 y12)) ∧ (∀ y0 y1 y2 y3 y4 y5 y6 y7 y8 y9 y10 y11 y12 y13, LeO (prebendref25_sum.j2 k y0 y1 y2 y3 y4 y5 y6 y7 y8 y9 y10 y11 y12 y13) (prebendref25_sum.j2 (k + 1) y0 y1 y2 y3 y4 y5 y6 y7 y8 y9 y10 y11 y12 y13))
 | 0 => ⟨fun _ _ _ _ _ _ _ _ _ _ _ _ r h => by simp [prebendref25_sum.l0] at h, fun _ _ _ _ _ _ _ _ _ _ _ _ _ r h => by simp [prebendref25_sum.l1] at h, fun _ _ _ _ _ _ _ _ _ _ _ _ _ _ r h => by simp [prebendref25_sum.j2] at h⟩
 | k + 1 => by
  obtain ⟨ih0, ih1, ih2⟩ := prebendref25_sum.mono_l k; refine ⟨?_, ?_, ?_⟩
  ·intro y0 y1 y2 y3 y4 y5 y6 y7 y8 y9 y10 y11
   unfold prebendref25_sum.l0
   have ih9 := @prebendref01_Add.mono; exact lo
  ·intro y0 y1 y2 y3 y4 y5 y6 y7 y8 y9 y10 y11 y12
   unfold prebendref25_sum.l1
   have ih9 := @prebendref01_Add.mono; exact lo
  ·intro y0 y1 y2 y3 y4 y5 y6 y7 y8 y9 y10 y11 y12 y13
   unfold prebendref25_sum.j2
   have ih9 := @prebendref01_Add.mono; exact lo
theorem prebendref25_sum.mono : ∀ a0 a1 a2 a3 a4 a5 a6 a7 a8 a9 k, LeO (prebendref25_sum.f k a0 a1 a2 a3 a4 a5 a6 a7 a8 a9) (prebendref25_sum.f (k + 1) a0 a1 a2 a3 a4 a5 a6 a7 a8 a9) := by
 intro a0 a1 a2 a3 a4 a5 a6 a7 a8 a9 k; obtain ⟨ih0, ih1, ih2⟩ := prebendref25_sum.mono_l k; unfold prebendref25_sum.f
 have ih9 := @prebendref01_Add.mono; exact lo
set_option maxHeartbeats 8000000 in
set_option maxRecDepth 100000 in
theorem prebendref25_sum.calls (k : Nat) (a0_0 : Int) (a0_1 : Int) (a0_2 : Int) (A0_3 : Option Addr) (c0_3 : Nat) (l0_3 : List (S34)) (A0_4 : Option Addr) (c0_4 : Nat) (l0_4 : List (S36)) (A0_5 : Option Addr) (c0_5 : Nat) (l0_5 : List (S68)) (A0_6 : Option Addr) (c0_6 : Nat) (l0_6 : List (S50)) (A0_7 : Option Addr) (c0_7 : Nat) (l0_7 : List ByteArray) (a1 : Int) (a2 : Int) (r1 : Int) (r2 : Bool) (w : World) (hr0_3 : Kd.C k34 w A0_3 l0_3.length l0_3) (hc0_3 : l0_3.length ≤ c0_3) (hr0_4 : Kd.C k36 w A0_4 l0_4.length l0_4) (hc0_4 : l0_4.length ≤ c0_4) (hr0_5 : Kd.C k68 w A0_5 l0_5.length l0_5) (hc0_5 : l0_5.length ≤ c0_5) (hr0_6 : Kd.C k50 w A0_6 l0_6.length l0_6) (hc0_6 : l0_6.length ≤ c0_6) (hr0_7 : Kd.C Kd.string w A0_7 l0_7.length l0_7) (hc0_7 : l0_7.length ≤ c0_7) (h : prebendref25_sum.f k a0_0 a0_1 a0_2 l0_3 l0_4 l0_5 l0_6 l0_7 a1 a2 = some (r1, r2)) :
  Calls Try.prog 32 #[.agg #[.int .i64 a0_0, .int .i64 a0_1, .int .i64 a0_2, .slice A0_3 l0_3.length c0_3, .slice A0_4 l0_4.length c0_4, .slice A0_5 l0_5.length c0_5, .slice A0_6 l0_6.length c0_6, .slice A0_7 l0_7.length c0_7], .int .i64 a1, .int .i64 a2] w fun e w' => e = .returned (.tuple #[.int .i64 r1, .bool r2]) ∧ Below w.heap.size w w' := by
 have hu28 := Try.underlying28; have HR0_3 := am hr0_3; have HC0_3 := am hc0_3; clear hr0_3 hc0_3; have HR0_4 := am hr0_4; have HC0_4 := am hc0_4; clear hr0_4 hc0_4; have HR0_5 := am hr0_5; have HC0_5 := am hc0_5; clear hr0_5 hc0_5; have HR0_6 := am hr0_6; have HC0_6 := am hc0_6; clear hr0_6 hc0_6; have HR0_7 := am hr0_7; have HC0_7 := am hc0_7; clear hr0_7 hc0_7; have HB := am (Below.refl w.heap.size w); have H : (prebendref25_sum.l0 k a1 a2 (([] : List Int)) 0 a0_0 a0_1 a0_2 l0_3 l0_4 l0_5 l0_6 l0_7) = some (r1, r2) := h; clear h; obtain ⟨y316, hy316⟩ : ∃ y_ : List Int, y_ = (([] : List Int)) := ⟨_, rfl⟩; (first | rw [Option.bind_some, ← hy316] at H | rw [← hy316] at H)
 have Ny316 := am hy316; clear hy316; have H' := am H; clear H
 go_enter Try.func32, Try.ntmps32
 go_wp2_with (first | ((with_reducible refine gate_dst (N := 3) rfl ?_); refine be (N := 3) (cs := #[.int .i64 a0_0, .int .i64 a0_1, .int .i64 a0_2, .slice A0_3 l0_3.length c0_3, .slice A0_4 l0_4.length c0_4, .slice A0_5 l0_5.length c0_5, .slice A0_6 l0_6.length c0_6, .slice A0_7 l0_7.length c0_7]) (t := 28) ?_; intro gb315 hg w4 hbox hb; have BK315 := am (hbox); have GW315 := am ((by rw [hg]; exact (below_size HB.out) : w.heap.size ≤ gb315)); have GE315 := am ((by rw [hg]; exact (below_size HB.out) : w.heap.size ≤ gb315)); replace HB := am (below_step HB.out hb); clear hb hbox hg) | ((with_reducible refine gate_dst (N := 13) rfl ?_); refine Kd.R_lit (Kd.int .i64) _ 3 ?hg (N := 13) ?hd (xs := ([] : List Int)) (inner := []) (ok := fun _ => True) (okp := fun _ => True) ?hr ?hp (fun _ hk => hk) trivial (Below.refl _ _) (Nat.le_refl _) (by simp) ?_; (case hd => rfl); (case hg => rfl); (case hr => first | (go_simp; done) | (go_simp; rfl)); (case hp => exact (Reps.none _ _)); intro v317 w5 ho6 hb hg_ hnew_; clear hg_ hnew_; (first | rw [← Ny316.out] at ho6 | (simp only [Int.reduceToNat] at ho6; rw [← Ny316.out] at ho6)); have HO318 := am (Kd.R_lower ho6 (below_size HB.out)); replace BK315 := am (blk_below BK315.out hb); replace HB := am (below_step HB.out hb); clear hb ho6))
 go_loopg [8, 9] k (fun kq v8 v9 w' => ∃ (x8_1 : List Int) (x9_1 : Int), v9 = .int .i64 x9_1 ∧ Aside0 (prebendref25_sum.l0 kq a1 a2 x8_1 x9_1 a0_0 a0_1 a0_2 l0_3 l0_4 l0_5 l0_6 l0_7 = some (r1, r2)) ∧ Aside0 (kq ≤ k) ∧ Aside0 (Kd.R (Kd.int .i64) 3 w' w.heap.size (fun _ => True) v8 x8_1) ∧ Aside0 (w'.heap[gb315]? = some (.cells #[.int .i64 a0_0, .int .i64 a0_1, .int .i64 a0_2, (.slice A0_3 l0_3.length c0_3), (.slice A0_4 l0_4.length c0_4), (.slice A0_5 l0_5.length c0_5), (.slice A0_6 l0_6.length c0_6), (.slice A0_7 l0_7.length c0_7)] 28 (0, 0))) ∧ Aside0 (Below w.heap.size w w'))
 case atStart => exact ⟨(y316), (0), sx, H', ⟨Nat.le_refl _⟩, ⟨HO318.out⟩, ⟨BK315.out⟩, ⟨HB.out⟩⟩
 case round =>
  clear H'; obtain ⟨x8_1, x9_1, rfl, HA, HK1, HO_8, BK315, HB⟩ := hrel
  cases gk with
  | zero => exact absurd HA.out (by simp [prebendref25_sum.l0])
  | succ k1 =>
   have H := HA.out; clear HA; simp only [prebendref25_sum.l0] at H
   by_cases c7 : x9_1 < (l0_6.length : Int)
   ·rw [if_pos c7] at H
    have c7b0 := decide_eq_true c7; clear c7; have H' := am H; clear H; obtain ⟨_, _, _, _, _, _, _, _⟩ := c8 BK315.out; go_wp2
    go_loopg [8, 10] k1 (fun kq v8 v10 w' => ∃ (x8_2 : List Int) (x10_2 : Int), v10 = .int .i64 x10_2 ∧ Aside0 (prebendref25_sum.l1 kq a1 a2 x8_2 x9_1 x10_2 a0_0 a0_1 a0_2 l0_3 l0_4 l0_5 l0_6 l0_7 = some (r1, r2)) ∧ Aside0 (kq ≤ k1) ∧ Aside0 (Kd.R (Kd.int .i64) 3 w' w.heap.size (fun _ => True) v8 x8_2) ∧ Aside0 (w'.heap[gb315]? = some (.cells #[.int .i64 a0_0, .int .i64 a0_1, .int .i64 a0_2, (.slice A0_3 l0_3.length c0_3), (.slice A0_4 l0_4.length c0_4), (.slice A0_5 l0_5.length c0_5), (.slice A0_6 l0_6.length c0_6), (.slice A0_7 l0_7.length c0_7)] 28 (0, 0))) ∧ Aside0 (Below w.heap.size w w'))
    case atStart => exact ⟨(x8_1), (0), sx, H', ⟨Nat.le_refl _⟩, ⟨HO_8.out⟩, ⟨BK315.out⟩, ⟨HB.out⟩⟩
    case round =>
     clear H'
     try clear c7
     try clear c7b0
     try clear _ _ _ _ _ _ _ _
     obtain ⟨x8_2, x10_2, rfl, HA, HK2, HO_8, BK315, HB⟩ := hrel
     cases gk with
     | zero => exact absurd HA.out (by simp [prebendref25_sum.l1])
     | succ k2 =>
      have H := HA.out
      clear HA
      simp only [prebendref25_sum.l1] at H
      have HC9 := am H
      clear H
      go_upto_region 6 with (fail)
      go_cut [39] (fun v39 wc => ∃ (kq : Nat) (x39_8 : Bool), v39 = .bool x39_8 ∧ Aside0 (prebendref25_sum.j2 kq a1 a2 x8_2 x9_1 x10_2 x39_8 a0_0 a0_1 a0_2 l0_3 l0_4 l0_5 l0_6 l0_7 = some (r1, r2)) ∧ Aside0 (kq ≤ k2) ∧ Aside0 (Kd.R (Kd.int .i64) 3 wc w.heap.size (fun _ => True) u8 x8_2) ∧ Aside0 (wc.heap[gb315]? = some (.cells #[.int .i64 a0_0, .int .i64 a0_1, .int .i64 a0_2, (.slice A0_3 l0_3.length c0_3), (.slice A0_4 l0_4.length c0_4), (.slice A0_5 l0_5.length c0_5), (.slice A0_6 l0_6.length c0_6), (.slice A0_7 l0_7.length c0_7)] 28 (0, 0))) ∧ Aside0 (Below w.heap.size w wc))
      case first =>
       have H := HC9.out; clear HC9
       by_cases c10 : 0 ≤ x9_1
       ·rw [if_pos c10] at H
        have c10b0 := decide_eq_true c10; clear c10
        (first | rw [c10b0] | (simp only [i64_w, i32_w]; rw [c10b0]) | skip)
        by_cases c11 : x9_1 < (l0_6.length : Int)
        ·rw [if_pos c11] at H
         have c11b0 := decide_eq_true c11; clear c11
         by_cases c12 : x10_2 < (((rd_T50 l0_6 x9_1).f11).length : Int)
         ·rw [if_pos c12] at H
          have c12b0 := decide_eq_true c12; clear c12; have H' := am H; clear H; obtain ⟨_, _, _, _, _, _, _, _⟩ := c8 BK315.out; have p321 : 0 ≤ (x9_1 : Int) := of_decide_eq_true (by assumption); have q321 : x9_1 < (l0_6.length : Int) := of_decide_eq_true (by assumption); obtain ⟨ad321, A321_11, c321_11, e321, hx321_0, hx321_1, hx321_2, hx321_3, hx321_4, hx321_5, hx321_6, hx321_7, hx321_8, hx321_9, hx321_10, hx321_11, hl321_11, hi321_11⟩ := at_T50 HR0_6.out x9_1 p321 q321; cases e321; replace hx321_0 := cb HB.out hx321_0; replace hx321_1 := cb HB.out hx321_1; replace hx321_2 := cb HB.out hx321_2; replace hx321_3 := cb HB.out hx321_3; replace hx321_4 := cb HB.out hx321_4; replace hx321_5 := cb HB.out hx321_5; replace hx321_6 := cb HB.out hx321_6; replace hx321_7 := cb HB.out hx321_7; replace hx321_8 := cb HB.out hx321_8; replace hx321_9 := cb HB.out hx321_9; replace hx321_10 := cb HB.out hx321_10; replace hx321_11 := cb HB.out hx321_11; have HR321_11 := am hi321_11; have HC321_11 := am hl321_11; clear hi321_11 hl321_11; replace p321 := eq_true p321; replace q321 := eq_true q321; have p322 : 0 ≤ (x9_1 : Int) := of_decide_eq_true (by assumption); have q322 : x9_1 < (l0_6.length : Int) := of_decide_eq_true (by assumption); obtain ⟨ad322, A322_11, c322_11, e322, hx322_0, hx322_1, hx322_2, hx322_3, hx322_4, hx322_5, hx322_6, hx322_7, hx322_8, hx322_9, hx322_10, hx322_11, hl322_11, hi322_11⟩ := at_T50 HR0_6.out x9_1 p322 q322; obtain rfl : ad321 = ad322 := (by injection e322); replace hx322_0 := cb HB.out hx322_0; replace hx322_1 := cb HB.out hx322_1; replace hx322_2 := cb HB.out hx322_2; replace hx322_3 := cb HB.out hx322_3; replace hx322_4 := cb HB.out hx322_4; replace hx322_5 := cb HB.out hx322_5; replace hx322_6 := cb HB.out hx322_6; replace hx322_7 := cb HB.out hx322_7; replace hx322_8 := cb HB.out hx322_8; replace hx322_9 := cb HB.out hx322_9; replace hx322_10 := cb HB.out hx322_10; replace hx322_11 := cb HB.out hx322_11; have HR322_11 := am hi322_11; have HC322_11 := am hl322_11; clear hi322_11 hl322_11; replace p322 := eq_true p322; replace q322 := eq_true q322; have ea_ := Option.some.inj (hx321_11.symm.trans hx322_11)
          injection ea_ with ea_ en_ ec_
          subst ea_; subst ec_; clear en_; go_wp2
          go_meet
          case rel => exact ⟨_, ((((rd_T50 l0_6 x9_1).f7) == a1)), sx, H', ⟨by have := HK1.out; have := HK2.out; first | omega | exact Nat.le_refl _⟩, ⟨HO_8.out⟩, ⟨BK315.out⟩, ⟨HB.out⟩⟩
         ·rw [if_neg c12] at H
          have c12b0 := decide_eq_false c12
          clear c12
          have H' := am H
          clear H
          obtain ⟨_, _, _, _, _, _, _, _⟩ := c8 BK315.out
          have p321 : 0 ≤ (x9_1 : Int) := of_decide_eq_true (by assumption)
          have q321 : x9_1 < (l0_6.length : Int) := of_decide_eq_true (by assumption)
          obtain ⟨ad321, A321_11, c321_11, e321, hx321_0, hx321_1, hx321_2, hx321_3, hx321_4, hx321_5, hx321_6, hx321_7, hx321_8, hx321_9, hx321_10, hx321_11, hl321_11, hi321_11⟩ := at_T50 HR0_6.out x9_1 p321 q321
          cases e321
          replace hx321_0 := cb HB.out hx321_0
          replace hx321_1 := cb HB.out hx321_1
          replace hx321_2 := cb HB.out hx321_2
          replace hx321_3 := cb HB.out hx321_3
          replace hx321_4 := cb HB.out hx321_4
          replace hx321_5 := cb HB.out hx321_5
          replace hx321_6 := cb HB.out hx321_6
          replace hx321_7 := cb HB.out hx321_7
          replace hx321_8 := cb HB.out hx321_8
          replace hx321_9 := cb HB.out hx321_9
          replace hx321_10 := cb HB.out hx321_10
          replace hx321_11 := cb HB.out hx321_11
          have HR321_11 := am hi321_11
          have HC321_11 := am hl321_11
          clear hi321_11 hl321_11
          replace p321 := eq_true p321
          replace q321 := eq_true q321
          go_wp2
          go_meet
          case rel => exact ⟨_, (false), sx, H', ⟨by have := HK1.out; have := HK2.out; first | omega | exact Nat.le_refl _⟩, ⟨HO_8.out⟩, ⟨BK315.out⟩, ⟨HB.out⟩⟩
        ·rw [if_neg c11] at H
         exact absurd H (by simp)
       ·rw [if_neg c10] at H
        exact absurd H (by simp)
      case rest =>
       clear HC9
       try clear c7
       try clear c7b0
       try clear _ _ _ _ _ _ _ _
       obtain ⟨kq, x39_8, rfl, HA, HJ8, HO_8, BK315, HB⟩ := hcut
       cases kq with
       | zero => exact absurd HA.out (by simp [prebendref25_sum.j2])
       | succ kj8 =>
        have H := HA.out; clear HA; simp only [prebendref25_sum.j2] at H
        by_cases c15 : x39_8 = true
        ·subst c15
         rw [if_pos rfl] at H
         by_cases c16 : 0 ≤ x9_1
         ·rw [if_pos c16] at H
          have c16b0 := decide_eq_true c16; clear c16
          by_cases c17 : x9_1 < (l0_6.length : Int)
          ·rw [if_pos c17] at H
           have c17b0 := decide_eq_true c17; clear c17
           by_cases c18 : 0 ≤ x10_2
           ·rw [if_pos c18] at H
            have c18b0 := decide_eq_true c18; clear c18
            by_cases c19 : x10_2 < (((rd_T50 l0_6 x9_1).f11).length : Int)
            ·rw [if_pos c19] at H
             have c19b0 := decide_eq_true c19; clear c19
             by_cases c20 : ((rd_T60 ((rd_T50 l0_6 x9_1).f11) x10_2).f0) = a2
             ·rw [if_pos c20] at H
              have c20b0 := beq_iff_eq.mpr c20; have c20b1 := bne_eq_false_iff_eq.mpr c20; clear c20
              by_cases c21 : x8_2.length < 17592186044416
              ·rw [if_pos c21] at H
               have LMc21 := am c21; clear c21; obtain ⟨y327, hy327⟩ : ∃ y_ : List Int, y_ = (x8_2 ++ [(rd_T60 ((rd_T50 l0_6 x9_1).f11) x10_2).f1]) := ⟨_, rfl⟩; (first | rw [Option.bind_some, ← hy327] at H | rw [← hy327] at H)
               have Ny327 := am hy327; clear hy327; have H' := am H; clear H; obtain ⟨_, _, _, _, _, _, _, _⟩ := c8 BK315.out; have p323 : 0 ≤ (x9_1 : Int) := of_decide_eq_true (by assumption); have q323 : x9_1 < (l0_6.length : Int) := of_decide_eq_true (by assumption); obtain ⟨ad323, A323_11, c323_11, e323, hx323_0, hx323_1, hx323_2, hx323_3, hx323_4, hx323_5, hx323_6, hx323_7, hx323_8, hx323_9, hx323_10, hx323_11, hl323_11, hi323_11⟩ := at_T50 HR0_6.out x9_1 p323 q323; cases e323; replace hx323_0 := cb HB.out hx323_0; replace hx323_1 := cb HB.out hx323_1; replace hx323_2 := cb HB.out hx323_2; replace hx323_3 := cb HB.out hx323_3; replace hx323_4 := cb HB.out hx323_4; replace hx323_5 := cb HB.out hx323_5; replace hx323_6 := cb HB.out hx323_6; replace hx323_7 := cb HB.out hx323_7; replace hx323_8 := cb HB.out hx323_8; replace hx323_9 := cb HB.out hx323_9; replace hx323_10 := cb HB.out hx323_10; replace hx323_11 := cb HB.out hx323_11; have HR323_11 := am hi323_11; have HC323_11 := am hl323_11; clear hi323_11 hl323_11; replace p323 := eq_true p323; replace q323 := eq_true q323; have p324 : 0 ≤ (x10_2 : Int) := of_decide_eq_true (by assumption); have q324 : x10_2 < (((rd_T50 l0_6 x9_1).f11).length : Int) := of_decide_eq_true (by assumption); obtain ⟨ad324, e324, hx324_0, hx324_1⟩ := at_T60 HR323_11.out x10_2 p324 q324; cases e324; replace hx324_0 := cb HB.out hx324_0; replace hx324_1 := cb HB.out hx324_1; replace p324 := eq_true p324; replace q324 := eq_true q324; have p325 : 0 ≤ (x9_1 : Int) := of_decide_eq_true (by assumption); have q325 : x9_1 < (l0_6.length : Int) := of_decide_eq_true (by assumption); obtain ⟨ad325, A325_11, c325_11, e325, hx325_0, hx325_1, hx325_2, hx325_3, hx325_4, hx325_5, hx325_6, hx325_7, hx325_8, hx325_9, hx325_10, hx325_11, hl325_11, hi325_11⟩ := at_T50 HR0_6.out x9_1 p325 q325; obtain rfl : ad323 = ad325 := (by injection e325); replace hx325_0 := cb HB.out hx325_0; replace hx325_1 := cb HB.out hx325_1; replace hx325_2 := cb HB.out hx325_2; replace hx325_3 := cb HB.out hx325_3; replace hx325_4 := cb HB.out hx325_4; replace hx325_5 := cb HB.out hx325_5; replace hx325_6 := cb HB.out hx325_6; replace hx325_7 := cb HB.out hx325_7; replace hx325_8 := cb HB.out hx325_8; replace hx325_9 := cb HB.out hx325_9; replace hx325_10 := cb HB.out hx325_10; replace hx325_11 := cb HB.out hx325_11; have HR325_11 := am hi325_11; have HC325_11 := am hl325_11; clear hi325_11 hl325_11; replace p325 := eq_true p325; replace q325 := eq_true q325; have ea_ := Option.some.inj (hx323_11.symm.trans hx325_11)
               injection ea_ with ea_ en_ ec_
               subst ea_; subst ec_; clear en_; have p326 : 0 ≤ (x10_2 : Int) := of_decide_eq_true (by assumption); have q326 : x10_2 < (((rd_T50 l0_6 x9_1).f11).length : Int) := of_decide_eq_true (by assumption); obtain ⟨ad326, e326, hx326_0, hx326_1⟩ := at_T60 HR325_11.out x10_2 p326 q326; cases e326; replace hx326_0 := cb HB.out hx326_0; replace hx326_1 := cb HB.out hx326_1; replace p326 := eq_true p326; replace q326 := eq_true q326; go_wp2_with (first | ((with_reducible refine gate_builtin (b := .append) (xs := #[.tmp 54, .tmp 65]) rfl ?_); at_builtin; refine Kd.R_append (Kd.int .i64) (w0 := w) w.heap.size rfl (.tmp 54) (.tmp 65) 40 3 (.int .i64 0) 8 rfl Try.underlying40 info3 rfl (by decide) (by omega) u8 x8_2 ((rd_T60 ((rd_T50 l0_6 x9_1).f11) x10_2).f1) [.int .i64 ((rd_T60 ((rd_T50 l0_6 x9_1).f11) x10_2).f1)] (fun _ => True) (fun _ => False) rfl rfl ?aP (fun _ hk => hk.elim) ?aF ?aO ?aB ?aS ?aL ?_; (case aP => exact rfl); (case aB => exact HB.out); (case aF => exact (fun _ _ => trivial)); (case aO => exact HO_8.out); (case aS => exact (below_size HB.out)); (case aL => have := LMc21.out; omega); intro v328 w23 ho hb hg hat; rw [← Ny327.out] at ho; replace BK315 := am (blk_grown BK315.out hg (Kd.R_ne HO_8.out BK315.out (by decide))); replace HB := am (hb); have HO329 := am (ho); clear HO_8; clear ho hb hg hat))
               go_roundg kj8
               case measure => have := HK1.out; have := HK2.out; have := HJ8.out; omega
               case rel => exact ⟨(y327), (wrap64 (x10_2 + 1)), sx, H', ⟨by have := HK1.out; have := HK2.out; have := HJ8.out; omega⟩, ⟨HO329.out⟩, ⟨BK315.out⟩, ⟨HB.out⟩⟩
              ·rw [if_neg c21] at H
               exact absurd H (by simp)
             ·rw [if_neg c20] at H
              have c20b0 := beq_eq_false_iff_ne.mpr c20; have c20b1 := bne_iff_ne.mpr c20; have H' := am H; clear H; obtain ⟨_, _, _, _, _, _, _, _⟩ := c8 BK315.out; have p323 : 0 ≤ (x9_1 : Int) := of_decide_eq_true (by assumption); have q323 : x9_1 < (l0_6.length : Int) := of_decide_eq_true (by assumption); obtain ⟨ad323, A323_11, c323_11, e323, hx323_0, hx323_1, hx323_2, hx323_3, hx323_4, hx323_5, hx323_6, hx323_7, hx323_8, hx323_9, hx323_10, hx323_11, hl323_11, hi323_11⟩ := at_T50 HR0_6.out x9_1 p323 q323; cases e323; replace hx323_0 := cb HB.out hx323_0; replace hx323_1 := cb HB.out hx323_1; replace hx323_2 := cb HB.out hx323_2; replace hx323_3 := cb HB.out hx323_3; replace hx323_4 := cb HB.out hx323_4; replace hx323_5 := cb HB.out hx323_5; replace hx323_6 := cb HB.out hx323_6; replace hx323_7 := cb HB.out hx323_7; replace hx323_8 := cb HB.out hx323_8; replace hx323_9 := cb HB.out hx323_9; replace hx323_10 := cb HB.out hx323_10; replace hx323_11 := cb HB.out hx323_11; have HR323_11 := am hi323_11; have HC323_11 := am hl323_11; clear hi323_11 hl323_11; replace p323 := eq_true p323; replace q323 := eq_true q323; have p324 : 0 ≤ (x10_2 : Int) := of_decide_eq_true (by assumption); have q324 : x10_2 < (((rd_T50 l0_6 x9_1).f11).length : Int) := of_decide_eq_true (by assumption); obtain ⟨ad324, e324, hx324_0, hx324_1⟩ := at_T60 HR323_11.out x10_2 p324 q324; cases e324; replace hx324_0 := cb HB.out hx324_0; replace hx324_1 := cb HB.out hx324_1; replace p324 := eq_true p324; replace q324 := eq_true q324; go_wp2
              go_roundg kj8
              case measure => have := HK1.out; have := HK2.out; have := HJ8.out; omega
              case rel => exact ⟨(x8_2), (wrap64 (x10_2 + 1)), sx, H', ⟨by have := HK1.out; have := HK2.out; have := HJ8.out; omega⟩, ⟨HO_8.out⟩, ⟨BK315.out⟩, ⟨HB.out⟩⟩
            ·rw [if_neg c19] at H
             exact absurd H (by simp)
           ·rw [if_neg c18] at H
            exact absurd H (by simp)
          ·rw [if_neg c17] at H
           exact absurd H (by simp)
         ·rw [if_neg c16] at H
          exact absurd H (by simp)
        ·replace c15 := Bool.eq_false_iff.mpr c15
         subst c15; rw [if_neg (show ¬ (false = true) by decide)] at H; have H' := am H; clear H; go_wp2
         go_roundg kj8
         case measure => have := HK1.out; have := HK2.out; have := HJ8.out; omega
         case rel => exact ⟨(x8_2), (wrap64 (x9_1 + 1)), sx, H', ⟨by have := HK1.out; have := HK2.out; have := HJ8.out; omega⟩, ⟨HO_8.out⟩, ⟨BK315.out⟩, ⟨HB.out⟩⟩
   ·rw [if_neg c7] at H
    have c7b0 := decide_eq_false c7; clear c7; replace H := Option.bind_eq_some_iff.mp H; obtain ⟨⟨t319, t320⟩, A250, H⟩ := H; have A25 := am A250; clear A250; simp only [Option.some.injEq, Prod.mk.injEq] at H; obtain ⟨rfl, rfl⟩ := H; obtain ⟨_, _, _, _, _, _, _, _⟩ := c8 BK315.out; obtain ⟨Ao27, co27, eo27⟩ := Kd.R_slice HO_8.out; subst eo27; go_wp2_with (first | (refine gl (some 69) Try.func27 #[.slice Ao27 x8_1.length co27] ?_; (with_reducible refine (prebendref01_Add.calls k1 _ _ x8_1 t319 t320 _ ?side1 ?side2 A25.out).mono ?_); (case side1 => repeat (first | exact (Kd.R_reads' HO_8.out).2.2 | (with_reducible refine Kd.C_alloc ?_ _) | (with_reducible refine Kd.C_drewN ?_ _) | (with_reducible refine Kd.C_drew ?_))); (case side2 => exact (Kd.R_reads' HO_8.out).2.1); rintro e w' ⟨rfl, ⟨nd, rfl⟩⟩; refine ⟨_, rfl, ?_⟩))
    go_ret2
    exact ⟨by first | rfl | (simp [*, errW_none, errW_some] <;> rfl), bx⟩

/-! ### prebendref01_Mul: function 49 -/
def prebendref01_Mul.f (l0 : List Int) : Option (Int × Int) := some (XRefMul.mulR 1 l0)
theorem prebendref01_Mul.calls (A0 : Option Addr) (c0 : Nat) (l0 : List Int) (r1 : Int) (r2 : Int) (w : World) (hr0 : Kd.C (Kd.int .i64) w A0 l0.length l0) (hc0 : l0.length ≤ c0) (h : prebendref01_Mul.f l0 = some (r1, r2)) :
  Calls Try.prog 49 #[.slice A0 l0.length c0] w fun e w' => e = .returned (.tuple #[.int .i64 r1, .int .i64 r2]) ∧ Drawn0 w w' := by
 have h := Option.some.inj h; have e1 : (XRefMul.mulR 1 l0).1 = r1 := by rw [h]
 have e2 : (XRefMul.mulR 1 l0).2 = r2 := by rw [h]
 rw [← e1, ← e2]; exact XRefMul.mul_walk A0 c0 l0 w hr0 hc0

/-! ### prebendref01_Cost: function 33 -/
def prebendref01_Cost.f (a0 : Int) (a1 : Int) (a2 : Int) : Option (Int × Int) := if a0 < 0 then (some (0, 1)) else (if a1 < 0 then (some (0, 1)) else (if a2 < 0 then (some (0, 1)) else ((prebendref01_Mul.f (([a0, a1, a2] : List Int))).bind fun bt333 => (some (bt333.1, bt333.2)))))
set_option maxHeartbeats 8000000 in
set_option maxRecDepth 100000 in
theorem prebendref01_Cost.calls (a0 : Int) (a1 : Int) (a2 : Int) (r1 : Int) (r2 : Int) (w : World) (h : prebendref01_Cost.f a0 a1 a2 = some (r1, r2)) :
  Calls Try.prog 33 #[.int .i64 a0, .int .i64 a1, .int .i64 a2] w fun e w' => e = .returned (.tuple #[.int .i64 r1, .int .i64 r2]) ∧ Below w.heap.size w w' := by
 have HB := am (Below.refl w.heap.size w); have H : (if a0 < 0 then (some (0, 1)) else (if a1 < 0 then (some (0, 1)) else (if a2 < 0 then (some (0, 1)) else ((prebendref01_Mul.f (([a0, a1, a2] : List Int))).bind fun bt333 => (some (bt333.1, bt333.2)))))) = some (r1, r2) := h; clear h
 by_cases c4 : a0 < 0
 ·rw [if_pos c4] at H
  have c4b0 := decide_eq_true c4; clear c4; simp only [Option.some.injEq, Prod.mk.injEq] at H; obtain ⟨rfl, rfl⟩ := H
  go_enter Try.func33, Try.ntmps33
  go_wp2
  go_ret2
  exact ⟨by first | rfl | (simp [*, errW_none, errW_some] <;> rfl), HB.out⟩
 ·rw [if_neg c4] at H
  have c4b0 := decide_eq_false c4; clear c4
  by_cases c5 : a1 < 0
  ·rw [if_pos c5] at H
   have c5b0 := decide_eq_true c5; clear c5; simp only [Option.some.injEq, Prod.mk.injEq] at H; obtain ⟨rfl, rfl⟩ := H
   go_enter Try.func33, Try.ntmps33
   go_wp2
   go_ret2
   exact ⟨by first | rfl | (simp [*, errW_none, errW_some] <;> rfl), HB.out⟩
  ·rw [if_neg c5] at H
   have c5b0 := decide_eq_false c5; clear c5
   by_cases c6 : a2 < 0
   ·rw [if_pos c6] at H
    have c6b0 := decide_eq_true c6; clear c6; simp only [Option.some.injEq, Prod.mk.injEq] at H; obtain ⟨rfl, rfl⟩ := H
    go_enter Try.func33, Try.ntmps33
    go_wp2
    go_ret2
    exact ⟨by first | rfl | (simp [*, errW_none, errW_some] <;> rfl), HB.out⟩
   ·rw [if_neg c6] at H
    have c6b0 := decide_eq_false c6; clear c6; obtain ⟨y330, hy330⟩ : ∃ y_ : List Int, y_ = (([a0, a1, a2] : List Int)) := ⟨_, rfl⟩; (first | rw [Option.bind_some, ← hy330] at H | rw [← hy330] at H)
    have Ny330 := am hy330; clear hy330; replace H := Option.bind_eq_some_iff.mp H; obtain ⟨⟨t333, t334⟩, A70, H⟩ := H; have A7 := am A70; clear A70; simp only [Option.some.injEq, Prod.mk.injEq] at H; obtain ⟨rfl, rfl⟩ := H
    go_enter Try.func33, Try.ntmps33
    go_wp2_with (first | ((with_reducible refine gate_dst (N := 21) rfl ?_); refine Kd.R_lit (Kd.int .i64) _ 3 ?hg (N := 21) ?hd (xs := ([a0, a1, a2] : List Int)) (inner := [.int .i64 a0, .int .i64 a1, .int .i64 a2]) (ok := fun _ => True) (okp := fun _ => True) ?hr ?hp (fun _ hk => hk) trivial (Below.refl _ _) (Nat.le_refl _) (by simp) ?_; (case hd => rfl); (case hg => rfl); (case hr => first | (go_simp; done) | (go_simp; rfl)); (case hp => exact (Reps.one (show Kd.M (Kd.int .i64) _ _ _ a0 [.int .i64 a0] from rfl) (Reps.one (show Kd.M (Kd.int .i64) _ _ _ a1 [.int .i64 a1] from rfl) (Reps.one (show Kd.M (Kd.int .i64) _ _ _ a2 [.int .i64 a2] from rfl) (Reps.none _ _))))); intro v331 w8 ho9 hb hg_ hnew_; clear hg_ hnew_; (first | rw [← Ny330.out] at ho9 | (simp only [Int.reduceToNat] at ho9; rw [← Ny330.out] at ho9)); have HO332 := am (Kd.R_lower ho9 (below_size HB.out)); replace HB := am (below_step HB.out hb); clear hb ho9; obtain ⟨Ao10, co10, eo10⟩ := Kd.R_slice HO332.out; subst eo10) | (refine gl (some 22) Try.func49 #[.slice Ao10 y330.length co10] ?_; (with_reducible refine (prebendref01_Mul.calls _ _ y330 t333 t334 _ ?side1 ?side2 A7.out).mono ?_); (case side1 => repeat (first | exact (Kd.R_reads' HO332.out).2.2 | (with_reducible refine Kd.C_alloc ?_ _) | (with_reducible refine Kd.C_drewN ?_ _) | (with_reducible refine Kd.C_drew ?_))); (case side2 => exact (Kd.R_reads' HO332.out).2.1); rintro e w' ⟨rfl, ⟨nd, rfl⟩⟩; refine ⟨_, rfl, ?_⟩))
    go_ret2
    exact ⟨by first | rfl | (simp [*, errW_none, errW_some] <;> rfl), bx⟩

/-! ### prebendref11_Total: function 34 -/
def prebendref11_Total.l0 : Nat → List (S60) → List Int → Int → Option (Int × Int)
 | 0, _, _, _ => none
 | k + 1, x0, x4, x5 => if x5 < (x0.length : Int) then (if 0 ≤ x5 then (if x4.length < 17592186044416 then (prebendref11_Total.l0 k x0 (x4 ++ [(rd_T60 x0 x5).f1]) (wrap64 (x5 + 1))) else (none)) else (none)) else ((prebendref01_Add.f k x4).bind fun bt342 => (some (bt342.1, bt342.2)))
def prebendref11_Total.f (k : Nat) (l0 : List (S60)) : Option (Int × Int) := prebendref11_Total.l0 k l0 (([] : List Int)) 0
theorem prebendref11_Total.mono_l : ∀ k, (∀ y0 y1 y2, LeO (prebendref11_Total.l0 k y0 y1 y2) (prebendref11_Total.l0 (k + 1) y0 y1 y2))
 | 0 => fun _ _ _ r h => by simp [prebendref11_Total.l0] at h
 | k + 1 => by
  have ih0 := prebendref11_Total.mono_l k
  ·intro y0 y1 y2
   unfold prebendref11_Total.l0
   have ih9 := @prebendref01_Add.mono; exact lo
theorem prebendref11_Total.mono : ∀ a0 k, LeO (prebendref11_Total.f k a0) (prebendref11_Total.f (k + 1) a0) := by
 intro a0 k; have ih0 := prebendref11_Total.mono_l k; unfold prebendref11_Total.f
 have ih9 := @prebendref01_Add.mono; exact lo
set_option maxHeartbeats 8000000 in
set_option maxRecDepth 100000 in
theorem prebendref11_Total.calls (k : Nat) (A0 : Option Addr) (c0 : Nat) (l0 : List (S60)) (r1 : Int) (r2 : Int) (w : World) (hr0 : Kd.C k60 w A0 l0.length l0) (hc0 : l0.length ≤ c0) (h : prebendref11_Total.f k l0 = some (r1, r2)) :
  Calls Try.prog 34 #[.slice A0 l0.length c0] w fun e w' => e = .returned (.tuple #[.int .i64 r1, .int .i64 r2]) ∧ Below w.heap.size w w' := by
 have HR0 := am hr0; have HC0 := am hc0; clear hr0 hc0; have HB := am (Below.refl w.heap.size w); have H : (prebendref11_Total.l0 k l0 (([] : List Int)) 0) = some (r1, r2) := h; clear h; obtain ⟨y335, hy335⟩ : ∃ y_ : List Int, y_ = (([] : List Int)) := ⟨_, rfl⟩; (first | rw [Option.bind_some, ← hy335] at H | rw [← hy335] at H)
 have Ny335 := am hy335; clear hy335; have H' := am H; clear H
 go_enter Try.func34, Try.ntmps34
 go_wp2_with (first | ((with_reducible refine gate_dst (N := 6) rfl ?_); refine Kd.R_lit (Kd.int .i64) _ 3 ?hg (N := 6) ?hd (xs := ([] : List Int)) (inner := []) (ok := fun _ => True) (okp := fun _ => True) ?hr ?hp (fun _ hk => hk) trivial (Below.refl _ _) (Nat.le_refl _) (by simp) ?_; (case hd => rfl); (case hg => rfl); (case hr => first | (go_simp; done) | (go_simp; rfl)); (case hp => exact (Reps.none _ _)); intro v336 w2 ho3 hb hg_ hnew_; clear hg_ hnew_; (first | rw [← Ny335.out] at ho3 | (simp only [Int.reduceToNat] at ho3; rw [← Ny335.out] at ho3)); have HO337 := am (Kd.R_lower ho3 (below_size HB.out)); replace HB := am (below_step HB.out hb); clear hb ho3))
 go_loopg [4, 5] k (fun kq v4 v5 w' => ∃ (x4_1 : List Int) (x5_1 : Int), v5 = .int .i64 x5_1 ∧ Aside0 (prebendref11_Total.l0 kq l0 x4_1 x5_1 = some (r1, r2)) ∧ Aside0 (kq ≤ k) ∧ Aside0 (Kd.R (Kd.int .i64) 3 w' w.heap.size (fun _ => True) v4 x4_1) ∧ Aside0 (Below w.heap.size w w'))
 case atStart => exact ⟨(y335), (0), sx, H', ⟨Nat.le_refl _⟩, ⟨HO337.out⟩, ⟨HB.out⟩⟩
 case round =>
  clear H'; obtain ⟨x4_1, x5_1, rfl, HA, HK1, HO_4, HB⟩ := hrel
  cases gk with
  | zero => exact absurd HA.out (by simp [prebendref11_Total.l0])
  | succ k1 =>
   have H := HA.out; clear HA; simp only [prebendref11_Total.l0] at H
   by_cases c4 : x5_1 < (l0.length : Int)
   ·rw [if_pos c4] at H
    have c4b0 := decide_eq_true c4; clear c4
    by_cases c5 : 0 ≤ x5_1
    ·rw [if_pos c5] at H
     have c5b0 := decide_eq_true c5; clear c5
     by_cases c6 : x4_1.length < 17592186044416
     ·rw [if_pos c6] at H
      have LMc6 := am c6; clear c6; obtain ⟨y339, hy339⟩ : ∃ y_ : List Int, y_ = (x4_1 ++ [(rd_T60 l0 x5_1).f1]) := ⟨_, rfl⟩; (first | rw [Option.bind_some, ← hy339] at H | rw [← hy339] at H)
      have Ny339 := am hy339; clear hy339; have H' := am H; clear H; have p338 : 0 ≤ (x5_1 : Int) := of_decide_eq_true (by assumption); have q338 : x5_1 < (l0.length : Int) := of_decide_eq_true (by assumption); obtain ⟨ad338, e338, hx338_0, hx338_1⟩ := at_T60 HR0.out x5_1 p338 q338; cases e338; replace hx338_0 := cb HB.out hx338_0; replace hx338_1 := cb HB.out hx338_1; replace p338 := eq_true p338; replace q338 := eq_true q338; go_wp2_with (first | ((with_reducible refine gate_builtin (b := .append) (xs := #[.tmp 13, .tmp 19]) rfl ?_); at_builtin; refine Kd.R_append (Kd.int .i64) (w0 := w) w.heap.size rfl (.tmp 13) (.tmp 19) 40 3 (.int .i64 0) 8 rfl Try.underlying40 info3 rfl (by decide) (by omega) u4 x4_1 ((rd_T60 l0 x5_1).f1) [.int .i64 ((rd_T60 l0 x5_1).f1)] (fun _ => True) (fun _ => False) rfl rfl ?aP (fun _ hk => hk.elim) ?aF ?aO ?aB ?aS ?aL ?_; (case aP => exact rfl); (case aB => exact HB.out); (case aF => exact (fun _ _ => trivial)); (case aO => exact HO_4.out); (case aS => exact (below_size HB.out)); (case aL => have := LMc6.out; omega); intro v340 w7 ho hb hg hat; rw [← Ny339.out] at ho; replace HB := am (hb); have HO341 := am (ho); clear HO_4; clear ho hb hg hat))
      go_roundg k1
      case measure => have := HK1.out; omega
      case rel => exact ⟨(y339), (wrap64 (x5_1 + 1)), sx, H', ⟨by have := HK1.out; omega⟩, ⟨HO341.out⟩, ⟨HB.out⟩⟩
     ·rw [if_neg c6] at H
      exact absurd H (by simp)
    ·rw [if_neg c5] at H
     exact absurd H (by simp)
   ·rw [if_neg c4] at H
    have c4b0 := decide_eq_false c4; clear c4; replace H := Option.bind_eq_some_iff.mp H; obtain ⟨⟨t342, t343⟩, A80, H⟩ := H; have A8 := am A80; clear A80; simp only [Option.some.injEq, Prod.mk.injEq] at H; obtain ⟨rfl, rfl⟩ := H; obtain ⟨Ao9, co9, eo9⟩ := Kd.R_slice HO_4.out; subst eo9; go_wp2_with (first | (refine gl (some 22) Try.func27 #[.slice Ao9 x4_1.length co9] ?_; (with_reducible refine (prebendref01_Add.calls k1 _ _ x4_1 t342 t343 _ ?side1 ?side2 A8.out).mono ?_); (case side1 => repeat (first | exact (Kd.R_reads' HO_4.out).2.2 | (with_reducible refine Kd.C_alloc ?_ _) | (with_reducible refine Kd.C_drewN ?_ _) | (with_reducible refine Kd.C_drew ?_))); (case side2 => exact (Kd.R_reads' HO_4.out).2.1); rintro e w' ⟨rfl, ⟨nd, rfl⟩⟩; refine ⟨_, rfl, ?_⟩))
    go_ret2
    exact ⟨by first | rfl | (simp [*, errW_none, errW_some] <;> rfl), bx⟩

end Go.Proofs.Ytijeigiilgapdaa.QSoundTells
