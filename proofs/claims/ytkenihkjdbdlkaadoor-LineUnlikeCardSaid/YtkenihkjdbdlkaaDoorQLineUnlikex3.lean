/- Written by a program of this session (wip/tools/mp.sh): functions as Lean functions, with proofs that the calls come to what they say. Lean checks it. -/
import Derived.Test.YtkenihkjdbdlkaaDoorQLineUnlikex0
import Derived.Test.YtkenihkjdbdlkaaDoorQLineUnlikex2
namespace Go.Proofs.YtkenihkjdbdlkaaDoor.QLineUnlike
open Go.RowKit Go.Proofs.YtkenihkjdbdlkaaDoorW.PrintWords Go.Proofs.YtkenihkjdbdlkaaDoorW.PrintLast Go.Proofs.YtkenihkjdbdlkaaDoorW.PrintMore
attribute [local go_sem] max2_int min2_int max_two min_two max_three min_three max_four min_four   -- for this text's walks alone
set_option linter.unusedVariables false
set_option linter.unusedSimpArgs false

/-! ### line_Reply: function 16 -/
mutual
def line_Reply.j0 : Nat → ByteArray → Int → Int → Int → Int → Option (ByteArray)
 | 0, _, _, _, _, _ => none
 | k + 1, x3, x135000, x135001, x135002, x135003 => (some (([x135001, x135002, x135003] : List Int) : List Int)).bind fun y136 => (line_Reply.l0 k x3 y136 (y136.length : Int) 0)
def line_Reply.l0 : Nat → ByteArray → List Int → Int → Int → Option (ByteArray)
 | 0, _, _, _, _ => none
 | k + 1, x3, x19, x20, x21 => if x21 < x20 then (if 0 ≤ x21 then (if x21 < (x19.length : Int) then ((strconv_Itoa_34.f (rd x19 x21)).bind fun t140 => (if 1 + t140.size ≤ 9223372036854775807 then (if x3.size + ((⟨#[32]⟩ : ByteArray) ++ t140).size ≤ 9223372036854775807 then (line_Reply.l0 k (x3 ++ ((⟨#[32]⟩ : ByteArray) ++ t140)) x19 x20 (wrap64 (x21 + 1))) else (none)) else (none))) else (none)) else (none)) else (some x3)
end
def line_Reply.f (k : Nat) (a0_0 : Int) (a0_1 : Int) (a0_2 : Int) (a0_3 : Int) : Option (ByteArray) := if a0_0 = 0 then (line_Reply.j0 k (⟨#[111, 107]⟩ : ByteArray) a0_0 a0_1 a0_2 a0_3) else ((strconv_Itoa_34.f a0_0).bind fun t135 => (if 4 + t135.size ≤ 9223372036854775807 then (line_Reply.j0 k ((⟨#[101, 114, 114, 32]⟩ : ByteArray) ++ t135) a0_0 a0_1 a0_2 a0_3) else (none)))
theorem line_Reply.mono_l : ∀ k, (∀ y0 y1 y2 y3 y4, LeO (line_Reply.j0 k y0 y1 y2 y3 y4) (line_Reply.j0 (k + 1) y0 y1 y2 y3 y4)) ∧ (∀ y0 y1 y2 y3, LeO (line_Reply.l0 k y0 y1 y2 y3) (line_Reply.l0 (k + 1) y0 y1 y2 y3))
 | 0 => ⟨fun _ _ _ _ _ r h => by simp [line_Reply.j0] at h, fun _ _ _ _ r h => by simp [line_Reply.l0] at h⟩
 | k + 1 => by
  obtain ⟨ih0, ih1⟩ := line_Reply.mono_l k
  refine ⟨?_, ?_⟩
  ·intro y0 y1 y2 y3 y4
   unfold line_Reply.j0
   repeat' first
   | (with_reducible exact ih0 _ _ _ _ _)
   | (with_reducible exact ih1 _ _ _ _)
   | (with_reducible exact LeO.refl _)
   | (with_reducible exact LeO.none _)
   | (with_reducible refine LeO.ite ?_ ?_)
   | (with_reducible refine LeO.bind ?_ (fun _ => ?_))
   | exact ih0 _ _ _ _ _
   | exact ih1 _ _ _ _
   | exact LeO.none _
   | refine LeO.ite ?_ ?_
   | refine LeO.bind ?_ (fun _ => ?_)
  ·intro y0 y1 y2 y3
   unfold line_Reply.l0
   repeat' first
   | (with_reducible exact ih0 _ _ _ _ _)
   | (with_reducible exact ih1 _ _ _ _)
   | (with_reducible exact LeO.refl _)
   | (with_reducible exact LeO.none _)
   | (with_reducible refine LeO.ite ?_ ?_)
   | (with_reducible refine LeO.bind ?_ (fun _ => ?_))
   | exact ih0 _ _ _ _ _
   | exact ih1 _ _ _ _
   | exact LeO.none _
   | refine LeO.ite ?_ ?_
   | refine LeO.bind ?_ (fun _ => ?_)
theorem line_Reply.mono : ∀ a0 a1 a2 a3 k, LeO (line_Reply.f k a0 a1 a2 a3) (line_Reply.f (k + 1) a0 a1 a2 a3) := by
 intro a0 a1 a2 a3 k
 obtain ⟨ih0, ih1⟩ := line_Reply.mono_l k
 unfold line_Reply.f
 repeat' first
   | (with_reducible exact ih0 _ _ _ _ _)
   | (with_reducible exact ih1 _ _ _ _)
   | (with_reducible exact LeO.refl _)
   | (with_reducible exact LeO.none _)
   | (with_reducible refine LeO.ite ?_ ?_)
   | (with_reducible refine LeO.bind ?_ (fun _ => ?_))
   | exact ih0 _ _ _ _ _
   | exact ih1 _ _ _ _
   | exact LeO.none _
   | refine LeO.ite ?_ ?_
   | refine LeO.bind ?_ (fun _ => ?_)
set_option maxHeartbeats 8000000 in
set_option maxRecDepth 100000 in
theorem line_Reply.calls (k : Nat) (a0_0 : Int) (a0_1 : Int) (a0_2 : Int) (a0_3 : Int) (r : ByteArray) (w : World) (h : line_Reply.f k a0_0 a0_1 a0_2 a0_3 = some r) (hT : XTabs.Tabs w) :
  Calls Tryd.prog 16 #[.agg #[.int .i64 a0_0, .int .i64 a0_1, .int .i64 a0_2, .int .i64 a0_3]] w fun e w' => e = .returned (.string r) ∧ Below w.heap.size w w' := by
 have HT := Aside0.mk hT
 clear hT
 have hu27 := Tryd.underlying27
 have HB := Aside0.mk (Below.refl w.heap.size w)
 have H : (if a0_0 = 0 then (line_Reply.j0 k (⟨#[111, 107]⟩ : ByteArray) a0_0 a0_1 a0_2 a0_3) else ((strconv_Itoa_34.f a0_0).bind fun t135 => (if 4 + t135.size ≤ 9223372036854775807 then (line_Reply.j0 k ((⟨#[101, 114, 114, 32]⟩ : ByteArray) ++ t135) a0_0 a0_1 a0_2 a0_3) else (none)))) = some r := h
 clear h
 have HC2 := Aside0.mk H
 clear H
 go_enter Tryd.func16, Tryd.ntmps16
 go_upto_if 8 with (first | ((with_reducible refine gate_dst (N := 1) rfl ?_); refine box_event ?hg (N := 1) ?hd (cs := #[.int .i64 a0_0, .int .i64 a0_1, .int .i64 a0_2, .int .i64 a0_3]) (t := 27) ?hr ?_; (case hd => rfl); (case hg => rfl); (case hr => first | (go_simp; done) | (go_simp; rfl)); intro gb134 hg w3 hbox hb; have n0_ := Aside0.mk (below_step (by repeat (first | (with_reducible first | exact HB.out | apply below_alloc | apply pw_below_drewN | apply below_drew1) | exact HB.out)) hb); have n1_ := Aside0.mk (hbox); have n2_ := Aside0.mk ((by rw [hg]; exact (below_size (by repeat (first | (with_reducible first | exact HB.out | apply below_alloc | apply pw_below_drewN | apply below_drew1) | exact HB.out))) : w.heap.size ≤ gb134)); have n3_ := Aside0.mk ((by rw [hg]; exact (below_size (by repeat (first | (with_reducible first | exact HB.out | apply below_alloc | apply pw_below_drewN | apply below_drew1) | exact HB.out))) : w.heap.size ≤ gb134)); clear HB; have HB := n0_; have BK134 := n1_; have GW134 := n2_; have GE134 := n3_; clear n0_ n1_ n2_ n3_; clear hb hbox hg; have hcz4_0 : w3.cell? ⟨gb134, 0, none⟩ = some (.int .i64 a0_0) := (blk_cell BK134.out 0).trans rfl; have hcz4_1 : w3.cell? ⟨gb134, 1, none⟩ = some (.int .i64 a0_1) := (blk_cell BK134.out 1).trans rfl; have hcz4_2 : w3.cell? ⟨gb134, 2, none⟩ = some (.int .i64 a0_2) := (blk_cell BK134.out 2).trans rfl; have hcz4_3 : w3.cell? ⟨gb134, 3, none⟩ = some (.int .i64 a0_3) := (blk_cell BK134.out 3).trans rfl; have hfz4_0 := blk_frozen BK134.out 0; have hfz4_1 := blk_frozen BK134.out 1; have hfz4_2 := blk_frozen BK134.out 2; have hfz4_3 := blk_frozen BK134.out 3))
 (try simp only [Act.put, List.setIfInBounds_toArray, List.set_cons_zero, List.set_cons_succ])
 go_cut [3] (fun v3 wc => ∃ (kq : Nat) (x3_1 : ByteArray), v3 = .string x3_1 ∧ Aside0 (line_Reply.j0 kq x3_1 a0_0 a0_1 a0_2 a0_3 = some r) ∧ Aside0 (kq ≤ k) ∧ Aside0 (wc.heap[gb134]? = some (.cells #[.int .i64 a0_0, .int .i64 a0_1, .int .i64 a0_2, .int .i64 a0_3] 27 (0, 0))) ∧ Aside0 (Below w.heap.size w wc))
 case first =>
  have H := HC2.out
  clear HC2
  by_cases c5 : a0_0 = 0
  ·rw [if_pos c5] at H
   have c5b0 : (a0_0 == 0) = true := beq_iff_eq.mpr c5
   have c5b1 : (a0_0 != 0) = false := bne_eq_false_iff_eq.mpr c5
   clear c5
   (first | rw [c5b0] | (simp only [i64_w, i32_w]; rw [c5b0]) | skip)
   have H' := Aside0.mk H
   clear H
   go_wp2
   go_meet
   case rel => exact ⟨_, ((⟨#[111, 107]⟩ : ByteArray)), (by first | rfl | (simp; done) | (simp [*]; done)), H', ⟨by first | omega | exact Nat.le_refl _⟩, ⟨by (with_reducible repeat (first | refine kc ?_ _ | refine kb ?_ | refine ka ?_ _)); exact BK134.out⟩, ⟨by repeat (first | (with_reducible first | exact HB.out | apply below_alloc | apply pw_below_drewN | apply below_drew1 | refine below_set ?_ GE134.out) | exact HB.out)⟩⟩
  ·rw [if_neg c5] at H
   have c5b0 : (a0_0 == 0) = false := beq_eq_false_iff_ne.mpr c5
   have c5b1 : (a0_0 != 0) = true := bne_iff_ne.mpr c5
   (first | rw [c5b0] | (simp only [i64_w, i32_w]; rw [c5b0]) | skip)
   replace H := Option.bind_eq_some_iff.mp H
   obtain ⟨t135, A60, H⟩ := H
   replace H : (if 4 + t135.size ≤ 9223372036854775807 then (line_Reply.j0 k ((⟨#[101, 114, 114, 32]⟩ : ByteArray) ++ t135) a0_0 a0_1 a0_2 a0_3) else (none)) = some r := H
   have A6 := Aside0.mk A60
   clear A60
   by_cases c7 : 4 + t135.size ≤ 9223372036854775807
   ·rw [if_pos c7] at H
    have c7b0 := eq_true c7
    have c7b1 : decide (4 + t135.size ≤ 9223372036854775807) = true := decide_eq_true c7
    try have c7b2 : (9223372036854775807 < 4 + t135.size) = False := eq_false (Nat.not_lt.2 c7)
    have H' := Aside0.mk H
    clear H
    have hcz8_0 : w3.cell? ⟨gb134, 0, none⟩ = some (.int .i64 a0_0) := (blk_cell BK134.out 0).trans rfl
    have hcz8_1 : w3.cell? ⟨gb134, 1, none⟩ = some (.int .i64 a0_1) := (blk_cell BK134.out 1).trans rfl
    have hcz8_2 : w3.cell? ⟨gb134, 2, none⟩ = some (.int .i64 a0_2) := (blk_cell BK134.out 2).trans rfl
    have hcz8_3 : w3.cell? ⟨gb134, 3, none⟩ = some (.int .i64 a0_3) := (blk_cell BK134.out 3).trans rfl
    have hfz8_0 := blk_frozen BK134.out 0
    have hfz8_1 := blk_frozen BK134.out 1
    have hfz8_2 := blk_frozen BK134.out 2
    have hfz8_3 := blk_frozen BK134.out 3
    go_wp2_with (first | ((with_reducible refine gate_callee (f := 34) rfl ?_); refine goesL_ (some 11) rfl rfl Tryd.func34 (by kernel_rfl) rfl #[.int .i64 a0_0] rfl (by (try simp only [List.map_toArray, List.map_cons, List.map_nil]); first | done | rfl) ?_; (with_reducible refine (strconv_Itoa_34.calls a0_0 t135 _ A6.out (XTabs.Tabs.below HT.out (by repeat (first | (with_reducible first | exact HB.out | exact FB.out | exact HB | apply below_alloc | apply pw_below_drewN | apply below_drew1 | refine below_set ?_ (Aside0.out (by assumption))) | exact HB.out | exact FB.out)))).mono ?_); rintro e w9 ⟨rfl, hb⟩; refine ⟨_, rfl, ?_⟩; have n0_ := Aside0.mk (blk_below (g := gb134) (o := .cells #[.int .i64 a0_0, .int .i64 a0_1, .int .i64 a0_2, .int .i64 a0_3] 27 (0, 0)) (by (with_reducible repeat (first | refine kc ?_ _ | refine kb ?_ | refine ka ?_ _)); exact BK134.out) hb); have n1_ := Aside0.mk (below_step (by repeat (first | (with_reducible first | exact HB.out | apply below_alloc | apply pw_below_drewN | apply below_drew1 | refine below_set ?_ GE134.out) | exact HB.out)) hb); clear BK134; clear HB; have BK134 := n0_; have HB := n1_; clear n0_ n1_; (try clear hb); (try clear hb2); (try clear hk); (try clear hi)))
    go_meet
    case rel => exact ⟨_, ((⟨#[101, 114, 114, 32]⟩ : ByteArray) ++ t135), (by first | rfl | (simp; done) | (simp [*]; done)), H', ⟨by first | omega | exact Nat.le_refl _⟩, ⟨by (with_reducible repeat (first | refine kc ?_ _ | refine kb ?_ | refine ka ?_ _)); exact BK134.out⟩, ⟨by repeat (first | (with_reducible first | exact HB.out | apply below_alloc | apply pw_below_drewN | apply below_drew1 | refine below_set ?_ GE134.out) | exact HB.out)⟩⟩
   ·rw [if_neg c7] at H
    exact absurd H (by simp)
 case rest =>
  clear HC2
  try clear c1
  try clear p2
  try clear c3
  try clear c5
  try clear c5b0
  try clear c5b1
  try clear c7
  try clear c7b0
  try clear c7b1
  try clear c7b2
  try clear hcz4_0
  try clear hcz4_1
  try clear hcz4_2
  try clear hcz4_3
  try clear hcz8_0
  try clear hcz8_1
  try clear hcz8_2
  try clear hcz8_3
  try clear hfz4_0
  try clear hfz4_1
  try clear hfz4_2
  try clear hfz4_3
  try clear hfz8_0
  try clear hfz8_1
  try clear hfz8_2
  try clear hfz8_3
  obtain ⟨kq, x3_1, rfl, HA, HJ1, BK134, HB⟩ := hcut
  cases kq with
  | zero => exact absurd HA.out (by simp [line_Reply.j0])
  | succ kj1 =>
   have H := HA.out
   clear HA
   simp only [line_Reply.j0] at H
   obtain ⟨y136, hy136⟩ : ∃ y_ : List Int, y_ = (([a0_1, a0_2, a0_3] : List Int)) := ⟨_, rfl⟩
   replace H : (line_Reply.l0 kj1 x3_1 y136 (y136.length : Int) 0) = some r := by first | (rw [hy136]; with_reducible exact H) | (have H2_ := (Option.bind_some _ _).symm.trans H; rw [hy136]; with_reducible exact H2_) | (have H2_ := (Option.bind_some _ _).symm.trans H; with_reducible exact H2_) | with_reducible exact H | (rw [hy136]; exact H) | exact H
   have Ny136 := Aside0.mk hy136
   clear hy136
   have H' := Aside0.mk H
   clear H
   have hcz10_0 : wc.cell? ⟨gb134, 0, none⟩ = some (.int .i64 a0_0) := (blk_cell BK134.out 0).trans rfl
   have hcz10_1 : wc.cell? ⟨gb134, 1, none⟩ = some (.int .i64 a0_1) := (blk_cell BK134.out 1).trans rfl
   have hcz10_2 : wc.cell? ⟨gb134, 2, none⟩ = some (.int .i64 a0_2) := (blk_cell BK134.out 2).trans rfl
   have hcz10_3 : wc.cell? ⟨gb134, 3, none⟩ = some (.int .i64 a0_3) := (blk_cell BK134.out 3).trans rfl
   have hfz10_0 := blk_frozen BK134.out 0
   have hfz10_1 := blk_frozen BK134.out 1
   have hfz10_2 := blk_frozen BK134.out 2
   have hfz10_3 := blk_frozen BK134.out 3
   go_wp2_with (first | ((with_reducible refine gate_dst (N := 19) rfl ?_); refine Kd.R_lit (Kd.int .i64) _ 3 ?hg (N := 19) ?hd (xs := ([a0_1, a0_2, a0_3] : List Int)) (inner := [.int .i64 a0_1, .int .i64 a0_2, .int .i64 a0_3]) (ok := fun _ => True) (okp := fun _ => True) ?hr ?hp (fun _ hk => hk) trivial (Below.refl _ _) (Nat.le_refl _) (by simp) ?_; (case hd => rfl); (case hg => rfl); (case hr => first | (go_simp; done) | (go_simp; rfl)); (case hp => exact (Reps.one (show Kd.M (Kd.int .i64) _ _ _ a0_1 [.int .i64 a0_1] from rfl) (Reps.one (show Kd.M (Kd.int .i64) _ _ _ a0_2 [.int .i64 a0_2] from rfl) (Reps.one (show Kd.M (Kd.int .i64) _ _ _ a0_3 [.int .i64 a0_3] from rfl) (Reps.none _ _))))); intro v137 w11 ho12 hb hg_ hnew_; clear hg_ hnew_; (first | rw [← Ny136.out] at ho12 | (simp only [Int.reduceToNat] at ho12; rw [← Ny136.out] at ho12)); have n0_ := Aside0.mk (Kd.R_lower ho12 (below_size (by repeat (first | (with_reducible first | exact HB.out | apply below_alloc | apply pw_below_drewN | apply below_drew1 | refine below_set ?_ GE134.out) | exact HB.out)))); have n1_ := Aside0.mk (blk_below (g := gb134) (o := .cells #[.int .i64 a0_0, .int .i64 a0_1, .int .i64 a0_2, .int .i64 a0_3] 27 (0, 0)) (by (with_reducible repeat (first | refine kc ?_ _ | refine kb ?_ | refine ka ?_ _)); exact BK134.out) hb); have n2_ := Aside0.mk (below_step (by repeat (first | (with_reducible first | exact HB.out | apply below_alloc | apply pw_below_drewN | apply below_drew1 | refine below_set ?_ GE134.out) | exact HB.out)) hb); clear BK134; clear HB; have HO138 := n0_; have BK134 := n1_; have HB := n2_; clear n0_ n1_ n2_; clear hb ho12; obtain ⟨Ao13, co13, eo13⟩ := Kd.R_slice HO138.out; subst eo13))
   go_loopg [3, 21] kj1 (fun kq v3 v21 w' => ∃ (x3_2 : ByteArray) (x21_2 : Int), v3 = .string x3_2 ∧ v21 = .int .i64 x21_2 ∧ Aside0 (line_Reply.l0 kq x3_2 y136 (y136.length : Int) x21_2 = some r) ∧ Aside0 (kq ≤ kj1) ∧ Aside0 (Kd.R (Kd.int .i64) 3 w' w.heap.size (fun _ => True) (.slice Ao13 y136.length co13) y136) ∧ Aside0 (w'.heap[gb134]? = some (.cells #[.int .i64 a0_0, .int .i64 a0_1, .int .i64 a0_2, .int .i64 a0_3] 27 (0, 0))) ∧ Aside0 (Below w.heap.size w w'))
   case atStart => exact ⟨(x3_1), (0), (by first | rfl | (simp; done) | (simp [*]; done)), (by first | rfl | (simp; done) | (simp [*]; done)), H', ⟨Nat.le_refl _⟩, ⟨by (with_reducible repeat (first | apply ra | apply rb | apply rc)); exact HO138.out⟩, ⟨by (with_reducible repeat (first | refine kc ?_ _ | refine kb ?_ | refine ka ?_ _)); exact BK134.out⟩, ⟨by repeat (first | (with_reducible first | exact HB.out | apply below_alloc | apply pw_below_drewN | apply below_drew1 | refine below_set ?_ GE134.out) | exact HB.out)⟩⟩
   case round =>
    clear H'
    try clear c1
    try clear p2
    try clear c3
    try clear c5
    try clear c5b0
    try clear c5b1
    try clear c7
    try clear c7b0
    try clear c7b1
    try clear c7b2
    try clear hcz10_0
    try clear hcz10_1
    try clear hcz10_2
    try clear hcz10_3
    try clear hcz4_0
    try clear hcz4_1
    try clear hcz4_2
    try clear hcz4_3
    try clear hcz8_0
    try clear hcz8_1
    try clear hcz8_2
    try clear hcz8_3
    try clear hfz10_0
    try clear hfz10_1
    try clear hfz10_2
    try clear hfz10_3
    try clear hfz4_0
    try clear hfz4_1
    try clear hfz4_2
    try clear hfz4_3
    try clear hfz8_0
    try clear hfz8_1
    try clear hfz8_2
    try clear hfz8_3
    try clear p2
    obtain ⟨x3_2, x21_2, rfl, rfl, HA, HK2, HO_19, BK134, HB⟩ := hrel
    cases gk with
    | zero => exact absurd HA.out (by simp [line_Reply.l0])
    | succ k2 =>
     have H := HA.out
     clear HA
     simp only [line_Reply.l0] at H
     by_cases c14 : x21_2 < (y136.length : Int)
     ·rw [if_pos c14] at H
      have c14b0 : decide (x21_2 < (y136.length : Int)) = true := decide_eq_true c14
      clear c14
      by_cases c15 : 0 ≤ x21_2
      ·rw [if_pos c15] at H
       have c15b0 : decide (0 ≤ x21_2) = true := decide_eq_true c15
       clear c15
       by_cases c16 : x21_2 < (y136.length : Int)
       ·rw [if_pos c16] at H
        have c16b0 : decide (x21_2 < (y136.length : Int)) = true := decide_eq_true c16
        clear c16
        replace H := Option.bind_eq_some_iff.mp H
        obtain ⟨t140, A170, H⟩ := H
        replace H : (if 1 + t140.size ≤ 9223372036854775807 then (if x3_2.size + ((⟨#[32]⟩ : ByteArray) ++ t140).size ≤ 9223372036854775807 then (line_Reply.l0 k2 (x3_2 ++ ((⟨#[32]⟩ : ByteArray) ++ t140)) y136 (y136.length : Int) (wrap64 (x21_2 + 1))) else (none)) else (none)) = some r := H
        have A17 := Aside0.mk A170
        clear A170
        by_cases c18 : 1 + t140.size ≤ 9223372036854775807
        ·rw [if_pos c18] at H
         have c18b0 := eq_true c18
         have c18b1 : decide (1 + t140.size ≤ 9223372036854775807) = true := decide_eq_true c18
         try have c18b2 : (9223372036854775807 < 1 + t140.size) = False := eq_false (Nat.not_lt.2 c18)
         by_cases c19 : x3_2.size + ((⟨#[32]⟩ : ByteArray) ++ t140).size ≤ 9223372036854775807
         ·rw [if_pos c19] at H
          have c19b0 := eq_true c19
          have c19b1 : decide (x3_2.size + ((⟨#[32]⟩ : ByteArray) ++ t140).size ≤ 9223372036854775807) = true := decide_eq_true c19
          try have c19b2 : (9223372036854775807 < x3_2.size + ((⟨#[32]⟩ : ByteArray) ++ t140).size) = False := eq_false (Nat.not_lt.2 c19)
          try have c19b3 : (9223372036854775807 < x3_2.size + (1 + t140.size)) = False := eq_false (by have h_ := c19; (try simp [ByteArray.size_append, ByteArray.size_extract, show (⟨#[32]⟩ : ByteArray).size = 1 from rfl] at h_); omega)
          have H' := Aside0.mk H
          clear H
          have p139 : 0 ≤ (x21_2 : Int) := of_decide_eq_true (by first | (with_reducible assumption) | assumption)
          have q139 : x21_2 < (y136.length : Int) := of_decide_eq_true (by first | (with_reducible assumption) | assumption)
          obtain ⟨ad139, e139, hx139_0⟩ := Kd.at_int (Kd.R_reads' HO_19.out).2.2 x21_2 p139 q139
          cases e139
          replace p139 := eq_true p139
          replace q139 := eq_true q139
          go_wp2_with (first | ((with_reducible refine gate_callee (f := 34) rfl ?_); refine goesL_ (some 27) rfl rfl Tryd.func34 (by kernel_rfl) rfl #[.int .i64 (rd y136 x21_2)] rfl (by (try simp only [List.map_toArray, List.map_cons, List.map_nil]); first | done | rfl) ?_; (with_reducible refine (strconv_Itoa_34.calls (rd y136 x21_2) t140 _ A17.out (XTabs.Tabs.below HT.out (by repeat (first | (with_reducible first | exact HB.out | exact FB.out | exact HB | apply below_alloc | apply pw_below_drewN | apply below_drew1 | refine below_set ?_ (Aside0.out (by assumption))) | exact HB.out | exact FB.out)))).mono ?_); rintro e w20 ⟨rfl, hb⟩; refine ⟨_, rfl, ?_⟩; have n0_ := Aside0.mk (Kd.R_below (by (with_reducible repeat (first | apply ra | apply rb | apply rc)); exact HO_19.out) hb); have n1_ := Aside0.mk (blk_below (g := gb134) (o := .cells #[.int .i64 a0_0, .int .i64 a0_1, .int .i64 a0_2, .int .i64 a0_3] 27 (0, 0)) (by (with_reducible repeat (first | refine kc ?_ _ | refine kb ?_ | refine ka ?_ _)); exact BK134.out) hb); have n2_ := Aside0.mk (below_step (by repeat (first | (with_reducible first | exact HB.out | apply below_alloc | apply pw_below_drewN | apply below_drew1 | refine below_set ?_ GE134.out) | exact HB.out)) hb); clear HO_19; clear BK134; clear HB; have HO_19 := n0_; have BK134 := n1_; have HB := n2_; clear n0_ n1_ n2_; (try clear hb); (try clear hb2); (try clear hk); (try clear hi)))
          go_roundg k2
          case measure => have := HJ1.out; have := HK2.out; omega
          case rel => exact ⟨(x3_2 ++ ((⟨#[32]⟩ : ByteArray) ++ t140)), (wrap64 (x21_2 + 1)), (by first | rfl | (simp; done) | (simp [*]; done)), (by first | rfl | (simp; done) | (simp [*]; done)), H', ⟨by have := HJ1.out; have := HK2.out; omega⟩, ⟨by (with_reducible repeat (first | apply ra | apply rb | apply rc)); exact HO_19.out⟩, ⟨by (with_reducible repeat (first | refine kc ?_ _ | refine kb ?_ | refine ka ?_ _)); exact BK134.out⟩, ⟨by repeat (first | (with_reducible first | exact HB.out | apply below_alloc | apply pw_below_drewN | apply below_drew1 | refine below_set ?_ GE134.out) | exact HB.out)⟩⟩
         ·rw [if_neg c19] at H
          exact absurd H (by simp)
        ·rw [if_neg c18] at H
         exact absurd H (by simp)
       ·rw [if_neg c16] at H
        exact absurd H (by simp)
      ·rw [if_neg c15] at H
       exact absurd H (by simp)
     ·rw [if_neg c14] at H
      have c14b0 : decide (x21_2 < (y136.length : Int)) = false := decide_eq_false c14
      clear c14
      obtain rfl := Option.some.inj H
      go_wp2
      go_ret
      exact ⟨by first | rfl | (simp [errW_none, errW_some] <;> rfl) | (simp [*, errW_none, errW_some] <;> rfl), by repeat (first | (with_reducible first | exact HB.out | apply below_alloc | apply pw_below_drewN | apply below_drew1 | refine below_set ?_ GE134.out) | exact HB.out)⟩

/-! ### text_Words: function 22 -/
abbrev text_Words.f (a0 : ByteArray) : Option (List ByteArray × Int) := XWords.words a0
theorem text_Words.calls (a0 : ByteArray) (r1 : List ByteArray) (r2 : Int) (w : World) (h : text_Words.f a0 = some (r1, r2)) :
  Calls Tryd.prog 22 #[.string a0] w fun e w' => ∃ v0_ : Value, e = .returned (.tuple #[v0_, .int .i64 r2]) ∧ Kd.V Kd.string 9 w' w.heap.size (fun k_ => (w.heap.size ≤ k_)) v0_ r1 ∧ Below w.heap.size w w' := XWords.calls a0 r1 r2 w h

/-! ### text_Number: function 28 -/
abbrev text_Number.f (a0 : ByteArray) : Option (Int × Bool) := XNumber.number a0
theorem text_Number.calls (a0 : ByteArray) (r1 : Int) (r2 : Bool) (w : World) (h : text_Number.f a0 = some (r1, r2)) (hT : XTabs.Tabs w) :
  Calls Tryd.prog 28 #[.string a0] w fun e w' => e = .returned (.tuple #[.int .i64 r1, .bool r2]) ∧ Below w.heap.size w w' := XNumber.calls a0 r1 r2 w h hT

/-! ### line_kind: function 38 -/
def line_kind.l0 : Nat → ByteArray → List ByteArray → Int → Int → Option (Int)
 | 0, _, _, _, _ => none
 | k + 1, x0, x5, x6, x7 => if x7 < x6 then (if 0 ≤ x7 then (if x7 < (x5.length : Int) then (if (rdOf ByteArray.empty x5 x7).toList = x0.toList then (if x0.toList = ([] : List UInt8) then (line_kind.l0 k x0 x5 x6 (wrap64 (x7 + 1))) else (some x7)) else (line_kind.l0 k x0 x5 x6 (wrap64 (x7 + 1)))) else (none)) else (none)) else (some 0)
def line_kind.f (k : Nat) (a0 : ByteArray) : Option (Int) := (line_words.f).bind fun t141 => (line_kind.l0 k a0 t141 (t141.length : Int) 0)
theorem line_kind.mono_l : ∀ k, (∀ y0 y1 y2 y3, LeO (line_kind.l0 k y0 y1 y2 y3) (line_kind.l0 (k + 1) y0 y1 y2 y3))
 | 0 => fun _ _ _ _ r h => by simp [line_kind.l0] at h
 | k + 1 => by
  have ih0 := line_kind.mono_l k
  ·intro y0 y1 y2 y3
   unfold line_kind.l0
   repeat' first
   | (with_reducible exact ih0 _ _ _ _)
   | (with_reducible exact LeO.refl _)
   | (with_reducible exact LeO.none _)
   | (with_reducible refine LeO.ite ?_ ?_)
   | (with_reducible refine LeO.bind ?_ (fun _ => ?_))
   | exact ih0 _ _ _ _
   | exact LeO.none _
   | refine LeO.ite ?_ ?_
   | refine LeO.bind ?_ (fun _ => ?_)
theorem line_kind.mono : ∀ a0 k, LeO (line_kind.f k a0) (line_kind.f (k + 1) a0) := by
 intro a0 k
 have ih0 := line_kind.mono_l k
 unfold line_kind.f
 repeat' first
   | (with_reducible exact ih0 _ _ _ _)
   | (with_reducible exact LeO.refl _)
   | (with_reducible exact LeO.none _)
   | (with_reducible refine LeO.ite ?_ ?_)
   | (with_reducible refine LeO.bind ?_ (fun _ => ?_))
   | exact ih0 _ _ _ _
   | exact LeO.none _
   | refine LeO.ite ?_ ?_
   | refine LeO.bind ?_ (fun _ => ?_)
set_option maxHeartbeats 8000000 in
set_option maxRecDepth 100000 in
theorem line_kind.calls (k : Nat) (a0 : ByteArray) (r : Int) (w : World) (h : line_kind.f k a0 = some r) :
  Calls Tryd.prog 38 #[.string a0] w fun e w' => e = .returned (.int .i64 r) ∧ Below w.heap.size w w' := by
 have HB := Aside0.mk (Below.refl w.heap.size w)
 have H : ((line_words.f).bind fun t141 => (line_kind.l0 k a0 t141 (t141.length : Int) 0)) = some r := h
 clear h
 replace H := Option.bind_eq_some_iff.mp H
 obtain ⟨t141, A20, H⟩ := H
 replace H : (line_kind.l0 k a0 t141 (t141.length : Int) 0) = some r := H
 have A2 := Aside0.mk A20
 clear A20
 have H' := Aside0.mk H
 clear H
 go_enter Tryd.func38, Tryd.ntmps38
 go_wp2_with (first | ((with_reducible refine gate_callee (f := 33) rfl ?_); refine goesL_ (some 5) rfl rfl Tryd.func33 (by kernel_rfl) rfl #[] rfl (by (try simp only [List.map_toArray, List.map_cons, List.map_nil]); first | done | rfl) ?_; (with_reducible refine (line_words.calls  t141 _ A2.out).mono ?_); rintro e w3 ⟨v142, rfl, ho0, hb⟩; refine ⟨_, rfl, ?_⟩; have n0_ := Aside0.mk (Kd.R_lower ho0 (below_size (by repeat (first | (with_reducible first | exact HB.out | apply below_alloc | apply pw_below_drewN | apply below_drew1) | exact HB.out)))); have n1_ := Aside0.mk (below_step (by repeat (first | (with_reducible first | exact HB.out | apply below_alloc | apply pw_below_drewN | apply below_drew1) | exact HB.out)) hb); clear HB; have HO143 := n0_; have HB := n1_; clear n0_ n1_; (try clear hb); (try clear hb2); (try clear hk); (try clear hi); (try clear ho0); obtain ⟨Ao4, co4, eo4⟩ := Kd.R_slice HO143.out; subst eo4))
 go_loopg [7] k (fun kq v7 w' => ∃ (x7_1 : Int), v7 = .int .i64 x7_1 ∧ Aside0 (line_kind.l0 kq a0 t141 (t141.length : Int) x7_1 = some r) ∧ Aside0 (kq ≤ k) ∧ Aside0 (Kd.R Kd.string 9 w' w.heap.size (fun _ => True) (.slice Ao4 t141.length co4) t141) ∧ Aside0 (Below w.heap.size w w'))
 case atStart => exact ⟨(0), (by first | rfl | (simp; done) | (simp [*]; done)), H', ⟨Nat.le_refl _⟩, ⟨by (with_reducible repeat (first | apply ra | apply rb | apply rc)); exact HO143.out⟩, ⟨by repeat (first | (with_reducible first | exact HB.out | apply below_alloc | apply pw_below_drewN | apply below_drew1) | exact HB.out)⟩⟩
 case round =>
  clear H'
  try clear p2
  try clear c3
  obtain ⟨x7_1, rfl, HA, HK1, HO_5, HB⟩ := hrel
  cases gk with
  | zero => exact absurd HA.out (by simp [line_kind.l0])
  | succ k1 =>
   have H := HA.out
   clear HA
   simp only [line_kind.l0] at H
   by_cases c5 : x7_1 < (t141.length : Int)
   ·rw [if_pos c5] at H
    have c5b0 : decide (x7_1 < (t141.length : Int)) = true := decide_eq_true c5
    clear c5
    by_cases c6 : 0 ≤ x7_1
    ·rw [if_pos c6] at H
     have c6b0 : decide (0 ≤ x7_1) = true := decide_eq_true c6
     clear c6
     by_cases c7 : x7_1 < (t141.length : Int)
     ·rw [if_pos c7] at H
      have c7b0 : decide (x7_1 < (t141.length : Int)) = true := decide_eq_true c7
      clear c7
      by_cases c8 : (rdOf ByteArray.empty t141 x7_1).toList = a0.toList
      ·rw [if_pos c8] at H
       have c8b0 : ((rdOf ByteArray.empty t141 x7_1).toList == a0.toList) = true := beq_iff_eq.mpr c8
       have c8b1 : ((rdOf ByteArray.empty t141 x7_1).toList != a0.toList) = false := bne_eq_false_iff_eq.mpr c8
       clear c8
       by_cases c9 : a0.toList = ([] : List UInt8)
       ·rw [if_pos c9] at H
        have c9b0 : (a0.toList == ([] : List UInt8)) = true := beq_iff_eq.mpr c9
        have c9e0 : (a0).toList.isEmpty = true := by cases h_ : (a0).toList with | nil => (first | rfl | (rw [h_] at c9b0; cases c9b0)) | cons => (first | rfl | (rw [h_] at c9b0; cases c9b0))
        have c9e1 : (!(a0).toList.isEmpty) = false := by rw [c9e0]; rfl
        have c9e2 : ¬ ((!(a0).toList.isEmpty) = true) := by rw [c9e1]; decide
        have c9b1 : (a0.toList != ([] : List UInt8)) = false := bne_eq_false_iff_eq.mpr c9
        clear c9
        have H' := Aside0.mk H
        clear H
        have p144 : 0 ≤ (x7_1 : Int) := of_decide_eq_true (by first | (with_reducible assumption) | assumption)
        have q144 : x7_1 < (t141.length : Int) := of_decide_eq_true (by first | (with_reducible assumption) | assumption)
        obtain ⟨ad144, e144, hx144_0⟩ := Kd.at_string (Kd.R_reads' HO_5.out).2.2 x7_1 p144 q144
        cases e144
        replace p144 := eq_true p144
        replace q144 := eq_true q144
        go_wp2
        go_roundg k1
        case measure => have := HK1.out; omega
        case rel => exact ⟨(wrap64 (x7_1 + 1)), (by first | rfl | (simp; done) | (simp [*]; done)), H', ⟨by have := HK1.out; omega⟩, ⟨by (with_reducible repeat (first | apply ra | apply rb | apply rc)); exact HO_5.out⟩, ⟨by repeat (first | (with_reducible first | exact HB.out | apply below_alloc | apply pw_below_drewN | apply below_drew1) | exact HB.out)⟩⟩
       ·rw [if_neg c9] at H
        have c9b0 : (a0.toList == ([] : List UInt8)) = false := beq_eq_false_iff_ne.mpr c9
        have c9e0 : (a0).toList.isEmpty = false := by cases h_ : (a0).toList with | nil => (first | rfl | (rw [h_] at c9b0; cases c9b0)) | cons => (first | rfl | (rw [h_] at c9b0; cases c9b0))
        have c9e1 : (!(a0).toList.isEmpty) = true := by rw [c9e0]; rfl
        have c9e2 : ¬ ((!(a0).toList.isEmpty) = false) := by rw [c9e1]; decide
        have c9b1 : (a0.toList != ([] : List UInt8)) = true := bne_iff_ne.mpr c9
        obtain rfl := Option.some.inj H
        have p144 : 0 ≤ (x7_1 : Int) := of_decide_eq_true (by first | (with_reducible assumption) | assumption)
        have q144 : x7_1 < (t141.length : Int) := of_decide_eq_true (by first | (with_reducible assumption) | assumption)
        obtain ⟨ad144, e144, hx144_0⟩ := Kd.at_string (Kd.R_reads' HO_5.out).2.2 x7_1 p144 q144
        cases e144
        replace p144 := eq_true p144
        replace q144 := eq_true q144
        go_wp2
        go_ret
        exact ⟨by first | rfl | (simp [errW_none, errW_some] <;> rfl) | (simp [*, errW_none, errW_some] <;> rfl), by repeat (first | (with_reducible first | exact HB.out | apply below_alloc | apply pw_below_drewN | apply below_drew1) | exact HB.out)⟩
      ·rw [if_neg c8] at H
       have c8b0 : ((rdOf ByteArray.empty t141 x7_1).toList == a0.toList) = false := beq_eq_false_iff_ne.mpr c8
       have c8b1 : ((rdOf ByteArray.empty t141 x7_1).toList != a0.toList) = true := bne_iff_ne.mpr c8
       have H' := Aside0.mk H
       clear H
       have p144 : 0 ≤ (x7_1 : Int) := of_decide_eq_true (by first | (with_reducible assumption) | assumption)
       have q144 : x7_1 < (t141.length : Int) := of_decide_eq_true (by first | (with_reducible assumption) | assumption)
       obtain ⟨ad144, e144, hx144_0⟩ := Kd.at_string (Kd.R_reads' HO_5.out).2.2 x7_1 p144 q144
       cases e144
       replace p144 := eq_true p144
       replace q144 := eq_true q144
       go_wp2
       go_roundg k1
       case measure => have := HK1.out; omega
       case rel => exact ⟨(wrap64 (x7_1 + 1)), (by first | rfl | (simp; done) | (simp [*]; done)), H', ⟨by have := HK1.out; omega⟩, ⟨by (with_reducible repeat (first | apply ra | apply rb | apply rc)); exact HO_5.out⟩, ⟨by repeat (first | (with_reducible first | exact HB.out | apply below_alloc | apply pw_below_drewN | apply below_drew1) | exact HB.out)⟩⟩
     ·rw [if_neg c7] at H
      exact absurd H (by simp)
    ·rw [if_neg c6] at H
     exact absurd H (by simp)
   ·rw [if_neg c5] at H
    have c5b0 : decide (x7_1 < (t141.length : Int)) = false := decide_eq_false c5
    clear c5
    obtain rfl := Option.some.inj H
    go_wp2
    go_ret
    exact ⟨by first | rfl | (simp [errW_none, errW_some] <;> rfl) | (simp [*, errW_none, errW_some] <;> rfl), by repeat (first | (with_reducible first | exact HB.out | apply below_alloc | apply pw_below_drewN | apply below_drew1) | exact HB.out)⟩

/-! ### line_named: function 39 -/
def line_named.f (l0 : List ByteArray) (a1 : ByteArray) : Option (ByteArray × List ByteArray) := if (l0.length : Int) < 2 then (some ((⟨#[]⟩ : ByteArray), l0)) else (if 0 < (l0.length : Int) then (if (rdOf ByteArray.empty l0 0).toList = a1.toList then (if 1 < (l0.length : Int) then (if (rdOf ByteArray.empty l0 1).toList = ([] : List UInt8) then (some ((⟨#[]⟩ : ByteArray), l0)) else (if 2 ≤ (l0.length : Int) then (some (rdOf ByteArray.empty l0 1, (l0.drop 2))) else (none))) else (none)) else (some ((⟨#[]⟩ : ByteArray), l0))) else (none))
set_option maxHeartbeats 8000000 in
set_option maxRecDepth 100000 in
theorem line_named.calls (P0_ : Nat → Prop) (A0 : Option Addr) (c0 : Nat) (l0 : List ByteArray) (a1 : ByteArray) (r1 : ByteArray) (r2 : List ByteArray) (w : World) (hs0 : Kd.V Kd.string 9 w w.heap.size (fun k_ => P0_ k_) (.slice A0 l0.length c0) l0) (h : line_named.f l0 a1 = some (r1, r2)) :
  Calls Tryd.prog 39 #[.slice A0 l0.length c0, .string a1] w fun e w' => ∃ v1_ : Value, e = .returned (.tuple #[.string r1, v1_]) ∧ Kd.V Kd.string 9 w' w.heap.size (fun k_ => (P0_ k_ ∨ w.heap.size ≤ k_)) v1_ r2 ∧ Below w.heap.size w w' := by
 have HO0 := Aside0.mk (show Kd.V Kd.string 9 w w.heap.size (fun k_ => (P0_ k_ ∨ w.heap.size ≤ k_)) (.slice A0 l0.length c0) l0 from Kd.V_mono hs0 (fun k_ hk => .inl hk))
 have HB := Aside0.mk (Below.refl w.heap.size w)
 have H : (if (l0.length : Int) < 2 then (some ((⟨#[]⟩ : ByteArray), l0)) else (if 0 < (l0.length : Int) then (if (rdOf ByteArray.empty l0 0).toList = a1.toList then (if 1 < (l0.length : Int) then (if (rdOf ByteArray.empty l0 1).toList = ([] : List UInt8) then (some ((⟨#[]⟩ : ByteArray), l0)) else (if 2 ≤ (l0.length : Int) then (some (rdOf ByteArray.empty l0 1, (l0.drop 2))) else (none))) else (none)) else (some ((⟨#[]⟩ : ByteArray), l0))) else (none))) = some (r1, r2) := h
 clear h
 by_cases c3 : (l0.length : Int) < 2
 ·rw [if_pos c3] at H
  have c3b0 : decide ((l0.length : Int) < 2) = true := decide_eq_true c3
  have c3b1 : decide (l0.length < 2) = true := decide_eq_true (by omega)
  clear c3
  simp only [Option.some.injEq, Prod.mk.injEq] at H
  obtain ⟨rfl, rfl⟩ := H
  go_enter Tryd.func39, Tryd.ntmps39
  go_wp2
  repeat (go_quiet (fail); try go_wp2)
  go_ret2
  exact ⟨_, by first | rfl | (simp [errW_none, errW_some] <;> rfl) | (simp [*, errW_none, errW_some] <;> rfl), by (with_reducible repeat (first | apply va | apply vb | apply vc)); exact HO0.out, by repeat (first | (with_reducible first | exact HB.out | apply below_alloc | apply pw_below_drewN | apply below_drew1) | exact HB.out)⟩
 ·rw [if_neg c3] at H
  have c3b0 : decide ((l0.length : Int) < 2) = false := decide_eq_false c3
  have c3b1 : decide (l0.length < 2) = false := decide_eq_false (by omega)
  clear c3
  by_cases c4 : 0 < (l0.length : Int)
  ·rw [if_pos c4] at H
   have c4b0 : decide (0 < (l0.length : Int)) = true := decide_eq_true c4
   have c4b1 : decide (0 < l0.length) = true := decide_eq_true (by omega)
   clear c4
   by_cases c5 : (rdOf ByteArray.empty l0 0).toList = a1.toList
   ·rw [if_pos c5] at H
    have c5b0 : ((rdOf ByteArray.empty l0 0).toList == a1.toList) = true := beq_iff_eq.mpr c5
    have c5b1 : ((rdOf ByteArray.empty l0 0).toList != a1.toList) = false := bne_eq_false_iff_eq.mpr c5
    clear c5
    by_cases c6 : 1 < (l0.length : Int)
    ·rw [if_pos c6] at H
     have c6b0 : decide (1 < (l0.length : Int)) = true := decide_eq_true c6
     have c6b1 : decide (1 < l0.length) = true := decide_eq_true (by omega)
     clear c6
     by_cases c7 : (rdOf ByteArray.empty l0 1).toList = ([] : List UInt8)
     ·rw [if_pos c7] at H
      have c7b0 : ((rdOf ByteArray.empty l0 1).toList == ([] : List UInt8)) = true := beq_iff_eq.mpr c7
      have c7e0 : ((rdOf ByteArray.empty l0 1)).toList.isEmpty = true := by cases h_ : ((rdOf ByteArray.empty l0 1)).toList with | nil => (first | rfl | (rw [h_] at c7b0; cases c7b0)) | cons => (first | rfl | (rw [h_] at c7b0; cases c7b0))
      have c7e1 : (!((rdOf ByteArray.empty l0 1)).toList.isEmpty) = false := by rw [c7e0]; rfl
      have c7e2 : ¬ ((!((rdOf ByteArray.empty l0 1)).toList.isEmpty) = true) := by rw [c7e1]; decide
      have c7b1 : ((rdOf ByteArray.empty l0 1).toList != ([] : List UInt8)) = false := bne_eq_false_iff_eq.mpr c7
      clear c7
      simp only [Option.some.injEq, Prod.mk.injEq] at H
      obtain ⟨rfl, rfl⟩ := H
      have p145 : 0 ≤ (0 : Int) := (by omega)
      have q145 : 0 < (l0.length : Int) := of_decide_eq_true (by first | (with_reducible assumption) | assumption)
      obtain ⟨ad145, e145, hx145_0⟩ := Kd.at_string (Kd.V_reads' HO0.out).2.2 0 p145 q145
      cases e145
      have qi145 : (0 < l0.length) = True := eq_true (by omega)
      (try rw [show ((0 : Int)).toNat = 0 from rfl] at hx145_0)
      (try rw [Addr.add_zero'] at hx145_0)
      replace p145 := eq_true p145
      replace q145 := eq_true q145
      have p146 : 0 ≤ (1 : Int) := (by omega)
      have q146 : 1 < (l0.length : Int) := of_decide_eq_true (by first | (with_reducible assumption) | assumption)
      obtain ⟨ad146, e146, hx146_0⟩ := Kd.at_string (Kd.V_reads' HO0.out).2.2 1 p146 q146
      obtain rfl : ad145 = ad146 := (by injection e146)
      (try simp only [show (1 : Int).toNat = 1 from rfl, Nat.reduceMul, Nat.reduceEqDiff, Go.Addr.add, ↓reduceIte] at hx146_0)
      have qi146 : (1 < l0.length) = True := eq_true (by omega)
      (try rw [show ((1 : Int)).toNat = 1 from rfl] at hx146_0)
      replace p146 := eq_true p146
      replace q146 := eq_true q146
      go_enter Tryd.func39, Tryd.ntmps39
      go_wp2
      repeat (go_quiet (fail); try go_wp2)
      go_ret2
      exact ⟨_, by first | rfl | (simp [errW_none, errW_some] <;> rfl) | (simp [*, errW_none, errW_some] <;> rfl), by (with_reducible repeat (first | apply va | apply vb | apply vc)); exact HO0.out, by repeat (first | (with_reducible first | exact HB.out | apply below_alloc | apply pw_below_drewN | apply below_drew1) | exact HB.out)⟩
     ·rw [if_neg c7] at H
      have c7b0 : ((rdOf ByteArray.empty l0 1).toList == ([] : List UInt8)) = false := beq_eq_false_iff_ne.mpr c7
      have c7e0 : ((rdOf ByteArray.empty l0 1)).toList.isEmpty = false := by cases h_ : ((rdOf ByteArray.empty l0 1)).toList with | nil => (first | rfl | (rw [h_] at c7b0; cases c7b0)) | cons => (first | rfl | (rw [h_] at c7b0; cases c7b0))
      have c7e1 : (!((rdOf ByteArray.empty l0 1)).toList.isEmpty) = true := by rw [c7e0]; rfl
      have c7e2 : ¬ ((!((rdOf ByteArray.empty l0 1)).toList.isEmpty) = false) := by rw [c7e1]; decide
      have c7b1 : ((rdOf ByteArray.empty l0 1).toList != ([] : List UInt8)) = true := bne_iff_ne.mpr c7
      by_cases c8 : 2 ≤ (l0.length : Int)
      ·rw [if_pos c8] at H
       have c8b0 := eq_true c8
       have c8b1 : decide (2 ≤ (l0.length : Int)) = true := decide_eq_true c8
       clear c8
       obtain ⟨y148, hy148⟩ : ∃ y_ : List ByteArray, y_ = (l0.drop 2) := ⟨_, rfl⟩
       replace H : (some (rdOf ByteArray.empty l0 1, y148)) = some (r1, r2) := by first | (rw [hy148]; with_reducible exact H) | (have H2_ := (Option.bind_some _ _).symm.trans H; rw [hy148]; with_reducible exact H2_) | (have H2_ := (Option.bind_some _ _).symm.trans H; with_reducible exact H2_) | with_reducible exact H | (rw [hy148]; exact H) | exact H
       have Ny148 := Aside0.mk hy148
       clear hy148
       simp only [Option.some.injEq, Prod.mk.injEq] at H
       obtain ⟨rfl, rfl⟩ := H
       have p145 : 0 ≤ (0 : Int) := (by omega)
       have q145 : 0 < (l0.length : Int) := of_decide_eq_true (by first | (with_reducible assumption) | assumption)
       obtain ⟨ad145, e145, hx145_0⟩ := Kd.at_string (Kd.V_reads' HO0.out).2.2 0 p145 q145
       cases e145
       have qi145 : (0 < l0.length) = True := eq_true (by omega)
       (try rw [show ((0 : Int)).toNat = 0 from rfl] at hx145_0)
       (try rw [Addr.add_zero'] at hx145_0)
       replace p145 := eq_true p145
       replace q145 := eq_true q145
       have p146 : 0 ≤ (1 : Int) := (by omega)
       have q146 : 1 < (l0.length : Int) := of_decide_eq_true (by first | (with_reducible assumption) | assumption)
       obtain ⟨ad146, e146, hx146_0⟩ := Kd.at_string (Kd.V_reads' HO0.out).2.2 1 p146 q146
       obtain rfl : ad145 = ad146 := (by injection e146)
       (try simp only [show (1 : Int).toNat = 1 from rfl, Nat.reduceMul, Nat.reduceEqDiff, Go.Addr.add, ↓reduceIte] at hx146_0)
       have qi146 : (1 < l0.length) = True := eq_true (by omega)
       (try rw [show ((1 : Int)).toNat = 1 from rfl] at hx146_0)
       replace p146 := eq_true p146
       replace q146 := eq_true q146
       have p147 : 0 ≤ (1 : Int) := (by omega)
       have q147 : 1 < (l0.length : Int) := of_decide_eq_true (by first | (with_reducible assumption) | assumption)
       obtain ⟨ad147, e147, hx147_0⟩ := Kd.at_string (Kd.V_reads' HO0.out).2.2 1 p147 q147
       obtain rfl : ad145 = ad147 := (by injection e147)
       (try simp only [show (1 : Int).toNat = 1 from rfl, Nat.reduceMul, Nat.reduceEqDiff, Go.Addr.add, ↓reduceIte] at hx147_0)
       have qi147 : (1 < l0.length) = True := eq_true (by omega)
       (try rw [show ((1 : Int)).toNat = 1 from rfl] at hx147_0)
       replace p147 := eq_true p147
       replace q147 := eq_true q147
       have q9 : (2 : Int) ≤ ((l0.length : Int) : Int) := of_decide_eq_true (by first | (with_reducible assumption) | assumption)
       obtain ⟨i09, hi09, _, hsz9, _⟩ := info_parts info9
       have hroom9 : l0.length ≤ c0 := (Kd.V_reads' HO0.out).2.1
       have hC9 : Kd.F Kd.string _ _ (some ad145) l0.length l0 := (Kd.V_at (base := w.heap.size) HO0.out).2.2
       have hcut9 := cut_from (P := Tryd.prog) 45 9 .i64 Tryd.underlying45 hi09 1 hsz9 (some ad145) l0.length c0 2 (by omega) q9
       have hr9 := Kd.F_cut (m := (2 : Int).toNat) (c := c0) hC9 (by omega) hroom9
       obtain ⟨A9, hA9⟩ : ∃ A1, A1 = (if c0 = (2 : Int).toNat then (some ad145) else ((some ad145) : Option Addr).map (·.add ((2 : Int).toNat * 1))) := ⟨_, rfl⟩
       obtain ⟨c9, hc9⟩ : ∃ c1, c1 = c0 - (2 : Int).toNat := ⟨_, rfl⟩
       have hy9 : y148.length = l0.length - (2 : Int).toNat := (by rw [Ny148.out, List.length_drop] <;> omega)
       rw [show (l0).drop (2 : Int).toNat = y148 from Ny148.out.symm] at hr9
       replace hr9 : Kd.F Kd.string _ _ A9 y148.length y148 := (by rw [hA9]; exact hr9)
       rw [← hy9, ← hA9, ← hc9] at hcut9
       have HO152 := Aside0.mk (show Kd.V Kd.string 9 _ w.heap.size _ (.slice A9 y148.length c9) y148 from Kd.V_mk (by rw [hy9, hc9]; exact Nat.sub_le_sub_right hroom9 _) hr9)
       have HC152 := Aside0.mk (show y148.length ≤ c9 from by rw [hy9, hc9]; exact Nat.sub_le_sub_right hroom9 _)
       clear hr9 hC9 hroom9 hi09 hsz9 hc9
       have KY9 := Aside0.mk hy9
       have KA9 := Aside0.mk hA9
       clear hy9 hA9
       replace q9 := eq_true q9
       go_enter Tryd.func39, Tryd.ntmps39
       go_wp2
       repeat (go_quiet (fail); try go_wp2)
       go_ret2
       exact ⟨_, by first | rfl | (simp [errW_none, errW_some] <;> rfl) | (simp [*, errW_none, errW_some] <;> rfl), by (with_reducible repeat (first | apply va | apply vb | apply vc)); exact HO152.out, by repeat (first | (with_reducible first | exact HB.out | apply below_alloc | apply pw_below_drewN | apply below_drew1) | exact HB.out)⟩
      ·rw [if_neg c8] at H
       exact absurd H (by simp)
    ·rw [if_neg c6] at H
     exact absurd H (by simp)
   ·rw [if_neg c5] at H
    have c5b0 : ((rdOf ByteArray.empty l0 0).toList == a1.toList) = false := beq_eq_false_iff_ne.mpr c5
    have c5b1 : ((rdOf ByteArray.empty l0 0).toList != a1.toList) = true := bne_iff_ne.mpr c5
    simp only [Option.some.injEq, Prod.mk.injEq] at H
    obtain ⟨rfl, rfl⟩ := H
    have p145 : 0 ≤ (0 : Int) := (by omega)
    have q145 : 0 < (l0.length : Int) := of_decide_eq_true (by first | (with_reducible assumption) | assumption)
    obtain ⟨ad145, e145, hx145_0⟩ := Kd.at_string (Kd.V_reads' HO0.out).2.2 0 p145 q145
    cases e145
    have qi145 : (0 < l0.length) = True := eq_true (by omega)
    (try rw [show ((0 : Int)).toNat = 0 from rfl] at hx145_0)
    (try rw [Addr.add_zero'] at hx145_0)
    replace p145 := eq_true p145
    replace q145 := eq_true q145
    go_enter Tryd.func39, Tryd.ntmps39
    go_wp2
    repeat (go_quiet (fail); try go_wp2)
    go_ret2
    exact ⟨_, by first | rfl | (simp [errW_none, errW_some] <;> rfl) | (simp [*, errW_none, errW_some] <;> rfl), by (with_reducible repeat (first | apply va | apply vb | apply vc)); exact HO0.out, by repeat (first | (with_reducible first | exact HB.out | apply below_alloc | apply pw_below_drewN | apply below_drew1) | exact HB.out)⟩
  ·rw [if_neg c4] at H
   exact absurd H (by simp)

end Go.Proofs.YtkenihkjdbdlkaaDoor.QLineUnlike
