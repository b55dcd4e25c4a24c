/- Written by a program of this session (wip/tools/mp.sh): functions as Lean functions, with proofs that the calls come to what they say. Lean checks it. -/
import Derived.Test.YtkenihkjdbdlkaaDoorQLineUnlikex0
import Derived.Test.YtkenihkjdbdlkaaDoorQLineUnlikex3
namespace Go.Proofs.YtkenihkjdbdlkaaDoor.QLineUnlike
open Go.RowKit Go.Proofs.YtkenihkjdbdlkaaDoorW.PrintWords Go.Proofs.YtkenihkjdbdlkaaDoorW.PrintLast Go.Proofs.YtkenihkjdbdlkaaDoorW.PrintMore
attribute [local go_sem] max2_int min2_int max_two min_two max_three min_three max_four min_four   -- for this text's walks alone
set_option linter.unusedVariables false
set_option linter.unusedSimpArgs false

/-! ### line_Parse: function 18 -/
mutual
def line_Parse.j0 : Nat → List ByteArray → Bool → Option (Int × ByteArray × ByteArray × List Int × Int)
 | 0, _, _ => none
 | k + 1, x4, x27 => if x27 = true then (some (0, (⟨#[]⟩ : ByteArray), (⟨#[]⟩ : ByteArray), ([] : List Int), 11)) else (if 0 < (x4.length : Int) then ((line_kind.f k (rdOf ByteArray.empty x4 0)).bind fun t161 => (if 1 ≤ (x4.length : Int) then (line_Parse.l0 k (x4.drop 1) t161 (⟨#[]⟩ : ByteArray) (⟨#[]⟩ : ByteArray) ([] : List Int)) else (none))) else (none))
def line_Parse.j2 : Nat → List ByteArray → Int → ByteArray → ByteArray → List Int → Option (Int × ByteArray × ByteArray × List Int × Int)
 | 0, _, _, _, _, _ => none
 | k + 1, x4, x163000, x163001, x163002, x163003 => (line_named.f x4 (⟨#[110, 97, 109, 101]⟩ : ByteArray)).bind fun bt179 => ((line_named.f bt179.2 (⟨#[107, 101, 121]⟩ : ByteArray)).bind fun bt183 => (if (bt183.2.length : Int) > 0 then (some (0, (⟨#[]⟩ : ByteArray), (⟨#[]⟩ : ByteArray), ([] : List Int), 11)) else (some (x163000, bt183.1, bt179.1, x163003, 0))))
def line_Parse.l0 : Nat → List ByteArray → Int → ByteArray → ByteArray → List Int → Option (Int × ByteArray × ByteArray × List Int × Int)
 | 0, _, _, _, _, _ => none
 | k + 1, x4, x163000, x163001, x163002, x163003 => if (x4.length : Int) > 0 then (if 0 < (x4.length : Int) then ((text_Number.f (rdOf ByteArray.empty x4 0)).bind fun bt169 => (if bt169.2 = true then (if x163003.length < 17592186044416 then (if 1 ≤ (x4.length : Int) then (line_Parse.l0 k (x4.drop 1) x163000 x163001 x163002 (x163003 ++ [bt169.1])) else (none)) else (none)) else (line_Parse.j2 k x4 x163000 x163001 x163002 x163003))) else (none)) else (line_Parse.j2 k x4 x163000 x163001 x163002 x163003)
end
def line_Parse.f (k : Nat) (a0 : ByteArray) : Option (Int × ByteArray × ByteArray × List Int × Int) := (text_Words.f a0).bind fun bt154 => (if bt154.2 = 0 then (if (bt154.1.length : Int) = 0 then (line_Parse.j0 k bt154.1 true) else (if 0 < (bt154.1.length : Int) then ((line_kind.f k (rdOf ByteArray.empty bt154.1 0)).bind fun t159 => (line_Parse.j0 k bt154.1 (t159 == 0))) else (none))) else (line_Parse.j0 k bt154.1 true))
theorem line_Parse.mono_l : ∀ k, (∀ y0 y1, LeO (line_Parse.j0 k y0 y1) (line_Parse.j0 (k + 1) y0 y1)) ∧ (∀ y0 y1 y2 y3 y4, LeO (line_Parse.j2 k y0 y1 y2 y3 y4) (line_Parse.j2 (k + 1) y0 y1 y2 y3 y4)) ∧ (∀ y0 y1 y2 y3 y4, LeO (line_Parse.l0 k y0 y1 y2 y3 y4) (line_Parse.l0 (k + 1) y0 y1 y2 y3 y4))
 | 0 => ⟨fun _ _ r h => by simp [line_Parse.j0] at h, fun _ _ _ _ _ r h => by simp [line_Parse.j2] at h, fun _ _ _ _ _ r h => by simp [line_Parse.l0] at h⟩
 | k + 1 => by
  obtain ⟨ih0, ih1, ih2⟩ := line_Parse.mono_l k
  refine ⟨?_, ?_, ?_⟩
  ·intro y0 y1
   unfold line_Parse.j0
   repeat' first
   | (with_reducible exact ih0 _ _)
   | (with_reducible exact ih1 _ _ _ _ _)
   | (with_reducible exact ih2 _ _ _ _ _)
   | (with_reducible exact line_kind.mono _ _)
   | (with_reducible exact LeO.refl _)
   | (with_reducible exact LeO.none _)
   | (with_reducible refine LeO.ite ?_ ?_)
   | (with_reducible refine LeO.bind ?_ (fun _ => ?_))
   | exact ih0 _ _
   | exact ih1 _ _ _ _ _
   | exact ih2 _ _ _ _ _
   | exact line_kind.mono _ _
   | exact LeO.none _
   | refine LeO.ite ?_ ?_
   | refine LeO.bind ?_ (fun _ => ?_)
  ·intro y0 y1 y2 y3 y4
   unfold line_Parse.j2
   repeat' first
   | (with_reducible exact ih0 _ _)
   | (with_reducible exact ih1 _ _ _ _ _)
   | (with_reducible exact ih2 _ _ _ _ _)
   | (with_reducible exact line_kind.mono _ _)
   | (with_reducible exact LeO.refl _)
   | (with_reducible exact LeO.none _)
   | (with_reducible refine LeO.ite ?_ ?_)
   | (with_reducible refine LeO.bind ?_ (fun _ => ?_))
   | exact ih0 _ _
   | exact ih1 _ _ _ _ _
   | exact ih2 _ _ _ _ _
   | exact line_kind.mono _ _
   | exact LeO.none _
   | refine LeO.ite ?_ ?_
   | refine LeO.bind ?_ (fun _ => ?_)
  ·intro y0 y1 y2 y3 y4
   unfold line_Parse.l0
   repeat' first
   | (with_reducible exact ih0 _ _)
   | (with_reducible exact ih1 _ _ _ _ _)
   | (with_reducible exact ih2 _ _ _ _ _)
   | (with_reducible exact line_kind.mono _ _)
   | (with_reducible exact LeO.refl _)
   | (with_reducible exact LeO.none _)
   | (with_reducible refine LeO.ite ?_ ?_)
   | (with_reducible refine LeO.bind ?_ (fun _ => ?_))
   | exact ih0 _ _
   | exact ih1 _ _ _ _ _
   | exact ih2 _ _ _ _ _
   | exact line_kind.mono _ _
   | exact LeO.none _
   | refine LeO.ite ?_ ?_
   | refine LeO.bind ?_ (fun _ => ?_)
theorem line_Parse.mono : ∀ a0 k, LeO (line_Parse.f k a0) (line_Parse.f (k + 1) a0) := by
 intro a0 k
 obtain ⟨ih0, ih1, ih2⟩ := line_Parse.mono_l k
 unfold line_Parse.f
 repeat' first
   | (with_reducible exact ih0 _ _)
   | (with_reducible exact ih1 _ _ _ _ _)
   | (with_reducible exact ih2 _ _ _ _ _)
   | (with_reducible exact line_kind.mono _ _)
   | (with_reducible exact LeO.refl _)
   | (with_reducible exact LeO.none _)
   | (with_reducible refine LeO.ite ?_ ?_)
   | (with_reducible refine LeO.bind ?_ (fun _ => ?_))
   | exact ih0 _ _
   | exact ih1 _ _ _ _ _
   | exact ih2 _ _ _ _ _
   | exact line_kind.mono _ _
   | exact LeO.none _
   | refine LeO.ite ?_ ?_
   | refine LeO.bind ?_ (fun _ => ?_)
def line_Parse.T9 : Bool × List (List Nat × List Nat) := (true, [([], []), ([0], [0]), ([], []), ([2], [2]), ([1, 3], [1, 3]), ([], []), ([5], [5]), ([0, 1, 2, 3, 4], []), ([7, 4, 4, 0, 1, 2, 3, 4], [4, 7]), ([6, 8, 0, 1, 2, 3, 4, 5, 6, 7, 8], [5, 6])])
def line_Parse.B9 : List Nat := [0, 1, 0, 4, 15, 0, 32, 31, 159, 511]
theorem line_Parse.tab9 : rtab .any (opsOf Tryd.f18 9) = line_Parse.T9 := by kernel_rfl
theorem line_Parse.bits9 : waitsOk line_Parse.T9.2 line_Parse.B9 = true := by kernel_rfl
set_option maxHeartbeats 8000000 in
set_option maxRecDepth 100000 in
theorem line_Parse.calls (k : Nat) (a0 : ByteArray) (r1 : Int) (r2 : ByteArray) (r3 : ByteArray) (r4 : List Int) (r5 : Int) (w : World) (h : line_Parse.f k a0 = some (r1, r2, r3, r4, r5)) (hT : XTabs.Tabs w) :
  Calls Tryd.prog 18 #[.string a0] w fun e w' => ∃ v3_ : Value, e = .returned (.tuple #[.agg #[.int .i64 r1, .string r2, .string r3, v3_], .int .i64 r5]) ∧ Kd.R (Kd.int .i64) 3 w' w.heap.size (fun _ => True) v3_ r4 ∧ Below w.heap.size w w' := by
 have HT := Aside0.mk hT
 clear hT
 have hu24 := Tryd.underlying24
 have HB := Aside0.mk (Below.refl w.heap.size w)
 have H : ((text_Words.f a0).bind fun bt154 => (if bt154.2 = 0 then (if (bt154.1.length : Int) = 0 then (line_Parse.j0 k bt154.1 true) else (if 0 < (bt154.1.length : Int) then ((line_kind.f k (rdOf ByteArray.empty bt154.1 0)).bind fun t159 => (line_Parse.j0 k bt154.1 (t159 == 0))) else (none))) else (line_Parse.j0 k bt154.1 true))) = some (r1, r2, r3, r4, r5) := h
 clear h
 replace H := Option.bind_eq_some_iff.mp H
 obtain ⟨⟨t154, t157⟩, A20, H⟩ := H
 replace H : (if t157 = 0 then (if (t154.length : Int) = 0 then (line_Parse.j0 k t154 true) else (if 0 < (t154.length : Int) then ((line_kind.f k (rdOf ByteArray.empty t154 0)).bind fun t159 => (line_Parse.j0 k t154 (t159 == 0))) else (none))) else (line_Parse.j0 k t154 true)) = some (r1, r2, r3, r4, r5) := H
 have A2 := Aside0.mk A20
 clear A20
 have HC3 := Aside0.mk H
 clear H
 go_enter Tryd.func18, Tryd.ntmps18
 go_upto_region 2 with (first | ((with_reducible refine gate_dst (N := 2) rfl ?_); (try (refine gate_guard (by rfl) ?_; dsimp only)); refine box_event ?hg (N := 2) ?hd (cs := #[.int .i64 0, .string (⟨#[]⟩ : ByteArray), .string (⟨#[]⟩ : ByteArray), .slice none 0 0]) (t := 24) ?hr ?_; (case hd => rfl); (case hg => rfl); (case hr => first | (go_simp; done) | (go_simp; rfl)); intro gb153 hg w4 hbox hb; have n0_ := Aside0.mk (below_step (by repeat (first | (with_reducible first | exact HB.out | apply below_alloc | apply pw_below_drewN | apply below_drew1) | exact HB.out)) hb); have n1_ := Aside0.mk (hbox); have n2_ := Aside0.mk ((by rw [hg]; exact (below_size (by repeat (first | (with_reducible first | exact HB.out | apply below_alloc | apply pw_below_drewN | apply below_drew1) | exact HB.out))) : w.heap.size ≤ gb153)); have n3_ := Aside0.mk ((by rw [hg]; exact (below_size (by repeat (first | (with_reducible first | exact HB.out | apply below_alloc | apply pw_below_drewN | apply below_drew1) | exact HB.out))) : w.heap.size ≤ gb153)); clear HB; have HB := n0_; have BK153 := n1_; have GW153 := n2_; have GE153 := n3_; clear n0_ n1_ n2_ n3_; clear hb hbox hg) | ((with_reducible refine gate_callee (f := 22) rfl ?_); refine goesL_ (some 11) rfl rfl Tryd.func22 (by kernel_rfl) rfl #[.string a0] rfl (by (try simp only [List.map_toArray, List.map_cons, List.map_nil]); first | done | rfl) ?_; (with_reducible refine (text_Words.calls a0 t154 t157 _ A2.out).mono ?_); rintro e w5 ⟨v155, rfl, ho0, hb⟩; refine ⟨_, rfl, ?_⟩; have n0_ := Aside0.mk (Kd.V_lower (Kd.V_mono (ok' := fun k_ => k_ ≠ gb153) ho0 (fun k_ hk_ => (Kd.freshB (g := gb153) (o := .cells #[.int .i64 0, .string (⟨#[]⟩ : ByteArray), .string (⟨#[]⟩ : ByteArray), .slice none 0 0] 24 (0, 0)) (by (with_reducible repeat (first | refine kc ?_ _ | refine kb ?_ | refine ka ?_ _)); exact BK153.out) k_ hk_))) (below_size (by repeat (first | (with_reducible first | exact HB.out | apply below_alloc | apply pw_below_drewN | apply below_drew1 | refine below_set ?_ GE153.out) | exact HB.out)))); have n1_ := Aside0.mk (blk_below (g := gb153) (o := .cells #[.int .i64 0, .string (⟨#[]⟩ : ByteArray), .string (⟨#[]⟩ : ByteArray), .slice none 0 0] 24 (0, 0)) (by (with_reducible repeat (first | refine kc ?_ _ | refine kb ?_ | refine ka ?_ _)); exact BK153.out) hb); have n2_ := Aside0.mk (below_step (by repeat (first | (with_reducible first | exact HB.out | apply below_alloc | apply pw_below_drewN | apply below_drew1 | refine below_set ?_ GE153.out) | exact HB.out)) hb); clear BK153; clear HB; have HO156 := n0_; have BK153 := n1_; have HB := n2_; clear n0_ n1_ n2_; (try clear hb); (try clear hb2); (try clear hk); (try clear hi); (try clear ho0)))
 (try simp only [Act.put, List.setIfInBounds_toArray, List.set_cons_zero, List.set_cons_succ])
 go_cut [27] (fun v27 wc => ∃ (kq : Nat) (x27_2 : Bool), v27 = .bool x27_2 ∧ Aside0 (line_Parse.j0 kq t154 x27_2 = some (r1, r2, r3, r4, r5)) ∧ Aside0 (kq ≤ k) ∧ Aside0 (Kd.V Kd.string 9 wc w.heap.size (fun k_ => k_ ≠ gb153) v155 t154) ∧ Aside0 (wc.heap[gb153]? = some (.cells #[.int .i64 0, .string (⟨#[]⟩ : ByteArray), .string (⟨#[]⟩ : ByteArray), (.slice none 0 0)] 24 (0, 0))) ∧ Aside0 (Below w.heap.size w wc))
 case first =>
  have H := HC3.out
  clear HC3
  by_cases c6 : t157 = 0
  ·rw [if_pos c6] at H
   have c6b0 : (t157 == 0) = true := beq_iff_eq.mpr c6
   have c6b1 : (t157 != 0) = false := bne_eq_false_iff_eq.mpr c6
   clear c6
   (first | rw [c6b0] | (simp only [i64_w, i32_w]; rw [c6b0]) | skip)
   by_cases c7 : (t154.length : Int) = 0
   ·rw [if_pos c7] at H
    have c7b0 : ((t154.length : Int) == 0) = true := beq_iff_eq.mpr c7
    have c7b1 : ((t154.length : Int) != 0) = false := bne_eq_false_iff_eq.mpr c7
    clear c7
    have H' := Aside0.mk H
    clear H
    obtain ⟨Ao8, co8, eo8⟩ := Kd.V_slice HO156.out
    subst eo8
    go_wp2
    go_meet
    case rel => exact ⟨_, (true), (by first | rfl | (simp; done) | (simp [*]; done)), H', ⟨by first | omega | exact Nat.le_refl _⟩, ⟨by (with_reducible repeat (first | apply va | apply vb | apply vc)); exact HO156.out⟩, ⟨by (with_reducible repeat (first | refine kc ?_ _ | refine kb ?_ | refine ka ?_ _)); exact BK153.out⟩, ⟨by repeat (first | (with_reducible first | exact HB.out | apply below_alloc | apply pw_below_drewN | apply below_drew1 | refine below_set ?_ GE153.out) | exact HB.out)⟩⟩
   ·rw [if_neg c7] at H
    have c7b0 : ((t154.length : Int) == 0) = false := beq_eq_false_iff_ne.mpr c7
    have c7b1 : ((t154.length : Int) != 0) = true := bne_iff_ne.mpr c7
    have c7b2 : ¬ (t154 = []) := fun h_ => c7 (by rw [h_]; rfl)
    by_cases c9 : 0 < (t154.length : Int)
    ·rw [if_pos c9] at H
     have c9b0 : decide (0 < (t154.length : Int)) = true := decide_eq_true c9
     have c9b1 : decide (0 < t154.length) = true := decide_eq_true (by omega)
     clear c9
     replace H := Option.bind_eq_some_iff.mp H
     obtain ⟨t159, A100, H⟩ := H
     replace H : (line_Parse.j0 k t154 (t159 == 0)) = some (r1, r2, r3, r4, r5) := H
     have A10 := Aside0.mk A100
     clear A100
     have H' := Aside0.mk H
     clear H
     obtain ⟨Ao11, co11, eo11⟩ := Kd.V_slice HO156.out
     subst eo11
     have p158 : 0 ≤ (0 : Int) := (by omega)
     have q158 : 0 < (t154.length : Int) := of_decide_eq_true (by first | (with_reducible assumption) | assumption)
     obtain ⟨ad158, e158, hx158_0⟩ := Kd.at_string (Kd.V_reads' HO156.out).2.2 0 p158 q158
     cases e158
     have qi158 : (0 < t154.length) = True := eq_true (by omega)
     (try rw [show ((0 : Int)).toNat = 0 from rfl] at hx158_0)
     (try rw [Addr.add_zero'] at hx158_0)
     replace p158 := eq_true p158
     replace q158 := eq_true q158
     go_wp2_with (first | (go_at_call 38; (with_reducible refine (line_kind.calls k (rdOf ByteArray.empty t154 0) t159 _ A10.out).mono ?_); rintro e w12 ⟨rfl, hb⟩; (try clear A10); have n0_ := Aside0.mk (Kd.V_below (by (with_reducible repeat (first | apply va | apply vb | apply vc)); exact HO156.out) hb); have n1_ := Aside0.mk (blk_below (g := gb153) (o := .cells #[.int .i64 0, .string (⟨#[]⟩ : ByteArray), .string (⟨#[]⟩ : ByteArray), .slice none 0 0] 24 (0, 0)) (by (with_reducible repeat (first | refine kc ?_ _ | refine kb ?_ | refine ka ?_ _)); exact BK153.out) hb); have n2_ := Aside0.mk (below_step (by repeat (first | (with_reducible first | exact HB.out | apply below_alloc | apply pw_below_drewN | apply below_drew1 | refine below_set ?_ GE153.out) | exact HB.out)) hb); clear HO156; clear BK153; clear HB; have HO156 := n0_; have BK153 := n1_; have HB := n2_; clear n0_ n1_ n2_; (try clear hb); (try clear hb2); (try clear hk); (try clear hi)))
     go_meet
     case rel => exact ⟨_, ((t159 == 0)), (by first | rfl | (simp; done) | (simp [*]; done)), H', ⟨by first | omega | exact Nat.le_refl _⟩, ⟨by (with_reducible repeat (first | apply va | apply vb | apply vc)); exact HO156.out⟩, ⟨by (with_reducible repeat (first | refine kc ?_ _ | refine kb ?_ | refine ka ?_ _)); exact BK153.out⟩, ⟨by repeat (first | (with_reducible first | exact HB.out | apply below_alloc | apply pw_below_drewN | apply below_drew1 | refine below_set ?_ GE153.out) | exact HB.out)⟩⟩
    ·rw [if_neg c9] at H
     exact absurd H (by simp)
  ·rw [if_neg c6] at H
   have c6b0 : (t157 == 0) = false := beq_eq_false_iff_ne.mpr c6
   have c6b1 : (t157 != 0) = true := bne_iff_ne.mpr c6
   (first | rw [c6b0] | (simp only [i64_w, i32_w]; rw [c6b0]) | skip)
   have H' := Aside0.mk H
   clear H
   go_wp2
   go_meet
   case rel => exact ⟨_, (true), (by first | rfl | (simp; done) | (simp [*]; done)), H', ⟨by first | omega | exact Nat.le_refl _⟩, ⟨by (with_reducible repeat (first | apply va | apply vb | apply vc)); exact HO156.out⟩, ⟨by (with_reducible repeat (first | refine kc ?_ _ | refine kb ?_ | refine ka ?_ _)); exact BK153.out⟩, ⟨by repeat (first | (with_reducible first | exact HB.out | apply below_alloc | apply pw_below_drewN | apply below_drew1 | refine below_set ?_ GE153.out) | exact HB.out)⟩⟩
 case rest =>
  clear HC3
  try clear c1
  try clear p1
  try clear q1
  try clear hx1
  try clear qi1
  try clear c2
  try clear p2
  try clear c6
  try clear c6b0
  try clear c6b1
  try clear c7
  try clear c7b0
  try clear c7b1
  try clear c7b2
  try clear c9
  try clear c9b0
  try clear c9b1
  try clear hx158_0
  try clear p158
  try clear q158
  obtain ⟨kq, x27_2, rfl, HA, HJ2, HO_4, BK153, HB⟩ := hcut
  cases kq with
  | zero => exact absurd HA.out (by simp [line_Parse.j0])
  | succ kj2 =>
   have H := HA.out
   clear HA
   simp only [line_Parse.j0] at H
   by_cases c13 : x27_2 = true
   ·subst c13
    have H1 : (some (0, (⟨#[]⟩ : ByteArray), (⟨#[]⟩ : ByteArray), ([] : List Int), 11)) = some (r1, r2, r3, r4, r5) := by rw [if_pos rfl] at H; exact H
    clear H
    have H := H1
    clear H1
    simp only [Option.some.injEq, Prod.mk.injEq] at H
    obtain ⟨rfl, rfl, rfl, rfl, rfl⟩ := H
    have hcz14_0 : wc.cell? ⟨gb153, 0, none⟩ = some (.int .i64 0) := (blk_cell BK153.out 0).trans rfl
    have hcz14_1 : wc.cell? ⟨gb153, 1, none⟩ = some (.string (⟨#[]⟩ : ByteArray)) := (blk_cell BK153.out 1).trans rfl
    have hcz14_2 : wc.cell? ⟨gb153, 2, none⟩ = some (.string (⟨#[]⟩ : ByteArray)) := (blk_cell BK153.out 2).trans rfl
    have hcz14_3 : wc.cell? ⟨gb153, 3, none⟩ = some (.slice none 0 0) := (blk_cell BK153.out 3).trans rfl
    have hfz14_0 := blk_frozen BK153.out 0
    have hfz14_1 := blk_frozen BK153.out 1
    have hfz14_2 := blk_frozen BK153.out 2
    have hfz14_3 := blk_frozen BK153.out 3
    go_wp2
    refine bodyPost_ret (results_ct rfl _ _ gb153 24 #[.int .i64 0, .string (⟨#[]⟩ : ByteArray), .string (⟨#[]⟩ : ByteArray), .slice none 0 0] (0, 0) _ rfl (by (with_reducible repeat (first | refine kc ?_ _ | refine kb ?_ | refine ka ?_ _)); refine blk_put (cs := #[.int .i64 0, .string (⟨#[]⟩ : ByteArray), .string (⟨#[]⟩ : ByteArray), .slice none 0 0]) ?_ 3 _ rfl; (with_reducible repeat (first | refine kc ?_ _ | refine kb ?_ | refine ka ?_ _)); refine blk_put (cs := #[.int .i64 0, .string (⟨#[]⟩ : ByteArray), .string (⟨#[]⟩ : ByteArray), .slice none 0 0]) ?_ 2 _ rfl; (with_reducible repeat (first | refine kc ?_ _ | refine kb ?_ | refine ka ?_ _)); refine blk_put (cs := #[.int .i64 0, .string (⟨#[]⟩ : ByteArray), .string (⟨#[]⟩ : ByteArray), .slice none 0 0]) ?_ 1 _ rfl; (with_reducible repeat (first | refine kc ?_ _ | refine kb ?_ | refine ka ?_ _)); refine blk_put (cs := #[.int .i64 0, .string (⟨#[]⟩ : ByteArray), .string (⟨#[]⟩ : ByteArray), .slice none 0 0]) ?_ 0 _ rfl; (with_reducible repeat (first | refine kc ?_ _ | refine kb ?_ | refine ka ?_ _)); exact BK153.out) Tryd.underlying24 rfl (by kernel_rfl)) rfl ?_
    exact ⟨_, by first | rfl | (simp [errW_none, errW_some] <;> rfl) | (simp [*, errW_none, errW_some] <;> rfl), by first | exact Kd.R_nil _ _ _ _ _ | exact Kd.N_nil _ _ _ _ _ | exact Kd.V_nil _ _ _ _ _ | exact Kd.Q_nil _ _ _ _ _ | exact Kd.S_nil _ _ _ _ _, by repeat (first | (with_reducible first | exact HB.out | apply below_alloc | apply pw_below_drewN | apply below_drew1 | refine below_set ?_ GE153.out) | exact HB.out)⟩
   ·replace c13 := Bool.eq_false_iff.mpr c13
    subst c13
    have H1 : (if 0 < (t154.length : Int) then ((line_kind.f kj2 (rdOf ByteArray.empty t154 0)).bind fun t161 => (if 1 ≤ (t154.length : Int) then (line_Parse.l0 kj2 (t154.drop 1) t161 (⟨#[]⟩ : ByteArray) (⟨#[]⟩ : ByteArray) ([] : List Int)) else (none))) else (none)) = some (r1, r2, r3, r4, r5) := by rw [if_neg (show ¬ (false = true) by decide)] at H; exact H
    clear H
    have H := H1
    clear H1
    by_cases c15 : 0 < (t154.length : Int)
    ·rw [if_pos c15] at H
     have c15b0 : decide (0 < (t154.length : Int)) = true := decide_eq_true c15
     have c15b1 : decide (0 < t154.length) = true := decide_eq_true (by omega)
     clear c15
     replace H := Option.bind_eq_some_iff.mp H
     obtain ⟨t161, A160, H⟩ := H
     replace H : (if 1 ≤ (t154.length : Int) then (line_Parse.l0 kj2 (t154.drop 1) t161 (⟨#[]⟩ : ByteArray) (⟨#[]⟩ : ByteArray) ([] : List Int)) else (none)) = some (r1, r2, r3, r4, r5) := H
     have A16 := Aside0.mk A160
     clear A160
     by_cases c17 : 1 ≤ (t154.length : Int)
     ·rw [if_pos c17] at H
      have c17b0 := eq_true c17
      have c17b1 : decide (1 ≤ (t154.length : Int)) = true := decide_eq_true c17
      clear c17
      obtain ⟨y163, hy163⟩ : ∃ y_ : List ByteArray, y_ = (t154.drop 1) := ⟨_, rfl⟩
      replace H : (line_Parse.l0 kj2 y163 t161 (⟨#[]⟩ : ByteArray) (⟨#[]⟩ : ByteArray) ([] : List Int)) = some (r1, r2, r3, r4, r5) := by first | (rw [hy163]; with_reducible exact H) | (have H2_ := (Option.bind_some _ _).symm.trans H; rw [hy163]; with_reducible exact H2_) | (have H2_ := (Option.bind_some _ _).symm.trans H; with_reducible exact H2_) | with_reducible exact H | (rw [hy163]; exact H) | exact H
      have Ny163 := Aside0.mk hy163
      clear hy163
      have HC18 := Aside0.mk H
      clear H
      obtain ⟨Ao19, co19, eo19⟩ := Kd.V_slice HO_4.out
      subst eo19
      have p160 : 0 ≤ (0 : Int) := (by omega)
      have q160 : 0 < (t154.length : Int) := of_decide_eq_true (by first | (with_reducible assumption) | assumption)
      obtain ⟨ad160, e160, hx160_0⟩ := Kd.at_string (Kd.V_reads' HO_4.out).2.2 0 p160 q160
      cases e160
      have qi160 : (0 < t154.length) = True := eq_true (by omega)
      (try rw [show ((0 : Int)).toNat = 0 from rfl] at hx160_0)
      (try rw [Addr.add_zero'] at hx160_0)
      replace p160 := eq_true p160
      replace q160 := eq_true q160
      go_upto_block 0 with (first | ((with_reducible refine gate_callee (f := 38) rfl ?_); refine goesL_ (some 32) rfl rfl Tryd.func38 (by kernel_rfl) rfl #[.string (rdOf ByteArray.empty t154 0)] rfl (by (try simp only [List.map_toArray, List.map_cons, List.map_nil]); first | done | rfl) ?_; (with_reducible refine (line_kind.calls kj2 (rdOf ByteArray.empty t154 0) t161 _ A16.out).mono ?_); rintro e w20 ⟨rfl, hb⟩; refine ⟨_, rfl, ?_⟩; have n0_ := Aside0.mk (Kd.V_below (by (with_reducible repeat (first | apply va | apply vb | apply vc)); exact HO_4.out) hb); have n1_ := Aside0.mk (blk_below (g := gb153) (o := .cells #[.int .i64 0, .string (⟨#[]⟩ : ByteArray), .string (⟨#[]⟩ : ByteArray), .slice none 0 0] 24 (0, 0)) (by (with_reducible repeat (first | refine kc ?_ _ | refine kb ?_ | refine ka ?_ _)); exact BK153.out) hb); have n2_ := Aside0.mk (below_step (by repeat (first | (with_reducible first | exact HB.out | apply below_alloc | apply pw_below_drewN | apply below_drew1 | refine below_set ?_ GE153.out) | exact HB.out)) hb); clear HO_4; clear BK153; clear HB; have HO_4 := n0_; have BK153 := n1_; have HB := n2_; clear n0_ n1_ n2_; (try clear hb); (try clear hb2); (try clear hk); (try clear hi)) | ((with_reducible refine gate_dst (N := 6) rfl ?_); (try (refine gate_guard (by rfl) ?_; dsimp only)); refine box_event ?hg (N := 6) ?hd (cs := #[.int .i64 0, .string (⟨#[]⟩ : ByteArray), .string (⟨#[]⟩ : ByteArray), .slice none 0 0]) (t := 24) ?hr ?_; (case hd => rfl); (case hg => rfl); (case hr => first | (go_simp; done) | (go_simp; rfl)); intro gb162 hg w21 hbox hb; have n0_ := Aside0.mk (Kd.V_below (Kd.V_elderB (by (with_reducible repeat (first | apply va | apply vb | apply vc)); exact HO_4.out) gb162 (Nat.le_of_eq hg.symm)) hb); have n1_ := Aside0.mk (blk_below (g := gb153) (o := .cells #[.int .i64 0, .string (⟨#[]⟩ : ByteArray), .string (⟨#[]⟩ : ByteArray), .slice none 0 0] 24 (0, 0)) (by (with_reducible repeat (first | refine kc ?_ _ | refine kb ?_ | refine ka ?_ _)); exact BK153.out) hb); have n2_ := Aside0.mk (below_step (by repeat (first | (with_reducible first | exact HB.out | apply below_alloc | apply pw_below_drewN | apply below_drew1 | refine below_set ?_ GE153.out) | exact HB.out)) hb); have n3_ := Aside0.mk (hbox); have n4_ := Aside0.mk ((by rw [hg]; exact (below_size (by repeat (first | (with_reducible first | exact HB.out | apply below_alloc | apply pw_below_drewN | apply below_drew1 | refine below_set ?_ GE153.out) | exact HB.out))) : w.heap.size ≤ gb162)); have n5_ := Aside0.mk ((by rw [hg]; exact (below_size (by repeat (first | (with_reducible first | exact HB.out | apply below_alloc | apply pw_below_drewN | apply below_drew1 | refine below_set ?_ GE153.out) | exact HB.out))) : w.heap.size ≤ gb162)); have n6_ := Aside0.mk ((by rw [hg]; exact Nat.ne_of_lt (blk_lt (g := gb153) (o := .cells #[.int .i64 0, .string (⟨#[]⟩ : ByteArray), .string (⟨#[]⟩ : ByteArray), .slice none 0 0] 24 (0, 0)) (by (with_reducible repeat (first | refine kc ?_ _ | refine kb ?_ | refine ka ?_ _)); exact BK153.out)) : gb153 ≠ gb162)); have n7_ := Aside0.mk ((by rw [hg]; exact Nat.ne_of_gt (blk_lt (g := gb153) (o := .cells #[.int .i64 0, .string (⟨#[]⟩ : ByteArray), .string (⟨#[]⟩ : ByteArray), .slice none 0 0] 24 (0, 0)) (by (with_reducible repeat (first | refine kc ?_ _ | refine kb ?_ | refine ka ?_ _)); exact BK153.out)) : gb162 ≠ gb153)); clear HO_4; clear BK153; clear HB; have HO_4 := n0_; have BK153 := n1_; have HB := n2_; have BK162 := n3_; have GW162 := n4_; have GE162 := n5_; have NB153_162 := n6_; have NB162_153 := n7_; clear n0_ n1_ n2_ n3_ n4_ n5_ n6_ n7_; clear hb hbox hg; have hnb22 := NB162_153.out; have hnc22 := NB153_162.out; have hcz23_0 : w21.cell? ⟨gb162, 0, none⟩ = some (.int .i64 0) := (blk_cell BK162.out 0).trans rfl; have hcz23_1 : w21.cell? ⟨gb162, 1, none⟩ = some (.string (⟨#[]⟩ : ByteArray)) := (blk_cell BK162.out 1).trans rfl; have hcz23_2 : w21.cell? ⟨gb162, 2, none⟩ = some (.string (⟨#[]⟩ : ByteArray)) := (blk_cell BK162.out 2).trans rfl; have hcz23_3 : w21.cell? ⟨gb162, 3, none⟩ = some (.slice none 0 0) := (blk_cell BK162.out 3).trans rfl; have hfz23_0 := blk_frozen BK162.out 0; have hfz23_1 := blk_frozen BK162.out 1; have hfz23_2 := blk_frozen BK162.out 2; have hfz23_3 := blk_frozen BK162.out 3) | ((with_reducible refine gate_store (t := 24) (p := 6) rfl ?_); refine store_event (t := 24) (p := 6) (v := ?vo_w24) (w1 := ((((w21.setCell ⟨gb162, 0, none⟩ (.int .i64 t161)).setCell ⟨gb162, 1, none⟩ (.string (⟨#[]⟩ : ByteArray))).setCell ⟨gb162, 2, none⟩ (.string (⟨#[]⟩ : ByteArray))).setCell ⟨gb162, 3, none⟩ (.slice none 0 0))) ?hg ?ho ?hn ?hr ?_; (case ho => rfl); (case hg => rfl); (case hn => rfl); (case hr => first | (go_simp; done) | (go_simp; rfl)); intro w24 hw; have n0_ : Aside0 (Kd.V Kd.string 9 w24 w.heap.size (fun k_ => k_ ≠ gb153 ∧ k_ ≠ gb162) (.slice (some ad160) t154.length co19) t154) := ⟨(by rw [hw]; exact (by (with_reducible repeat (first | apply va | apply vb | apply vc)); exact Kd.V_mono (Kd.V_far (p := ⟨gb162, 3, none⟩) (Kd.V_far (p := ⟨gb162, 2, none⟩) (Kd.V_far (p := ⟨gb162, 1, none⟩) (Kd.V_far (p := ⟨gb162, 0, none⟩) (Kd.V_mono HO_4.out (fun k_ hk => (⟨hk, hk.2⟩ : _ ∧ k_ ≠ gb162))) (fun _ hk => hk.2) (.int .i64 t161)) (fun _ hk => hk.2) (.string (⟨#[]⟩ : ByteArray))) (fun _ hk => hk.2) (.string (⟨#[]⟩ : ByteArray))) (fun _ hk => hk.2) (.slice none 0 0)) (fun _ hk => ⟨hk.1.1, hk.1.2⟩)))⟩; have n1_ : Aside0 (w24.heap[gb153]? = some (.cells #[.int .i64 0, .string (⟨#[]⟩ : ByteArray), .string (⟨#[]⟩ : ByteArray), .slice none 0 0] 24 (0, 0))) := ⟨(by rw [hw]; exact (by (with_reducible repeat (first | refine kc ?_ _ | refine kb ?_ | refine ka ?_ _)); refine blk_far ?_ NB153_162.out _; (with_reducible repeat (first | refine kc ?_ _ | refine kb ?_ | refine ka ?_ _)); refine blk_far ?_ NB153_162.out _; (with_reducible repeat (first | refine kc ?_ _ | refine kb ?_ | refine ka ?_ _)); refine blk_far ?_ NB153_162.out _; (with_reducible repeat (first | refine kc ?_ _ | refine kb ?_ | refine ka ?_ _)); refine blk_far ?_ NB153_162.out _; (with_reducible repeat (first | refine kc ?_ _ | refine kb ?_ | refine ka ?_ _)); exact BK153.out))⟩; have n2_ : Aside0 (w24.heap[gb162]? = some (.cells #[.int .i64 t161, .string (⟨#[]⟩ : ByteArray), .string (⟨#[]⟩ : ByteArray), .slice none 0 0] 24 (0, 0))) := ⟨(by rw [hw]; exact (by (with_reducible repeat (first | refine kc ?_ _ | refine kb ?_ | refine ka ?_ _)); refine blk_put (cs := #[.int .i64 t161, .string (⟨#[]⟩ : ByteArray), .string (⟨#[]⟩ : ByteArray), .slice none 0 0]) ?_ 3 _ rfl; (with_reducible repeat (first | refine kc ?_ _ | refine kb ?_ | refine ka ?_ _)); refine blk_put (cs := #[.int .i64 t161, .string (⟨#[]⟩ : ByteArray), .string (⟨#[]⟩ : ByteArray), .slice none 0 0]) ?_ 2 _ rfl; (with_reducible repeat (first | refine kc ?_ _ | refine kb ?_ | refine ka ?_ _)); refine blk_put (cs := #[.int .i64 t161, .string (⟨#[]⟩ : ByteArray), .string (⟨#[]⟩ : ByteArray), .slice none 0 0]) ?_ 1 _ rfl; (with_reducible repeat (first | refine kc ?_ _ | refine kb ?_ | refine ka ?_ _)); refine blk_put (cs := #[.int .i64 0, .string (⟨#[]⟩ : ByteArray), .string (⟨#[]⟩ : ByteArray), .slice none 0 0]) ?_ 0 _ rfl; (with_reducible repeat (first | refine kc ?_ _ | refine kb ?_ | refine ka ?_ _)); exact BK162.out))⟩; have n3_ : Aside0 (Below w.heap.size w w24) := ⟨(by rw [hw]; exact (by repeat (first | (with_reducible first | exact HB.out | apply below_alloc | apply pw_below_drewN | apply below_drew1 | refine below_set ?_ GE153.out | refine below_set ?_ GE162.out) | exact HB.out)))⟩; clear hw; clear HO_4; clear BK153; clear BK162; clear HB; have HO_4 := n0_; have BK153 := n1_; have BK162 := n2_; have HB := n3_; clear n0_ n1_ n2_ n3_; have q25 : (1 : Int) ≤ ((t154.length : Int) : Int) := of_decide_eq_true (by first | (with_reducible assumption) | assumption); obtain ⟨i025, hi025, _, hsz25, _⟩ := info_parts info9; have hroom25 : t154.length ≤ co19 := (Kd.V_reads' HO_4.out).2.1; have hC25 : Kd.F Kd.string _ _ (some ad160) t154.length t154 := (Kd.V_at (base := w.heap.size) HO_4.out).2.2; have hcut25 := cut_from (P := Tryd.prog) 45 9 .i64 Tryd.underlying45 hi025 1 hsz25 (some ad160) t154.length co19 1 (by omega) q25; have hr25 := Kd.F_cut (m := (1 : Int).toNat) (c := co19) hC25 (by omega) hroom25; obtain ⟨A25, hA25⟩ : ∃ A1, A1 = (if co19 = (1 : Int).toNat then (some ad160) else ((some ad160) : Option Addr).map (·.add ((1 : Int).toNat * 1))) := ⟨_, rfl⟩; obtain ⟨c25, hc25⟩ : ∃ c1, c1 = co19 - (1 : Int).toNat := ⟨_, rfl⟩; have hy25 : y163.length = t154.length - (1 : Int).toNat := (by rw [Ny163.out, List.length_drop] <;> omega); rw [show (t154).drop (1 : Int).toNat = y163 from Ny163.out.symm] at hr25; replace hr25 : Kd.F Kd.string _ _ A25 y163.length y163 := (by rw [hA25]; exact hr25); rw [← hy25, ← hA25, ← hc25] at hcut25; have HO167 := Aside0.mk (show Kd.V Kd.string 9 _ w.heap.size _ (.slice A25 y163.length c25) y163 from Kd.V_mk (by rw [hy25, hc25]; exact Nat.sub_le_sub_right hroom25 _) hr25); have HC167 := Aside0.mk (show y163.length ≤ c25 from by rw [hy25, hc25]; exact Nat.sub_le_sub_right hroom25 _); clear hr25 hC25 hroom25 hi025 hsz25 hc25; have KY25 := Aside0.mk hy25; have KA25 := Aside0.mk hA25; clear hy25 hA25; replace q25 := eq_true q25))
      (try simp only [Act.put, List.setIfInBounds_toArray, List.set_cons_zero, List.set_cons_succ])
      go_cut [4] (fun v4 wc => ∃ (kq : Nat) (x4_17 : List ByteArray) (x163003_17 : List Int) (u163003 : Value), Aside0 (line_Parse.j2 kq x4_17 t161 (⟨#[]⟩ : ByteArray) (⟨#[]⟩ : ByteArray) x163003_17 = some (r1, r2, r3, r4, r5)) ∧ Aside0 (kq ≤ kj2) ∧ Aside0 (Kd.V Kd.string 9 wc w.heap.size (fun k_ => some k_ ≠ (u163003 : Value).ownBlock ∧ k_ ≠ gb153 ∧ k_ ≠ gb162) v4 x4_17) ∧ Aside0 (Kd.R (Kd.int .i64) 3 wc w.heap.size (fun _ => True) u163003 x163003_17) ∧ Aside0 (wc.heap[gb153]? = some (.cells #[.int .i64 0, .string (⟨#[]⟩ : ByteArray), .string (⟨#[]⟩ : ByteArray), (.slice none 0 0)] 24 (0, 0))) ∧ Aside0 (wc.heap[gb162]? = some (.cells #[.int .i64 t161, .string (⟨#[]⟩ : ByteArray), .string (⟨#[]⟩ : ByteArray), u163003] 24 (0, 0))) ∧ Aside0 (Below w.heap.size w wc))
      case first =>
       have H := HC18.out
       clear HC18
       have H' := Aside0.mk H
       clear H
       go_wp2
       go_loopg [4] kj2 (fun kq v4 w' => ∃ (x4_2 : List ByteArray) (x163003_2 : List Int) (u163003 : Value), Aside0 (line_Parse.l0 kq x4_2 t161 (⟨#[]⟩ : ByteArray) (⟨#[]⟩ : ByteArray) x163003_2 = some (r1, r2, r3, r4, r5)) ∧ Aside0 (kq ≤ kj2) ∧ Aside0 (Kd.V Kd.string 9 w' w.heap.size (fun k_ => some k_ ≠ (u163003 : Value).ownBlock ∧ k_ ≠ gb153 ∧ k_ ≠ gb162) v4 x4_2) ∧ Aside0 (Kd.R (Kd.int .i64) 3 w' w.heap.size (fun _ => True) u163003 x163003_2) ∧ Aside0 (w'.heap[gb153]? = some (.cells #[.int .i64 0, .string (⟨#[]⟩ : ByteArray), .string (⟨#[]⟩ : ByteArray), (.slice none 0 0)] 24 (0, 0))) ∧ Aside0 (w'.heap[gb162]? = some (.cells #[.int .i64 t161, .string (⟨#[]⟩ : ByteArray), .string (⟨#[]⟩ : ByteArray), u163003] 24 (0, 0))) ∧ Aside0 (Below w.heap.size w w'))
       case atStart => exact ⟨(y163), (([] : List Int)), (.slice none 0 0), H', ⟨Nat.le_refl _⟩, ⟨by (with_reducible repeat (first | apply va | apply vb | apply vc)); exact Kd.V_mono HO167.out (fun _ hk => ⟨(by simp [Value.ownBlock]), ⟨hk.1, hk.2⟩⟩)⟩, ⟨by first | exact Kd.R_nil _ _ _ _ _ | exact Kd.N_nil _ _ _ _ _ | exact Kd.V_nil _ _ _ _ _ | exact Kd.Q_nil _ _ _ _ _ | exact Kd.S_nil _ _ _ _ _⟩, ⟨by (with_reducible repeat (first | refine kc ?_ _ | refine kb ?_ | refine ka ?_ _)); exact BK153.out⟩, ⟨by (with_reducible repeat (first | refine kc ?_ _ | refine kb ?_ | refine ka ?_ _)); exact BK162.out⟩, ⟨by repeat (first | (with_reducible first | exact HB.out | apply below_alloc | apply pw_below_drewN | apply below_drew1 | refine below_set ?_ GE153.out | refine below_set ?_ GE162.out) | exact HB.out)⟩⟩
       case round =>
        clear H'
        try clear c1
        try clear p1
        try clear q1
        try clear hx1
        try clear qi1
        try clear c2
        try clear p2
        try clear q2
        try clear c3
        try clear c6
        try clear c6b0
        try clear c6b1
        try clear c7
        try clear c7b0
        try clear c7b1
        try clear c7b2
        try clear c9
        try clear c9b0
        try clear c9b1
        try clear c13
        try clear c15
        try clear c15b0
        try clear c15b1
        try clear p15
        try clear q15
        try clear hx15
        try clear qi15
        try clear p16
        try clear q16
        try clear hx16
        try clear qi16
        try clear c17
        try clear c17b0
        try clear c17b1
        try clear c18
        try clear c22
        try clear c25
        try clear q25
        try clear hcz14_0
        try clear hcz14_1
        try clear hcz14_2
        try clear hcz14_3
        try clear hcz23_0
        try clear hcz23_1
        try clear hcz23_2
        try clear hcz23_3
        try clear hfz14_0
        try clear hfz14_1
        try clear hfz14_2
        try clear hfz14_3
        try clear hfz23_0
        try clear hfz23_1
        try clear hfz23_2
        try clear hfz23_3
        try clear hx158_0
        try clear hx160_0
        try clear p1
        try clear p158
        try clear p160
        try clear p2
        try clear q1
        try clear q158
        try clear q160
        try clear q25
        obtain ⟨x4_2, x163003_2, u163003, HA, HK2, HO_4, HO_163003, BK153, BK162, HB⟩ := hrel
        cases gk with
        | zero => exact absurd HA.out (by simp [line_Parse.l0])
        | succ k2 =>
         have H := HA.out
         clear HA
         simp only [line_Parse.l0] at H
         by_cases c26 : (x4_2.length : Int) > 0
         ·rw [if_pos c26] at H
          have c26b0 : decide (0 < (x4_2.length : Int)) = true := decide_eq_true c26
          have c26b1 : decide (0 < x4_2.length) = true := decide_eq_true (by omega)
          clear c26
          (first | rw [c26b0] | (simp only [i64_w, i32_w]; rw [c26b0]) | skip)
          by_cases c27 : 0 < (x4_2.length : Int)
          ·rw [if_pos c27] at H
           have c27b0 : decide (0 < (x4_2.length : Int)) = true := decide_eq_true c27
           have c27b1 : decide (0 < x4_2.length) = true := decide_eq_true (by omega)
           clear c27
           replace H := Option.bind_eq_some_iff.mp H
           obtain ⟨⟨t169, t170⟩, A280, H⟩ := H
           replace H : (if t170 = true then (if x163003_2.length < 17592186044416 then (if 1 ≤ (x4_2.length : Int) then (line_Parse.l0 k2 (x4_2.drop 1) t161 (⟨#[]⟩ : ByteArray) (⟨#[]⟩ : ByteArray) (x163003_2 ++ [t169])) else (none)) else (none)) else (line_Parse.j2 k2 x4_2 t161 (⟨#[]⟩ : ByteArray) (⟨#[]⟩ : ByteArray) x163003_2)) = some (r1, r2, r3, r4, r5) := H
           have A28 := Aside0.mk A280
           clear A280
           by_cases c29 : t170 = true
           ·subst c29
            have H1 : (if x163003_2.length < 17592186044416 then (if 1 ≤ (x4_2.length : Int) then (line_Parse.l0 k2 (x4_2.drop 1) t161 (⟨#[]⟩ : ByteArray) (⟨#[]⟩ : ByteArray) (x163003_2 ++ [t169])) else (none)) else (none)) = some (r1, r2, r3, r4, r5) := by rw [if_pos rfl] at H; exact H
            clear H
            have H := H1
            clear H1
            by_cases c30 : x163003_2.length < 17592186044416
            ·rw [if_pos c30] at H
             have LMc30 := Aside0.mk c30
             clear c30
             obtain ⟨y171, hy171⟩ : ∃ y_ : List Int, y_ = (x163003_2 ++ [t169]) := ⟨_, rfl⟩
             replace H : (if 1 ≤ (x4_2.length : Int) then (line_Parse.l0 k2 (x4_2.drop 1) t161 (⟨#[]⟩ : ByteArray) (⟨#[]⟩ : ByteArray) y171) else (none)) = some (r1, r2, r3, r4, r5) := by first | (rw [hy171]; with_reducible exact H) | (have H2_ := (Option.bind_some _ _).symm.trans H; rw [hy171]; with_reducible exact H2_) | (have H2_ := (Option.bind_some _ _).symm.trans H; with_reducible exact H2_) | with_reducible exact H | (rw [hy171]; exact H) | exact H
             have Ny171 := Aside0.mk hy171
             clear hy171
             by_cases c31 : 1 ≤ (x4_2.length : Int)
             ·rw [if_pos c31] at H
              have c31b0 := eq_true c31
              have c31b1 : decide (1 ≤ (x4_2.length : Int)) = true := decide_eq_true c31
              clear c31
              obtain ⟨y174, hy174⟩ : ∃ y_ : List ByteArray, y_ = (x4_2.drop 1) := ⟨_, rfl⟩
              replace H : (line_Parse.l0 k2 y174 t161 (⟨#[]⟩ : ByteArray) (⟨#[]⟩ : ByteArray) y171) = some (r1, r2, r3, r4, r5) := by first | (rw [hy174]; with_reducible exact H) | (have H2_ := (Option.bind_some _ _).symm.trans H; rw [hy174]; with_reducible exact H2_) | (have H2_ := (Option.bind_some _ _).symm.trans H; with_reducible exact H2_) | with_reducible exact H | (rw [hy174]; exact H) | exact H
              have Ny174 := Aside0.mk hy174
              clear hy174
              have H' := Aside0.mk H
              clear H
              obtain ⟨Ao32, co32, eo32⟩ := Kd.V_slice HO_4.out
              subst eo32
              have p168 : 0 ≤ (0 : Int) := (by omega)
              have q168 : 0 < (x4_2.length : Int) := of_decide_eq_true (by first | (with_reducible assumption) | assumption)
              obtain ⟨ad168, e168, hx168_0⟩ := Kd.at_string (Kd.V_reads' HO_4.out).2.2 0 p168 q168
              cases e168
              have qi168 : (0 < x4_2.length) = True := eq_true (by omega)
              (try rw [show ((0 : Int)).toNat = 0 from rfl] at hx168_0)
              (try rw [Addr.add_zero'] at hx168_0)
              replace p168 := eq_true p168
              replace q168 := eq_true q168
              try go_wp2_with (first | ((with_reducible refine gate_callee (f := 28) rfl ?_); refine goesL_ (some 43) rfl rfl Tryd.func28 (by kernel_rfl) rfl #[.string (rdOf ByteArray.empty x4_2 0)] rfl (by (try simp only [List.map_toArray, List.map_cons, List.map_nil]); first | done | rfl) ?_; (with_reducible refine (text_Number.calls (rdOf ByteArray.empty x4_2 0) t169 true _ A28.out (XTabs.Tabs.below HT.out (by repeat (first | (with_reducible first | exact HB.out | exact FB.out | exact HB | apply below_alloc | apply pw_below_drewN | apply below_drew1 | refine below_set ?_ (Aside0.out (by assumption))) | exact HB.out | exact FB.out)))).mono ?_); rintro e w33 ⟨rfl, hb⟩; refine ⟨_, rfl, ?_⟩; have n0_ := Aside0.mk (Kd.V_below (by (with_reducible repeat (first | apply va | apply vb | apply vc)); exact HO_4.out) hb); have n1_ := Aside0.mk (Kd.R_below (by (with_reducible repeat (first | apply ra | apply rb | apply rc)); exact HO_163003.out) hb); have n2_ := Aside0.mk (blk_below (g := gb153) (o := .cells #[.int .i64 0, .string (⟨#[]⟩ : ByteArray), .string (⟨#[]⟩ : ByteArray), .slice none 0 0] 24 (0, 0)) (by (with_reducible repeat (first | refine kc ?_ _ | refine kb ?_ | refine ka ?_ _)); exact BK153.out) hb); have n3_ := Aside0.mk (blk_below (g := gb162) (o := .cells #[.int .i64 t161, .string (⟨#[]⟩ : ByteArray), .string (⟨#[]⟩ : ByteArray), u163003] 24 (0, 0)) (by (with_reducible repeat (first | refine kc ?_ _ | refine kb ?_ | refine ka ?_ _)); exact BK162.out) hb); have n4_ := Aside0.mk (below_step (by repeat (first | (with_reducible first | exact HB.out | apply below_alloc | apply pw_below_drewN | apply below_drew1 | refine below_set ?_ GE153.out | refine below_set ?_ GE162.out) | exact HB.out)) hb); clear HO_4; clear HO_163003; clear BK153; clear BK162; clear HB; have HO_4 := n0_; have HO_163003 := n1_; have BK153 := n2_; have BK162 := n3_; have HB := n4_; clear n0_ n1_ n2_ n3_ n4_; (try clear hb); (try clear hb2); (try clear hk); (try clear hi)))
              have n0_ := Aside0.mk (Kd.V_drew HO_4.out)
              have n1_ := Aside0.mk (Kd.R_drew HO_163003.out)
              have n2_ := Aside0.mk (blk_drew BK153.out)
              have n3_ := Aside0.mk (blk_drew BK162.out)
              have n4_ := Aside0.mk (below_drew1 HB.out)
              clear HO_4
              clear HO_163003
              clear BK153
              clear BK162
              clear HB
              have HO_4 := n0_
              have HO_163003 := n1_
              have BK153 := n2_
              have BK162 := n3_
              have HB := n4_
              clear n0_ n1_ n2_ n3_ n4_
              have q35 : (1 : Int) ≤ ((x4_2.length : Int) : Int) := of_decide_eq_true (by first | (with_reducible assumption) | assumption)
              obtain ⟨i035, hi035, _, hsz35, _⟩ := info_parts info9
              have hroom35 : x4_2.length ≤ co32 := (Kd.V_reads' HO_4.out).2.1
              have hC35 : Kd.F Kd.string _ _ (some ad168) x4_2.length x4_2 := (Kd.V_at (base := w.heap.size) HO_4.out).2.2
              have hcut35 := cut_from (P := Tryd.prog) 45 9 .i64 Tryd.underlying45 hi035 1 hsz35 (some ad168) x4_2.length co32 1 (by omega) q35
              have hr35 := Kd.F_cut (m := (1 : Int).toNat) (c := co32) hC35 (by omega) hroom35
              obtain ⟨A35, hA35⟩ : ∃ A1, A1 = (if co32 = (1 : Int).toNat then (some ad168) else ((some ad168) : Option Addr).map (·.add ((1 : Int).toNat * 1))) := ⟨_, rfl⟩
              obtain ⟨c35, hc35⟩ : ∃ c1, c1 = co32 - (1 : Int).toNat := ⟨_, rfl⟩
              have hy35 : y174.length = x4_2.length - (1 : Int).toNat := (by rw [Ny174.out, List.length_drop] <;> omega)
              rw [show (x4_2).drop (1 : Int).toNat = y174 from Ny174.out.symm] at hr35
              replace hr35 : Kd.F Kd.string _ _ A35 y174.length y174 := (by rw [hA35]; exact hr35)
              rw [← hy35, ← hA35, ← hc35] at hcut35
              have HO178 := Aside0.mk (show Kd.V Kd.string 9 _ w.heap.size _ (.slice A35 y174.length c35) y174 from Kd.V_mk (by rw [hy35, hc35]; exact Nat.sub_le_sub_right hroom35 _) hr35)
              have HC178 := Aside0.mk (show y174.length ≤ c35 from by rw [hy35, hc35]; exact Nat.sub_le_sub_right hroom35 _)
              clear hr35 hC35 hroom35 hi035 hsz35 hc35
              have KY35 := Aside0.mk hy35
              have KA35 := Aside0.mk hA35
              clear hy35 hA35
              replace q35 := eq_true q35
              refine start_ (n := 10) (S := fun w' => w'.cell? ⟨gb162, 0, none⟩ = some (.int .i64 t161) ∧ w'.cell? ⟨gb162, 1, none⟩ = some (.string (⟨#[]⟩ : ByteArray)) ∧ w'.cell? ⟨gb162, 2, none⟩ = some (.string (⟨#[]⟩ : ByteArray)) ∧ w'.cell? ⟨gb162, 3, none⟩ = some (u163003)) (ds := [8]) #[false, false, false, false, false, false, false, false, false, false] (by kernel_rfl) rfl rfl ⟨(blk_cell BK162.out 0).trans rfl, (blk_cell BK162.out 1).trans rfl, (blk_cell BK162.out 2).trans rfl, (blk_cell BK162.out 3).trans rfl⟩ (fun hHeld => ?_); refine with_tabW line_Parse.tab9 line_Parse.bits9 (fun HT_ HW_ => ?_)
              generalize w33.drew = w34 at HO_4 HO_163003 BK153 BK162 HB HO178 hHeld ⊢
              refine pure_ (i := 0) (N := some 48) (v := ?_) (a' := ?_) #[true, false, false, false, false, false, false, false, false, false] rfl rfl (any_of HT_.out (by kernel_rfl)) (fun _ _ _ h => h) (Or.inl ⟨by rfl, ?_⟩) ?_ ?_
              rotate_left
              ·intro w'
               go_simp
               with_reducible rfl
              rotate_left
              ·simp only [Act.put, List.setIfInBounds_toArray, List.set_cons_zero, List.set_cons_succ, i64_w, i32_w]
               rfl
              refine pure_ (i := 2) (N := some 50) (v := ?_) (a' := ?_) #[true, false, true, false, false, false, false, false, false, false] rfl rfl (any_of HT_.out (by kernel_rfl)) (fun _ _ _ h => h) (Or.inl ⟨by rfl, ?_⟩) ?_ ?_
              rotate_left
              ·intro w'
               go_simp
               with_reducible rfl
              rotate_left
              ·simp only [Act.put, List.setIfInBounds_toArray, List.set_cons_zero, List.set_cons_succ, i64_w, i32_w]
               rfl
              refine pure_ (i := 5) (N := some 53) (v := ?_) (a' := ?_) #[true, false, true, false, false, true, false, false, false, false] rfl rfl (any_of HT_.out (by kernel_rfl)) (fun _ _ _ h => h) (Or.inl ⟨by rfl, ?_⟩) ?_ ?_
              rotate_left
              ·intro w'
               go_simp
               with_reducible rfl
              rotate_left
              ·simp only [Act.put, List.setIfInBounds_toArray, List.set_cons_zero, List.set_cons_succ, i64_w, i32_w]
               rfl
              refine pure_ (i := 6) (N := some 54) (v := ?_) (a' := ?_) #[true, false, true, false, false, true, true, false, false, false] rfl rfl (any_of HT_.out (by kernel_rfl)) (fun _ _ _ h => h) (Or.inl ⟨by rfl, ?_⟩) ?_ ?_
              rotate_left
              ·intro w'
               go_simp
               with_reducible rfl
              rotate_left
              ·simp only [Act.put, List.setIfInBounds_toArray, List.set_cons_zero, List.set_cons_succ, i64_w, i32_w]
               rfl
              refine take_ (i := 1) (N := some 49) (v := ?_) (a' := ?_) #[true, true, true, false, false, true, true, false, false, false] rfl rfl (take_ofW HT_.out HW_.out (by kernel_rfl)) (fun _ _ _ h => h) (Or.inl ⟨by rfl, ?_⟩) hHeld ?_ ?_
              rotate_left
              ·rintro w' ⟨s0, s1, s2, s3⟩
               go_simp
               with_reducible rfl
              rotate_left
              ·simp only [Act.put, List.setIfInBounds_toArray, List.set_cons_zero, List.set_cons_succ, i64_w, i32_w]
               rfl
              refine one_ (i := 3) (N := some 51) #[true, true, true, true, false, true, true, false, false, false] rfl rfl (one_of HT_.out (by kernel_rfl)) (by decide) (fun K hK => ?_)
              refine value_ (w1 := ?_) (v := ?_) (by rfl) rfl ?_ ?_
              rotate_left 2
              ·go_simp
               constructor
               ·rfl
               ·rfl
              refine hK.out _ _ ⟨(blk_cell (blk_alloc BK162.out _) 0).trans rfl, (blk_cell (blk_alloc BK162.out _) 1).trans rfl, (blk_cell (blk_alloc BK162.out _) 2).trans rfl, (blk_cell (blk_alloc BK162.out _) 3).trans rfl⟩ (fun hHeld => ?_)
              clear hK K
              refine norm_ (a' := ?_) ?_ ?_
              rotate_left
              ·show Act.put _ (some 51) _ = _
               simp only [Act.put, List.setIfInBounds_toArray, List.set_cons_zero, List.set_cons_succ, i64_w, i32_w]
               rfl
              refine one_ (i := 4) (N := some 52) #[true, true, true, true, true, true, true, false, false, false] rfl rfl (one_of HT_.out (by kernel_rfl)) (by decide) (fun K hK => ?_)
              refine Kd.R_append_step (Kd.int .i64) (w0 := w) w.heap.size (by rfl) (.tmp 49) (.tmp 51) 22 3 (.int .i64 0) 8 rfl Tryd.underlying22 info3 rfl (by decide) (by omega) u163003 x163003_2 t169 [.int .i64 t169] (fun _ => True) (fun _ => False) rfl rfl ?aP (fun _ hk => hk.elim) ?aF ?aO ?aB ?aS ?aL ?_
              (case aP => exact rfl)
              (case aB => exact (by repeat (first | (with_reducible first | exact HB.out | apply below_alloc | apply pw_below_drewN | apply below_drew1 | refine below_set ?_ GE153.out | refine below_set ?_ GE162.out) | exact HB.out)))
              (case aF => exact (fun _ _ => trivial))
              (case aO => exact (by (with_reducible repeat (first | apply ra | apply rb | apply rc)); exact HO_163003.out))
              (case aS => exact (below_size (by repeat (first | (with_reducible first | exact HB.out | apply below_alloc | apply pw_below_drewN | apply below_drew1 | refine below_set ?_ GE153.out | refine below_set ?_ GE162.out) | exact HB.out))))
              (case aL => have := LMc30.out; omega)
              intro v172 w36 ho hb hg hat
              rw [← Ny171.out] at ho
              have n0_ := Aside0.mk (Kd.V_afterv (ok := (fun k_ => k_ ≠ gb153 ∧ k_ ≠ gb162)) (by (with_reducible repeat (first | apply va | apply vb | apply vc)); exact Kd.V_mono HO_4.out (fun _ hk => ⟨⟨hk.2.1, hk.2.2⟩, hk.1⟩)) hg hat)
              have n1_ := Aside0.mk (blk_grown (g := gb153) (o := .cells #[.int .i64 0, .string (⟨#[]⟩ : ByteArray), .string (⟨#[]⟩ : ByteArray), .slice none 0 0] 24 (0, 0)) (by (with_reducible repeat (first | refine kc ?_ _ | refine kb ?_ | refine ka ?_ _)); exact BK153.out) hg (Kd.R_ne HO_163003.out BK153.out (by decide)))
              have n2_ := Aside0.mk (blk_grown (g := gb162) (o := .cells #[.int .i64 t161, .string (⟨#[]⟩ : ByteArray), .string (⟨#[]⟩ : ByteArray), u163003] 24 (0, 0)) (by (with_reducible repeat (first | refine kc ?_ _ | refine kb ?_ | refine ka ?_ _)); exact BK162.out) hg (Kd.R_ne HO_163003.out BK162.out (by decide)))
              have n3_ := Aside0.mk (Kd.V_afterv (ok := (fun k_ => k_ ≠ gb153 ∧ k_ ≠ gb162)) (by (with_reducible repeat (first | apply va | apply vb | apply vc)); exact Kd.V_mono HO178.out (fun _ hk => ⟨⟨hk.2.1, hk.2.2⟩, hk.1⟩)) hg hat)
              have n4_ := Aside0.mk (hb)
              have n5_ := Aside0.mk (ho)
              clear HO_4
              clear BK153
              clear BK162
              clear HO178
              clear HB
              clear HO_163003
              have HO_4 := n0_
              have BK153 := n1_
              have BK162 := n2_
              have HO178 := n3_
              have HB := n4_
              have HO173 := n5_
              clear n0_ n1_ n2_ n3_ n4_ n5_
              clear ho hb hg hat
              obtain ⟨Ao37, co37, eo37⟩ := Kd.R_slice HO173.out
              (first | subst eo37 | (injection eo37 with f1_ f2_ f3_; have f4_ := f1_.symm; have f5_ := f3_.symm; clear f1_ f2_ f3_; subst f4_; subst f5_))
              refine hK.out _ _ ⟨(blk_cell BK162.out 0).trans rfl, (blk_cell BK162.out 1).trans rfl, (blk_cell BK162.out 2).trans rfl, (blk_cell BK162.out 3).trans rfl⟩ (fun hHeld => ?_)
              clear hK K
              refine norm_ (a' := ?_) ?_ ?_
              rotate_left
              ·show Act.put _ (some 52) _ = _
               simp only [Act.put, List.setIfInBounds_toArray, List.set_cons_zero, List.set_cons_succ, i64_w, i32_w]
               rfl
              refine pure_ (i := 7) (N := some 55) (v := ?_) (a' := ?_) #[true, true, true, true, true, true, true, true, false, false] rfl rfl (any_of HT_.out (by kernel_rfl)) (fun _ _ _ h => h) (Or.inl ⟨by rfl, ?_⟩) ?_ ?_
              rotate_left
              ·intro w'
               go_simp
               with_reducible rfl
              rotate_left
              ·simp only [Act.put, List.setIfInBounds_toArray, List.set_cons_zero, List.set_cons_succ, i64_w, i32_w]
               rfl
              refine last_ (i := 8) (N := none) #[true, true, true, true, true, true, true, true, true, false] rfl rfl (one_of HT_.out (by kernel_rfl)) (by decide) (fun K hK => ?_)
              have hs38 : w36.cell? ⟨gb162, 3, none⟩ = some (u163003) := (blk_cell BK162.out 3).trans rfl
              have hfs38 := blk_frozen BK162.out 3
              have hns38_0 := NB153_162.out
              have hms38_0 := NB162_153.out
              refine skip_ (w1 := ?_) (by rfl) rfl ?_ ?_
              rotate_left
              ·go_simp
               rfl
              refine hK.out _ _ ?_
              clear hK K
              refine pure_ (i := 9) (N := some 4) (v := ?_) (a' := ?_) #[true, true, true, true, true, true, true, true, true, true] rfl rfl (any_of HT_.out (by kernel_rfl)) (fun _ _ _ h => h) (Or.inl ⟨by rfl, ?_⟩) ?_ ?_
              rotate_left
              ·intro w'
               go_simp
               with_reducible rfl
              rotate_left
              ·simp only [Act.put, List.setIfInBounds_toArray, List.set_cons_zero, List.set_cons_succ, i64_w, i32_w]
               rfl
              refine done_ (done_of HT_.out (by kernel_rfl)) ?_
              try go_wp2
              go_roundg k2
              case measure => have := HJ2.out; have := HK2.out; omega
              case rel => exact ⟨(y174), (y171), (.slice Ao37 y171.length co37), H', ⟨by have := HJ2.out; have := HK2.out; omega⟩, ⟨by (with_reducible repeat (first | apply va | apply vb | apply vc)); exact Kd.V_mono (Kd.V_far (p := ⟨gb162, 3, none⟩) (Kd.V_mono HO178.out (fun k_ hk => (⟨hk, hk.1.2⟩ : _ ∧ k_ ≠ gb162))) (fun _ hk => hk.2) (.slice Ao37 y171.length co37)) (fun _ hk => ⟨hk.1.2, ⟨hk.1.1.1, hk.1.1.2⟩⟩)⟩, ⟨by (with_reducible repeat (first | apply ra | apply rb | apply rc)); exact Kd.R_mono (Kd.R_far (p := ⟨gb162, 3, none⟩) (Kd.R_types HO173.out BK162.out (by decide)) (fun _ hk => hk.2) (.slice Ao37 y171.length co37)) (fun _ hk => trivial)⟩, ⟨by (with_reducible repeat (first | refine kc ?_ _ | refine kb ?_ | refine ka ?_ _)); refine blk_far ?_ NB153_162.out _; (with_reducible repeat (first | refine kc ?_ _ | refine kb ?_ | refine ka ?_ _)); exact BK153.out⟩, ⟨by (with_reducible repeat (first | refine kc ?_ _ | refine kb ?_ | refine ka ?_ _)); refine blk_put (cs := #[.int .i64 t161, .string (⟨#[]⟩ : ByteArray), .string (⟨#[]⟩ : ByteArray), u163003]) ?_ 3 _ rfl; (with_reducible repeat (first | refine kc ?_ _ | refine kb ?_ | refine ka ?_ _)); exact BK162.out⟩, ⟨by repeat (first | (with_reducible first | exact HB.out | apply below_alloc | apply pw_below_drewN | apply below_drew1 | refine below_set ?_ GE153.out | refine below_set ?_ GE162.out) | exact HB.out)⟩⟩
             ·rw [if_neg c31] at H
              exact absurd H (by simp)
            ·rw [if_neg c30] at H
             exact absurd H (by simp)
           ·replace c29 := Bool.eq_false_iff.mpr c29
            subst c29
            have H1 : (line_Parse.j2 k2 x4_2 t161 (⟨#[]⟩ : ByteArray) (⟨#[]⟩ : ByteArray) x163003_2) = some (r1, r2, r3, r4, r5) := by rw [if_neg (show ¬ (false = true) by decide)] at H; exact H
            clear H
            have H := H1
            clear H1
            have H' := Aside0.mk H
            clear H
            obtain ⟨Ao39, co39, eo39⟩ := Kd.V_slice HO_4.out
            subst eo39
            have p168 : 0 ≤ (0 : Int) := (by omega)
            have q168 : 0 < (x4_2.length : Int) := of_decide_eq_true (by first | (with_reducible assumption) | assumption)
            obtain ⟨ad168, e168, hx168_0⟩ := Kd.at_string (Kd.V_reads' HO_4.out).2.2 0 p168 q168
            cases e168
            have qi168 : (0 < x4_2.length) = True := eq_true (by omega)
            (try rw [show ((0 : Int)).toNat = 0 from rfl] at hx168_0)
            (try rw [Addr.add_zero'] at hx168_0)
            replace p168 := eq_true p168
            replace q168 := eq_true q168
            go_wp2_with (first | ((with_reducible refine gate_callee (f := 28) rfl ?_); refine goesL_ (some 43) rfl rfl Tryd.func28 (by kernel_rfl) rfl #[.string (rdOf ByteArray.empty x4_2 0)] rfl (by (try simp only [List.map_toArray, List.map_cons, List.map_nil]); first | done | rfl) ?_; (with_reducible refine (text_Number.calls (rdOf ByteArray.empty x4_2 0) t169 false _ A28.out (XTabs.Tabs.below HT.out (by repeat (first | (with_reducible first | exact HB.out | exact FB.out | exact HB | apply below_alloc | apply pw_below_drewN | apply below_drew1 | refine below_set ?_ (Aside0.out (by assumption))) | exact HB.out | exact FB.out)))).mono ?_); rintro e w40 ⟨rfl, hb⟩; refine ⟨_, rfl, ?_⟩; have n0_ := Aside0.mk (Kd.V_below (by (with_reducible repeat (first | apply va | apply vb | apply vc)); exact HO_4.out) hb); have n1_ := Aside0.mk (Kd.R_below (by (with_reducible repeat (first | apply ra | apply rb | apply rc)); exact HO_163003.out) hb); have n2_ := Aside0.mk (blk_below (g := gb153) (o := .cells #[.int .i64 0, .string (⟨#[]⟩ : ByteArray), .string (⟨#[]⟩ : ByteArray), .slice none 0 0] 24 (0, 0)) (by (with_reducible repeat (first | refine kc ?_ _ | refine kb ?_ | refine ka ?_ _)); exact BK153.out) hb); have n3_ := Aside0.mk (blk_below (g := gb162) (o := .cells #[.int .i64 t161, .string (⟨#[]⟩ : ByteArray), .string (⟨#[]⟩ : ByteArray), u163003] 24 (0, 0)) (by (with_reducible repeat (first | refine kc ?_ _ | refine kb ?_ | refine ka ?_ _)); exact BK162.out) hb); have n4_ := Aside0.mk (below_step (by repeat (first | (with_reducible first | exact HB.out | apply below_alloc | apply pw_below_drewN | apply below_drew1 | refine below_set ?_ GE153.out | refine below_set ?_ GE162.out) | exact HB.out)) hb); clear HO_4; clear HO_163003; clear BK153; clear BK162; clear HB; have HO_4 := n0_; have HO_163003 := n1_; have BK153 := n2_; have BK162 := n3_; have HB := n4_; clear n0_ n1_ n2_ n3_ n4_; (try clear hb); (try clear hb2); (try clear hk); (try clear hi)))
            go_meet
            case rel => exact ⟨_, (x4_2), (x163003_2), (u163003), H', ⟨by have := HJ2.out; have := HK2.out; first | omega | exact Nat.le_refl _⟩, ⟨by (with_reducible repeat (first | apply va | apply vb | apply vc)); exact HO_4.out⟩, ⟨by (with_reducible repeat (first | apply ra | apply rb | apply rc)); exact HO_163003.out⟩, ⟨by (with_reducible repeat (first | refine kc ?_ _ | refine kb ?_ | refine ka ?_ _)); exact BK153.out⟩, ⟨by (with_reducible repeat (first | refine kc ?_ _ | refine kb ?_ | refine ka ?_ _)); exact BK162.out⟩, ⟨by repeat (first | (with_reducible first | exact HB.out | apply below_alloc | apply pw_below_drewN | apply below_drew1 | refine below_set ?_ GE153.out | refine below_set ?_ GE162.out) | exact HB.out)⟩⟩
          ·rw [if_neg c27] at H
           exact absurd H (by simp)
         ·rw [if_neg c26] at H
          have c26b0 : decide (0 < (x4_2.length : Int)) = false := decide_eq_false c26
          have c26b1 : decide (0 < x4_2.length) = false := decide_eq_false (by omega)
          clear c26
          (first | rw [c26b0] | (simp only [i64_w, i32_w]; rw [c26b0]) | skip)
          have H' := Aside0.mk H
          clear H
          obtain ⟨Ao41, co41, eo41⟩ := Kd.V_slice HO_4.out
          subst eo41
          go_wp2
          go_meet
          case rel => exact ⟨_, (x4_2), (x163003_2), (u163003), H', ⟨by have := HJ2.out; have := HK2.out; first | omega | exact Nat.le_refl _⟩, ⟨by (with_reducible repeat (first | apply va | apply vb | apply vc)); exact HO_4.out⟩, ⟨by (with_reducible repeat (first | apply ra | apply rb | apply rc)); exact HO_163003.out⟩, ⟨by (with_reducible repeat (first | refine kc ?_ _ | refine kb ?_ | refine ka ?_ _)); exact BK153.out⟩, ⟨by (with_reducible repeat (first | refine kc ?_ _ | refine kb ?_ | refine ka ?_ _)); exact BK162.out⟩, ⟨by repeat (first | (with_reducible first | exact HB.out | apply below_alloc | apply pw_below_drewN | apply below_drew1 | refine below_set ?_ GE153.out | refine below_set ?_ GE162.out) | exact HB.out)⟩⟩
      case rest =>
       clear HC18
       try clear c1
       try clear p1
       try clear q1
       try clear hx1
       try clear qi1
       try clear c2
       try clear p2
       try clear q2
       try clear c3
       try clear q3
       try clear c6
       try clear c6b0
       try clear c6b1
       try clear c7
       try clear c7b0
       try clear c7b1
       try clear c7b2
       try clear c9
       try clear c9b0
       try clear c9b1
       try clear c13
       try clear c15
       try clear c15b0
       try clear c15b1
       try clear p15
       try clear q15
       try clear hx15
       try clear qi15
       try clear p16
       try clear q16
       try clear hx16
       try clear qi16
       try clear c17
       try clear c17b0
       try clear c17b1
       try clear c18
       try clear c22
       try clear c25
       try clear q25
       try clear c26
       try clear c26b0
       try clear c26b1
       try clear c27
       try clear c27b0
       try clear c27b1
       try clear c28
       try clear c29
       try clear c30
       try clear c31
       try clear c31b0
       try clear c31b1
       try clear c35
       try clear q35
       try clear c38
       try clear hcz14_0
       try clear hcz14_1
       try clear hcz14_2
       try clear hcz14_3
       try clear hcz23_0
       try clear hcz23_1
       try clear hcz23_2
       try clear hcz23_3
       try clear hfz14_0
       try clear hfz14_1
       try clear hfz14_2
       try clear hfz14_3
       try clear hfz23_0
       try clear hfz23_1
       try clear hfz23_2
       try clear hfz23_3
       try clear hx158_0
       try clear hx160_0
       try clear hx168_0
       try clear p1
       try clear p15
       try clear p158
       try clear p16
       try clear p160
       try clear p168
       try clear p2
       try clear q1
       try clear q15
       try clear q158
       try clear q16
       try clear q160
       try clear q168
       try clear q2
       try clear q25
       try clear q35
       obtain ⟨kq, x4_17, x163003_17, u163003, HA, HJ17, HO_4, HO_163003, BK153, BK162, HB⟩ := hcut
       cases kq with
       | zero => exact absurd HA.out (by simp [line_Parse.j2])
       | succ kj17 =>
        have H := HA.out
        clear HA
        simp only [line_Parse.j2] at H
        replace H := Option.bind_eq_some_iff.mp H
        obtain ⟨⟨t179, t180⟩, A420, H⟩ := H
        replace H : ((line_named.f t180 (⟨#[107, 101, 121]⟩ : ByteArray)).bind fun bt183 => (if (bt183.2.length : Int) > 0 then (some (0, (⟨#[]⟩ : ByteArray), (⟨#[]⟩ : ByteArray), ([] : List Int), 11)) else (some (t161, bt183.1, t179, x163003_17, 0)))) = some (r1, r2, r3, r4, r5) := H
        have A42 := Aside0.mk A420
        clear A420
        replace H := Option.bind_eq_some_iff.mp H
        obtain ⟨⟨t183, t184⟩, A430, H⟩ := H
        replace H : (if (t184.length : Int) > 0 then (some (0, (⟨#[]⟩ : ByteArray), (⟨#[]⟩ : ByteArray), ([] : List Int), 11)) else (some (t161, t183, t179, x163003_17, 0))) = some (r1, r2, r3, r4, r5) := H
        have A43 := Aside0.mk A430
        clear A430
        by_cases c44 : (t184.length : Int) > 0
        ·rw [if_pos c44] at H
         have c44b0 : decide (0 < (t184.length : Int)) = true := decide_eq_true c44
         have c44b1 : decide (0 < t184.length) = true := decide_eq_true (by omega)
         clear c44
         simp only [Option.some.injEq, Prod.mk.injEq] at H
         obtain ⟨rfl, rfl, rfl, rfl, rfl⟩ := H
         obtain ⟨Ao45, co45, eo45⟩ := Kd.V_slice HO_4.out
         subst eo45
         go_wp2_with (first | ((with_reducible refine gate_callee (f := 39) rfl ?_); refine goesL_ (some 58) rfl rfl Tryd.func39 (by kernel_rfl) rfl #[.slice Ao45 x4_17.length co45, .string (⟨#[110, 97, 109, 101]⟩ : ByteArray)] rfl (by (try simp only [List.map_toArray, List.map_cons, List.map_nil]); first | done | rfl) ?_; (with_reducible refine (line_named.calls (fun k_ => (some k_ ≠ (u163003 : Value).ownBlock ∧ (k_ ≠ gb153 ∧ k_ ≠ gb162))) _ _ x4_17 (⟨#[110, 97, 109, 101]⟩ : ByteArray) t179 t180 _ ?side1 A42.out).mono ?_); (case side1 => exact HO_4.out); rintro e w46 ⟨v181, rfl, ho0, hb⟩; refine ⟨_, rfl, ?_⟩; have n0_ := Aside0.mk (Kd.V_below (by (with_reducible repeat (first | apply va | apply vb | apply vc)); exact HO_4.out) hb); have n1_ := Aside0.mk (Kd.R_below (by (with_reducible repeat (first | apply ra | apply rb | apply rc)); exact HO_163003.out) hb); have n2_ := Aside0.mk (Kd.V_lower (Kd.V_mono (ok' := fun k_ => some k_ ≠ (u163003 : Value).ownBlock ∧ k_ ≠ gb153 ∧ k_ ≠ gb162) ho0 (fun k_ hk_ => ⟨Or.elim hk_ (fun hs_ => hs_.1) (fun hn_ => (Kd.fresh' (Kd.R_lt (by (with_reducible repeat (first | apply ra | apply rb | apply rc)); exact HO_163003.out)) k_ hn_)), Or.elim hk_ (fun hs_ => hs_.2.1) (fun hn_ => (Kd.freshB (g := gb153) (o := .cells #[.int .i64 0, .string (⟨#[]⟩ : ByteArray), .string (⟨#[]⟩ : ByteArray), .slice none 0 0] 24 (0, 0)) (by (with_reducible repeat (first | refine kc ?_ _ | refine kb ?_ | refine ka ?_ _)); exact BK153.out) k_ hn_)), Or.elim hk_ (fun hs_ => hs_.2.2) (fun hn_ => (Kd.freshB (g := gb162) (o := .cells #[.int .i64 t161, .string (⟨#[]⟩ : ByteArray), .string (⟨#[]⟩ : ByteArray), u163003] 24 (0, 0)) (by (with_reducible repeat (first | refine kc ?_ _ | refine kb ?_ | refine ka ?_ _)); exact BK162.out) k_ hn_))⟩)) (below_size (by repeat (first | (with_reducible first | exact HB.out | apply below_alloc | apply pw_below_drewN | apply below_drew1 | refine below_set ?_ GE153.out | refine below_set ?_ GE162.out) | exact HB.out)))); have n3_ := Aside0.mk (blk_below (g := gb153) (o := .cells #[.int .i64 0, .string (⟨#[]⟩ : ByteArray), .string (⟨#[]⟩ : ByteArray), .slice none 0 0] 24 (0, 0)) (by (with_reducible repeat (first | refine kc ?_ _ | refine kb ?_ | refine ka ?_ _)); exact BK153.out) hb); have n4_ := Aside0.mk (blk_below (g := gb162) (o := .cells #[.int .i64 t161, .string (⟨#[]⟩ : ByteArray), .string (⟨#[]⟩ : ByteArray), u163003] 24 (0, 0)) (by (with_reducible repeat (first | refine kc ?_ _ | refine kb ?_ | refine ka ?_ _)); exact BK162.out) hb); have n5_ := Aside0.mk (below_step (by repeat (first | (with_reducible first | exact HB.out | apply below_alloc | apply pw_below_drewN | apply below_drew1 | refine below_set ?_ GE153.out | refine below_set ?_ GE162.out) | exact HB.out)) hb); clear HO_4; clear HO_163003; clear BK153; clear BK162; clear HB; have HO_4 := n0_; have HO_163003 := n1_; have HO182 := n2_; have BK153 := n3_; have BK162 := n4_; have HB := n5_; clear n0_ n1_ n2_ n3_ n4_ n5_; (try clear hb); (try clear hb2); (try clear hk); (try clear hi); (try clear ho0); have hnb47 := NB162_153.out; have hnc47 := NB153_162.out; have hcz48_0 : w46.cell? ⟨gb162, 0, none⟩ = some (.int .i64 t161) := (blk_cell BK162.out 0).trans rfl; have hcz48_1 : w46.cell? ⟨gb162, 1, none⟩ = some (.string (⟨#[]⟩ : ByteArray)) := (blk_cell BK162.out 1).trans rfl; have hcz48_2 : w46.cell? ⟨gb162, 2, none⟩ = some (.string (⟨#[]⟩ : ByteArray)) := (blk_cell BK162.out 2).trans rfl; have hcz48_3 : w46.cell? ⟨gb162, 3, none⟩ = some (u163003) := (blk_cell BK162.out 3).trans rfl; have hfz48_0 := blk_frozen BK162.out 0; have hfz48_1 := blk_frozen BK162.out 1; have hfz48_2 := blk_frozen BK162.out 2; have hfz48_3 := blk_frozen BK162.out 3) | ((with_reducible refine gate_store (t := 9) (p := 61) rfl ?_); refine store_event (t := 9) (p := 61) (v := ?vo_w49) (w1 := (w46.setCell ⟨gb162, 2, none⟩ (.string t179))) ?hg ?ho ?hn ?hr ?_; (case ho => rfl); (case hg => rfl); (case hn => rfl); (case hr => first | (go_simp; done) | (go_simp; rfl)); intro w49 hw; have n0_ : Aside0 (Kd.V Kd.string 9 w49 w.heap.size (fun k_ => some k_ ≠ (u163003 : Value).ownBlock ∧ k_ ≠ gb153 ∧ k_ ≠ gb162) (.slice Ao45 x4_17.length co45) x4_17) := ⟨(by rw [hw]; exact (by (with_reducible repeat (first | apply va | apply vb | apply vc)); exact Kd.V_mono (Kd.V_far (p := ⟨gb162, 2, none⟩) (Kd.V_mono HO_4.out (fun k_ hk => (⟨hk, hk.2.2⟩ : _ ∧ k_ ≠ gb162))) (fun _ hk => hk.2) (.string t179)) (fun _ hk => ⟨hk.1.1, ⟨hk.1.2.1, hk.1.2.2⟩⟩)))⟩; have n1_ : Aside0 (Kd.R (Kd.int .i64) 3 w49 w.heap.size (fun _ => True) u163003 x163003_17) := ⟨(by rw [hw]; exact (by (with_reducible repeat (first | apply ra | apply rb | apply rc)); exact Kd.R_mono (Kd.R_far (p := ⟨gb162, 2, none⟩) (Kd.R_types HO_163003.out BK162.out (by decide)) (fun _ hk => hk.2) (.string t179)) (fun _ hk => trivial)))⟩; have n2_ : Aside0 (Kd.V Kd.string 9 w49 w.heap.size (fun k_ => some k_ ≠ (u163003 : Value).ownBlock ∧ k_ ≠ gb153 ∧ k_ ≠ gb162) v181 t180) := ⟨(by rw [hw]; exact (by (with_reducible repeat (first | apply va | apply vb | apply vc)); exact Kd.V_mono (Kd.V_far (p := ⟨gb162, 2, none⟩) (Kd.V_mono HO182.out (fun k_ hk => (⟨hk, hk.2.2⟩ : _ ∧ k_ ≠ gb162))) (fun _ hk => hk.2) (.string t179)) (fun _ hk => ⟨hk.1.1, ⟨hk.1.2.1, hk.1.2.2⟩⟩)))⟩; have n3_ : Aside0 (w49.heap[gb153]? = some (.cells #[.int .i64 0, .string (⟨#[]⟩ : ByteArray), .string (⟨#[]⟩ : ByteArray), .slice none 0 0] 24 (0, 0))) := ⟨(by rw [hw]; exact (by (with_reducible repeat (first | refine kc ?_ _ | refine kb ?_ | refine ka ?_ _)); refine blk_far ?_ NB153_162.out _; (with_reducible repeat (first | refine kc ?_ _ | refine kb ?_ | refine ka ?_ _)); exact BK153.out))⟩; have n4_ : Aside0 (w49.heap[gb162]? = some (.cells #[.int .i64 t161, .string (⟨#[]⟩ : ByteArray), .string t179, u163003] 24 (0, 0))) := ⟨(by rw [hw]; exact (by (with_reducible repeat (first | refine kc ?_ _ | refine kb ?_ | refine ka ?_ _)); refine blk_put (cs := #[.int .i64 t161, .string (⟨#[]⟩ : ByteArray), .string (⟨#[]⟩ : ByteArray), u163003]) ?_ 2 _ rfl; (with_reducible repeat (first | refine kc ?_ _ | refine kb ?_ | refine ka ?_ _)); exact BK162.out))⟩; have n5_ : Aside0 (Below w.heap.size w w49) := ⟨(by rw [hw]; exact (by repeat (first | (with_reducible first | exact HB.out | apply below_alloc | apply pw_below_drewN | apply below_drew1 | refine below_set ?_ GE153.out | refine below_set ?_ GE162.out) | exact HB.out)))⟩; clear hw; clear HO_4; clear HO_163003; clear HO182; clear BK153; clear BK162; clear HB; have HO_4 := n0_; have HO_163003 := n1_; have HO182 := n2_; have BK153 := n3_; have BK162 := n4_; have HB := n5_; clear n0_ n1_ n2_ n3_ n4_ n5_; obtain ⟨Ao50, co50, eo50⟩ := Kd.V_slice HO182.out; subst eo50) | ((with_reducible refine gate_callee (f := 39) rfl ?_); refine goesL_ (some 64) rfl rfl Tryd.func39 (by kernel_rfl) rfl #[.slice Ao50 t180.length co50, .string (⟨#[107, 101, 121]⟩ : ByteArray)] rfl (by (try simp only [List.map_toArray, List.map_cons, List.map_nil]); first | done | rfl) ?_; (with_reducible refine (line_named.calls (fun k_ => (some k_ ≠ (u163003 : Value).ownBlock ∧ (k_ ≠ gb153 ∧ k_ ≠ gb162))) _ _ t180 (⟨#[107, 101, 121]⟩ : ByteArray) t183 t184 _ ?side1 A43.out).mono ?_); (case side1 => exact HO182.out); rintro e w51 ⟨v185, rfl, ho0, hb⟩; refine ⟨_, rfl, ?_⟩; have n0_ := Aside0.mk (Kd.V_below (by (with_reducible repeat (first | apply va | apply vb | apply vc)); exact HO_4.out) hb); have n1_ := Aside0.mk (Kd.R_below (by (with_reducible repeat (first | apply ra | apply rb | apply rc)); exact HO_163003.out) hb); have n2_ := Aside0.mk (Kd.V_below (by (with_reducible repeat (first | apply va | apply vb | apply vc)); exact HO182.out) hb); have n3_ := Aside0.mk (Kd.V_lower (Kd.V_mono (ok' := fun k_ => some k_ ≠ (u163003 : Value).ownBlock ∧ k_ ≠ gb153 ∧ k_ ≠ gb162) ho0 (fun k_ hk_ => ⟨Or.elim hk_ (fun hs_ => hs_.1) (fun hn_ => (Kd.fresh' (Kd.R_lt (by (with_reducible repeat (first | apply ra | apply rb | apply rc)); exact HO_163003.out)) k_ hn_)), Or.elim hk_ (fun hs_ => hs_.2.1) (fun hn_ => (Kd.freshB (g := gb153) (o := .cells #[.int .i64 0, .string (⟨#[]⟩ : ByteArray), .string (⟨#[]⟩ : ByteArray), .slice none 0 0] 24 (0, 0)) (by (with_reducible repeat (first | refine kc ?_ _ | refine kb ?_ | refine ka ?_ _)); exact BK153.out) k_ hn_)), Or.elim hk_ (fun hs_ => hs_.2.2) (fun hn_ => (Kd.freshB (g := gb162) (o := .cells #[.int .i64 t161, .string (⟨#[]⟩ : ByteArray), .string t179, u163003] 24 (0, 0)) (by (with_reducible repeat (first | refine kc ?_ _ | refine kb ?_ | refine ka ?_ _)); exact BK162.out) k_ hn_))⟩)) (below_size (by repeat (first | (with_reducible first | exact HB.out | apply below_alloc | apply pw_below_drewN | apply below_drew1 | refine below_set ?_ GE153.out | refine below_set ?_ GE162.out) | exact HB.out)))); have n4_ := Aside0.mk (blk_below (g := gb153) (o := .cells #[.int .i64 0, .string (⟨#[]⟩ : ByteArray), .string (⟨#[]⟩ : ByteArray), .slice none 0 0] 24 (0, 0)) (by (with_reducible repeat (first | refine kc ?_ _ | refine kb ?_ | refine ka ?_ _)); exact BK153.out) hb); have n5_ := Aside0.mk (blk_below (g := gb162) (o := .cells #[.int .i64 t161, .string (⟨#[]⟩ : ByteArray), .string t179, u163003] 24 (0, 0)) (by (with_reducible repeat (first | refine kc ?_ _ | refine kb ?_ | refine ka ?_ _)); exact BK162.out) hb); have n6_ := Aside0.mk (below_step (by repeat (first | (with_reducible first | exact HB.out | apply below_alloc | apply pw_below_drewN | apply below_drew1 | refine below_set ?_ GE153.out | refine below_set ?_ GE162.out) | exact HB.out)) hb); clear HO_4; clear HO_163003; clear HO182; clear BK153; clear BK162; clear HB; have HO_4 := n0_; have HO_163003 := n1_; have HO182 := n2_; have HO186 := n3_; have BK153 := n4_; have BK162 := n5_; have HB := n6_; clear n0_ n1_ n2_ n3_ n4_ n5_ n6_; (try clear hb); (try clear hb2); (try clear hk); (try clear hi); (try clear ho0); have hcz52_0 : w51.cell? ⟨gb162, 0, none⟩ = some (.int .i64 t161) := (blk_cell BK162.out 0).trans rfl; have hcz52_1 : w51.cell? ⟨gb162, 1, none⟩ = some (.string (⟨#[]⟩ : ByteArray)) := (blk_cell BK162.out 1).trans rfl; have hcz52_2 : w51.cell? ⟨gb162, 2, none⟩ = some (.string t179) := (blk_cell BK162.out 2).trans rfl; have hcz52_3 : w51.cell? ⟨gb162, 3, none⟩ = some (u163003) := (blk_cell BK162.out 3).trans rfl; have hfz52_0 := blk_frozen BK162.out 0; have hfz52_1 := blk_frozen BK162.out 1; have hfz52_2 := blk_frozen BK162.out 2; have hfz52_3 := blk_frozen BK162.out 3; obtain ⟨Ao53, co53, eo53⟩ := Kd.V_slice HO186.out; subst eo53; have hcz54_0 : w51.cell? ⟨gb153, 0, none⟩ = some (.int .i64 0) := (blk_cell BK153.out 0).trans rfl; have hcz54_1 : w51.cell? ⟨gb153, 1, none⟩ = some (.string (⟨#[]⟩ : ByteArray)) := (blk_cell BK153.out 1).trans rfl; have hcz54_2 : w51.cell? ⟨gb153, 2, none⟩ = some (.string (⟨#[]⟩ : ByteArray)) := (blk_cell BK153.out 2).trans rfl; have hcz54_3 : w51.cell? ⟨gb153, 3, none⟩ = some (.slice none 0 0) := (blk_cell BK153.out 3).trans rfl; have hfz54_0 := blk_frozen BK153.out 0; have hfz54_1 := blk_frozen BK153.out 1; have hfz54_2 := blk_frozen BK153.out 2; have hfz54_3 := blk_frozen BK153.out 3))
         refine bodyPost_ret (results_ct rfl _ _ gb153 24 #[.int .i64 0, .string (⟨#[]⟩ : ByteArray), .string (⟨#[]⟩ : ByteArray), .slice none 0 0] (0, 0) _ rfl (by (with_reducible repeat (first | refine kc ?_ _ | refine kb ?_ | refine ka ?_ _)); refine blk_put (cs := #[.int .i64 0, .string (⟨#[]⟩ : ByteArray), .string (⟨#[]⟩ : ByteArray), .slice none 0 0]) ?_ 3 _ rfl; (with_reducible repeat (first | refine kc ?_ _ | refine kb ?_ | refine ka ?_ _)); refine blk_put (cs := #[.int .i64 0, .string (⟨#[]⟩ : ByteArray), .string (⟨#[]⟩ : ByteArray), .slice none 0 0]) ?_ 2 _ rfl; (with_reducible repeat (first | refine kc ?_ _ | refine kb ?_ | refine ka ?_ _)); refine blk_put (cs := #[.int .i64 0, .string (⟨#[]⟩ : ByteArray), .string (⟨#[]⟩ : ByteArray), .slice none 0 0]) ?_ 1 _ rfl; (with_reducible repeat (first | refine kc ?_ _ | refine kb ?_ | refine ka ?_ _)); refine blk_put (cs := #[.int .i64 0, .string (⟨#[]⟩ : ByteArray), .string (⟨#[]⟩ : ByteArray), .slice none 0 0]) ?_ 0 _ rfl; (with_reducible repeat (first | refine kc ?_ _ | refine kb ?_ | refine ka ?_ _)); refine blk_far ?_ NB153_162.out _; (with_reducible repeat (first | refine kc ?_ _ | refine kb ?_ | refine ka ?_ _)); exact BK153.out) Tryd.underlying24 rfl (by kernel_rfl)) rfl ?_
         exact ⟨_, by first | rfl | (simp [errW_none, errW_some] <;> rfl) | (simp [*, errW_none, errW_some] <;> rfl), by first | exact Kd.R_nil _ _ _ _ _ | exact Kd.N_nil _ _ _ _ _ | exact Kd.V_nil _ _ _ _ _ | exact Kd.Q_nil _ _ _ _ _ | exact Kd.S_nil _ _ _ _ _, by repeat (first | (with_reducible first | exact HB.out | apply below_alloc | apply pw_below_drewN | apply below_drew1 | refine below_set ?_ GE153.out | refine below_set ?_ GE162.out) | exact HB.out)⟩
        ·rw [if_neg c44] at H
         have c44b0 : decide (0 < (t184.length : Int)) = false := decide_eq_false c44
         have c44b1 : decide (0 < t184.length) = false := decide_eq_false (by omega)
         clear c44
         simp only [Option.some.injEq, Prod.mk.injEq] at H
         obtain ⟨rfl, rfl, rfl, rfl, rfl⟩ := H
         obtain ⟨Ao55, co55, eo55⟩ := Kd.V_slice HO_4.out
         subst eo55
         go_wp2_with (first | ((with_reducible refine gate_callee (f := 39) rfl ?_); refine goesL_ (some 58) rfl rfl Tryd.func39 (by kernel_rfl) rfl #[.slice Ao55 x4_17.length co55, .string (⟨#[110, 97, 109, 101]⟩ : ByteArray)] rfl (by (try simp only [List.map_toArray, List.map_cons, List.map_nil]); first | done | rfl) ?_; (with_reducible refine (line_named.calls (fun k_ => (some k_ ≠ (u163003 : Value).ownBlock ∧ (k_ ≠ gb153 ∧ k_ ≠ gb162))) _ _ x4_17 (⟨#[110, 97, 109, 101]⟩ : ByteArray) t179 t180 _ ?side1 A42.out).mono ?_); (case side1 => exact HO_4.out); rintro e w56 ⟨v181, rfl, ho0, hb⟩; refine ⟨_, rfl, ?_⟩; have n0_ := Aside0.mk (Kd.V_below (by (with_reducible repeat (first | apply va | apply vb | apply vc)); exact HO_4.out) hb); have n1_ := Aside0.mk (Kd.R_below (by (with_reducible repeat (first | apply ra | apply rb | apply rc)); exact HO_163003.out) hb); have n2_ := Aside0.mk (Kd.V_lower (Kd.V_mono (ok' := fun k_ => some k_ ≠ (u163003 : Value).ownBlock ∧ k_ ≠ gb153 ∧ k_ ≠ gb162) ho0 (fun k_ hk_ => ⟨Or.elim hk_ (fun hs_ => hs_.1) (fun hn_ => (Kd.fresh' (Kd.R_lt (by (with_reducible repeat (first | apply ra | apply rb | apply rc)); exact HO_163003.out)) k_ hn_)), Or.elim hk_ (fun hs_ => hs_.2.1) (fun hn_ => (Kd.freshB (g := gb153) (o := .cells #[.int .i64 0, .string (⟨#[]⟩ : ByteArray), .string (⟨#[]⟩ : ByteArray), .slice none 0 0] 24 (0, 0)) (by (with_reducible repeat (first | refine kc ?_ _ | refine kb ?_ | refine ka ?_ _)); exact BK153.out) k_ hn_)), Or.elim hk_ (fun hs_ => hs_.2.2) (fun hn_ => (Kd.freshB (g := gb162) (o := .cells #[.int .i64 t161, .string (⟨#[]⟩ : ByteArray), .string (⟨#[]⟩ : ByteArray), u163003] 24 (0, 0)) (by (with_reducible repeat (first | refine kc ?_ _ | refine kb ?_ | refine ka ?_ _)); exact BK162.out) k_ hn_))⟩)) (below_size (by repeat (first | (with_reducible first | exact HB.out | apply below_alloc | apply pw_below_drewN | apply below_drew1 | refine below_set ?_ GE153.out | refine below_set ?_ GE162.out) | exact HB.out)))); have n3_ := Aside0.mk (blk_below (g := gb153) (o := .cells #[.int .i64 0, .string (⟨#[]⟩ : ByteArray), .string (⟨#[]⟩ : ByteArray), .slice none 0 0] 24 (0, 0)) (by (with_reducible repeat (first | refine kc ?_ _ | refine kb ?_ | refine ka ?_ _)); exact BK153.out) hb); have n4_ := Aside0.mk (blk_below (g := gb162) (o := .cells #[.int .i64 t161, .string (⟨#[]⟩ : ByteArray), .string (⟨#[]⟩ : ByteArray), u163003] 24 (0, 0)) (by (with_reducible repeat (first | refine kc ?_ _ | refine kb ?_ | refine ka ?_ _)); exact BK162.out) hb); have n5_ := Aside0.mk (below_step (by repeat (first | (with_reducible first | exact HB.out | apply below_alloc | apply pw_below_drewN | apply below_drew1 | refine below_set ?_ GE153.out | refine below_set ?_ GE162.out) | exact HB.out)) hb); clear HO_4; clear HO_163003; clear BK153; clear BK162; clear HB; have HO_4 := n0_; have HO_163003 := n1_; have HO182 := n2_; have BK153 := n3_; have BK162 := n4_; have HB := n5_; clear n0_ n1_ n2_ n3_ n4_ n5_; (try clear hb); (try clear hb2); (try clear hk); (try clear hi); (try clear ho0); have hnb57 := NB162_153.out; have hnc57 := NB153_162.out; have hcz58_0 : w56.cell? ⟨gb162, 0, none⟩ = some (.int .i64 t161) := (blk_cell BK162.out 0).trans rfl; have hcz58_1 : w56.cell? ⟨gb162, 1, none⟩ = some (.string (⟨#[]⟩ : ByteArray)) := (blk_cell BK162.out 1).trans rfl; have hcz58_2 : w56.cell? ⟨gb162, 2, none⟩ = some (.string (⟨#[]⟩ : ByteArray)) := (blk_cell BK162.out 2).trans rfl; have hcz58_3 : w56.cell? ⟨gb162, 3, none⟩ = some (u163003) := (blk_cell BK162.out 3).trans rfl; have hfz58_0 := blk_frozen BK162.out 0; have hfz58_1 := blk_frozen BK162.out 1; have hfz58_2 := blk_frozen BK162.out 2; have hfz58_3 := blk_frozen BK162.out 3) | ((with_reducible refine gate_store (t := 9) (p := 61) rfl ?_); refine store_event (t := 9) (p := 61) (v := ?vo_w59) (w1 := (w56.setCell ⟨gb162, 2, none⟩ (.string t179))) ?hg ?ho ?hn ?hr ?_; (case ho => rfl); (case hg => rfl); (case hn => rfl); (case hr => first | (go_simp; done) | (go_simp; rfl)); intro w59 hw; have n0_ : Aside0 (Kd.V Kd.string 9 w59 w.heap.size (fun k_ => some k_ ≠ (u163003 : Value).ownBlock ∧ k_ ≠ gb153 ∧ k_ ≠ gb162) (.slice Ao55 x4_17.length co55) x4_17) := ⟨(by rw [hw]; exact (by (with_reducible repeat (first | apply va | apply vb | apply vc)); exact Kd.V_mono (Kd.V_far (p := ⟨gb162, 2, none⟩) (Kd.V_mono HO_4.out (fun k_ hk => (⟨hk, hk.2.2⟩ : _ ∧ k_ ≠ gb162))) (fun _ hk => hk.2) (.string t179)) (fun _ hk => ⟨hk.1.1, ⟨hk.1.2.1, hk.1.2.2⟩⟩)))⟩; have n1_ : Aside0 (Kd.R (Kd.int .i64) 3 w59 w.heap.size (fun _ => True) u163003 x163003_17) := ⟨(by rw [hw]; exact (by (with_reducible repeat (first | apply ra | apply rb | apply rc)); exact Kd.R_mono (Kd.R_far (p := ⟨gb162, 2, none⟩) (Kd.R_types HO_163003.out BK162.out (by decide)) (fun _ hk => hk.2) (.string t179)) (fun _ hk => trivial)))⟩; have n2_ : Aside0 (Kd.V Kd.string 9 w59 w.heap.size (fun k_ => some k_ ≠ (u163003 : Value).ownBlock ∧ k_ ≠ gb153 ∧ k_ ≠ gb162) v181 t180) := ⟨(by rw [hw]; exact (by (with_reducible repeat (first | apply va | apply vb | apply vc)); exact Kd.V_mono (Kd.V_far (p := ⟨gb162, 2, none⟩) (Kd.V_mono HO182.out (fun k_ hk => (⟨hk, hk.2.2⟩ : _ ∧ k_ ≠ gb162))) (fun _ hk => hk.2) (.string t179)) (fun _ hk => ⟨hk.1.1, ⟨hk.1.2.1, hk.1.2.2⟩⟩)))⟩; have n3_ : Aside0 (w59.heap[gb153]? = some (.cells #[.int .i64 0, .string (⟨#[]⟩ : ByteArray), .string (⟨#[]⟩ : ByteArray), .slice none 0 0] 24 (0, 0))) := ⟨(by rw [hw]; exact (by (with_reducible repeat (first | refine kc ?_ _ | refine kb ?_ | refine ka ?_ _)); refine blk_far ?_ NB153_162.out _; (with_reducible repeat (first | refine kc ?_ _ | refine kb ?_ | refine ka ?_ _)); exact BK153.out))⟩; have n4_ : Aside0 (w59.heap[gb162]? = some (.cells #[.int .i64 t161, .string (⟨#[]⟩ : ByteArray), .string t179, u163003] 24 (0, 0))) := ⟨(by rw [hw]; exact (by (with_reducible repeat (first | refine kc ?_ _ | refine kb ?_ | refine ka ?_ _)); refine blk_put (cs := #[.int .i64 t161, .string (⟨#[]⟩ : ByteArray), .string (⟨#[]⟩ : ByteArray), u163003]) ?_ 2 _ rfl; (with_reducible repeat (first | refine kc ?_ _ | refine kb ?_ | refine ka ?_ _)); exact BK162.out))⟩; have n5_ : Aside0 (Below w.heap.size w w59) := ⟨(by rw [hw]; exact (by repeat (first | (with_reducible first | exact HB.out | apply below_alloc | apply pw_below_drewN | apply below_drew1 | refine below_set ?_ GE153.out | refine below_set ?_ GE162.out) | exact HB.out)))⟩; clear hw; clear HO_4; clear HO_163003; clear HO182; clear BK153; clear BK162; clear HB; have HO_4 := n0_; have HO_163003 := n1_; have HO182 := n2_; have BK153 := n3_; have BK162 := n4_; have HB := n5_; clear n0_ n1_ n2_ n3_ n4_ n5_; obtain ⟨Ao60, co60, eo60⟩ := Kd.V_slice HO182.out; subst eo60) | ((with_reducible refine gate_callee (f := 39) rfl ?_); refine goesL_ (some 64) rfl rfl Tryd.func39 (by kernel_rfl) rfl #[.slice Ao60 t180.length co60, .string (⟨#[107, 101, 121]⟩ : ByteArray)] rfl (by (try simp only [List.map_toArray, List.map_cons, List.map_nil]); first | done | rfl) ?_; (with_reducible refine (line_named.calls (fun k_ => (some k_ ≠ (u163003 : Value).ownBlock ∧ (k_ ≠ gb153 ∧ k_ ≠ gb162))) _ _ t180 (⟨#[107, 101, 121]⟩ : ByteArray) t183 t184 _ ?side1 A43.out).mono ?_); (case side1 => exact HO182.out); rintro e w61 ⟨v185, rfl, ho0, hb⟩; refine ⟨_, rfl, ?_⟩; have n0_ := Aside0.mk (Kd.V_below (by (with_reducible repeat (first | apply va | apply vb | apply vc)); exact HO_4.out) hb); have n1_ := Aside0.mk (Kd.R_below (by (with_reducible repeat (first | apply ra | apply rb | apply rc)); exact HO_163003.out) hb); have n2_ := Aside0.mk (Kd.V_below (by (with_reducible repeat (first | apply va | apply vb | apply vc)); exact HO182.out) hb); have n3_ := Aside0.mk (Kd.V_lower (Kd.V_mono (ok' := fun k_ => some k_ ≠ (u163003 : Value).ownBlock ∧ k_ ≠ gb153 ∧ k_ ≠ gb162) ho0 (fun k_ hk_ => ⟨Or.elim hk_ (fun hs_ => hs_.1) (fun hn_ => (Kd.fresh' (Kd.R_lt (by (with_reducible repeat (first | apply ra | apply rb | apply rc)); exact HO_163003.out)) k_ hn_)), Or.elim hk_ (fun hs_ => hs_.2.1) (fun hn_ => (Kd.freshB (g := gb153) (o := .cells #[.int .i64 0, .string (⟨#[]⟩ : ByteArray), .string (⟨#[]⟩ : ByteArray), .slice none 0 0] 24 (0, 0)) (by (with_reducible repeat (first | refine kc ?_ _ | refine kb ?_ | refine ka ?_ _)); exact BK153.out) k_ hn_)), Or.elim hk_ (fun hs_ => hs_.2.2) (fun hn_ => (Kd.freshB (g := gb162) (o := .cells #[.int .i64 t161, .string (⟨#[]⟩ : ByteArray), .string t179, u163003] 24 (0, 0)) (by (with_reducible repeat (first | refine kc ?_ _ | refine kb ?_ | refine ka ?_ _)); exact BK162.out) k_ hn_))⟩)) (below_size (by repeat (first | (with_reducible first | exact HB.out | apply below_alloc | apply pw_below_drewN | apply below_drew1 | refine below_set ?_ GE153.out | refine below_set ?_ GE162.out) | exact HB.out)))); have n4_ := Aside0.mk (blk_below (g := gb153) (o := .cells #[.int .i64 0, .string (⟨#[]⟩ : ByteArray), .string (⟨#[]⟩ : ByteArray), .slice none 0 0] 24 (0, 0)) (by (with_reducible repeat (first | refine kc ?_ _ | refine kb ?_ | refine ka ?_ _)); exact BK153.out) hb); have n5_ := Aside0.mk (blk_below (g := gb162) (o := .cells #[.int .i64 t161, .string (⟨#[]⟩ : ByteArray), .string t179, u163003] 24 (0, 0)) (by (with_reducible repeat (first | refine kc ?_ _ | refine kb ?_ | refine ka ?_ _)); exact BK162.out) hb); have n6_ := Aside0.mk (below_step (by repeat (first | (with_reducible first | exact HB.out | apply below_alloc | apply pw_below_drewN | apply below_drew1 | refine below_set ?_ GE153.out | refine below_set ?_ GE162.out) | exact HB.out)) hb); clear HO_4; clear HO_163003; clear HO182; clear BK153; clear BK162; clear HB; have HO_4 := n0_; have HO_163003 := n1_; have HO182 := n2_; have HO186 := n3_; have BK153 := n4_; have BK162 := n5_; have HB := n6_; clear n0_ n1_ n2_ n3_ n4_ n5_ n6_; (try clear hb); (try clear hb2); (try clear hk); (try clear hi); (try clear ho0); have hcz62_0 : w61.cell? ⟨gb162, 0, none⟩ = some (.int .i64 t161) := (blk_cell BK162.out 0).trans rfl; have hcz62_1 : w61.cell? ⟨gb162, 1, none⟩ = some (.string (⟨#[]⟩ : ByteArray)) := (blk_cell BK162.out 1).trans rfl; have hcz62_2 : w61.cell? ⟨gb162, 2, none⟩ = some (.string t179) := (blk_cell BK162.out 2).trans rfl; have hcz62_3 : w61.cell? ⟨gb162, 3, none⟩ = some (u163003) := (blk_cell BK162.out 3).trans rfl; have hfz62_0 := blk_frozen BK162.out 0; have hfz62_1 := blk_frozen BK162.out 1; have hfz62_2 := blk_frozen BK162.out 2; have hfz62_3 := blk_frozen BK162.out 3; obtain ⟨Ao63, co63, eo63⟩ := Kd.V_slice HO186.out; subst eo63; have hcz64_0 : w61.cell? ⟨gb153, 0, none⟩ = some (.int .i64 0) := (blk_cell BK153.out 0).trans rfl; have hcz64_1 : w61.cell? ⟨gb153, 1, none⟩ = some (.string (⟨#[]⟩ : ByteArray)) := (blk_cell BK153.out 1).trans rfl; have hcz64_2 : w61.cell? ⟨gb153, 2, none⟩ = some (.string (⟨#[]⟩ : ByteArray)) := (blk_cell BK153.out 2).trans rfl; have hcz64_3 : w61.cell? ⟨gb153, 3, none⟩ = some (.slice none 0 0) := (blk_cell BK153.out 3).trans rfl; have hfz64_0 := blk_frozen BK153.out 0; have hfz64_1 := blk_frozen BK153.out 1; have hfz64_2 := blk_frozen BK153.out 2; have hfz64_3 := blk_frozen BK153.out 3; obtain ⟨Ao65, co65, eo65⟩ := Kd.R_slice HO_163003.out; subst eo65))
         refine bodyPost_ret (results_ct rfl _ _ gb153 24 #[.int .i64 t161, .string t183, .string t179, .slice Ao65 x163003_17.length co65] (0, 0) _ rfl (by (with_reducible repeat (first | refine kc ?_ _ | refine kb ?_ | refine ka ?_ _)); refine blk_put (cs := #[.int .i64 t161, .string t183, .string t179, .slice none 0 0]) ?_ 3 _ rfl; (with_reducible repeat (first | refine kc ?_ _ | refine kb ?_ | refine ka ?_ _)); refine blk_put (cs := #[.int .i64 t161, .string t183, .string (⟨#[]⟩ : ByteArray), .slice none 0 0]) ?_ 2 _ rfl; (with_reducible repeat (first | refine kc ?_ _ | refine kb ?_ | refine ka ?_ _)); refine blk_put (cs := #[.int .i64 t161, .string (⟨#[]⟩ : ByteArray), .string (⟨#[]⟩ : ByteArray), .slice none 0 0]) ?_ 1 _ rfl; (with_reducible repeat (first | refine kc ?_ _ | refine kb ?_ | refine ka ?_ _)); refine blk_put (cs := #[.int .i64 0, .string (⟨#[]⟩ : ByteArray), .string (⟨#[]⟩ : ByteArray), .slice none 0 0]) ?_ 0 _ rfl; (with_reducible repeat (first | refine kc ?_ _ | refine kb ?_ | refine ka ?_ _)); refine blk_far ?_ NB153_162.out _; (with_reducible repeat (first | refine kc ?_ _ | refine kb ?_ | refine ka ?_ _)); exact BK153.out) Tryd.underlying24 rfl (by kernel_rfl)) rfl ?_
         exact ⟨_, by first | rfl | (simp [errW_none, errW_some] <;> rfl) | (simp [*, errW_none, errW_some] <;> rfl), by (with_reducible repeat (first | apply ra | apply rb | apply rc)); exact Kd.R_mono (Kd.R_far (p := ⟨gb153, 3, none⟩) (Kd.R_far (p := ⟨gb153, 2, none⟩) (Kd.R_far (p := ⟨gb153, 1, none⟩) (Kd.R_far (p := ⟨gb153, 0, none⟩) (Kd.R_far (p := ⟨gb162, 1, none⟩) (Kd.R_types (Kd.R_types HO_163003.out BK162.out (by decide)) BK153.out (by decide)) (fun _ hk => hk.1.2) (.string t183)) (fun _ hk => hk.2) (.int .i64 t161)) (fun _ hk => hk.2) (.string t183)) (fun _ hk => hk.2) (.string t179)) (fun _ hk => hk.2) (.slice Ao65 x163003_17.length co65)) (fun _ hk => trivial), by repeat (first | (with_reducible first | exact HB.out | apply below_alloc | apply pw_below_drewN | apply below_drew1 | refine below_set ?_ GE153.out | refine below_set ?_ GE162.out) | exact HB.out)⟩
     ·rw [if_neg c17] at H
      exact absurd H (by simp)
    ·rw [if_neg c15] at H
     exact absurd H (by simp)

end Go.Proofs.YtkenihkjdbdlkaaDoor.QLineUnlike
