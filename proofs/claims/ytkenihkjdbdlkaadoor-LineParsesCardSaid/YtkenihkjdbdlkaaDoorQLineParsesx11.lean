/- Written by a program of this session (wip/tools/mp.sh): functions as Lean functions, with proofs that the calls come to what they say. Lean checks it. -/
import Derived.Test.YtkenihkjdbdlkaaDoorQLineParsesx0
import Derived.Test.YtkenihkjdbdlkaaDoorQLineParsesx3
import Derived.Test.YtkenihkjdbdlkaaDoorQLineParsesx4
import Derived.Test.YtkenihkjdbdlkaaDoorQLineParsesx10
namespace Go.Proofs.YtkenihkjdbdlkaaDoor.QLineParses
open Go.RowKit Go.Proofs.YtkenihkjdbdlkaaDoorW.PrintWords Go.Proofs.YtkenihkjdbdlkaaDoorW.PrintLast Go.Proofs.YtkenihkjdbdlkaaDoorW.PrintMore
attribute [local go_sem] max2_int min2_int max_two min_two max_three min_three max_four min_four   -- for this text's walks alone
set_option linter.unusedVariables false
set_option linter.unusedSimpArgs false

/-! ### prebendlaw27_LineParses: function 4 -/
def prebendlaw27_LineParses.j0 : Nat → ByteArray → Option (Bool)
 | 0, _ => none
 | k + 1, x0 => (line_Parse.f k x0).bind fun bt335 => ((prebendref27_Parse.f k x0).bind fun bt343 => ((prebendlaw27_awake.f k).bind fun t351 => (if t351 = true then ((prebendref27_Same.f k bt335.1 bt335.2.1 bt335.2.2.1 bt335.2.2.2.1 bt343.1 bt343.2.1 bt343.2.2.1 bt343.2.2.2.1).bind fun t352 => (if t352 = true then (some (bt335.2.2.2.2 == bt343.2.2.2.2)) else (some false))) else (some false))))
def prebendlaw27_LineParses.f (k : Nat) (a0 : ByteArray) : Option (Bool) := if (a0.size : Int) > 400 then (if 0 ≤ 400 then (if 400 ≤ (a0.size : Int) then (prebendlaw27_LineParses.j0 k (a0.extract 0 400)) else (none)) else (none)) else (prebendlaw27_LineParses.j0 k a0)
theorem prebendlaw27_LineParses.mono_l : ∀ k, (∀ y0, LeO (prebendlaw27_LineParses.j0 k y0) (prebendlaw27_LineParses.j0 (k + 1) y0))
 | 0 => fun _ r h => by simp [prebendlaw27_LineParses.j0] at h
 | k + 1 => by
  have ih0 := prebendlaw27_LineParses.mono_l k
  ·intro y0
   unfold prebendlaw27_LineParses.j0
   repeat' first
   | (with_reducible exact ih0 _)
   | (with_reducible exact line_Parse.mono _ _)
   | (with_reducible exact prebendlaw27_awake.mono _)
   | (with_reducible exact prebendref27_Parse.mono _ _)
   | (with_reducible exact prebendref27_Same.mono _ _ _ _ _ _ _ _ _)
   | (with_reducible exact LeO.refl _)
   | (with_reducible exact LeO.none _)
   | (with_reducible refine LeO.ite ?_ ?_)
   | (with_reducible refine LeO.bind ?_ (fun _ => ?_))
   | exact ih0 _
   | exact line_Parse.mono _ _
   | exact prebendlaw27_awake.mono _
   | exact prebendref27_Parse.mono _ _
   | exact prebendref27_Same.mono _ _ _ _ _ _ _ _ _
   | exact LeO.none _
   | refine LeO.ite ?_ ?_
   | refine LeO.bind ?_ (fun _ => ?_)
theorem prebendlaw27_LineParses.mono : ∀ a0 k, LeO (prebendlaw27_LineParses.f k a0) (prebendlaw27_LineParses.f (k + 1) a0) := by
 intro a0 k
 have ih0 := prebendlaw27_LineParses.mono_l k
 unfold prebendlaw27_LineParses.f
 repeat' first
   | (with_reducible exact ih0 _)
   | (with_reducible exact line_Parse.mono _ _)
   | (with_reducible exact prebendlaw27_awake.mono _)
   | (with_reducible exact prebendref27_Parse.mono _ _)
   | (with_reducible exact prebendref27_Same.mono _ _ _ _ _ _ _ _ _)
   | (with_reducible exact LeO.refl _)
   | (with_reducible exact LeO.none _)
   | (with_reducible refine LeO.ite ?_ ?_)
   | (with_reducible refine LeO.bind ?_ (fun _ => ?_))
   | exact ih0 _
   | exact line_Parse.mono _ _
   | exact prebendlaw27_awake.mono _
   | exact prebendref27_Parse.mono _ _
   | exact prebendref27_Same.mono _ _ _ _ _ _ _ _ _
   | exact LeO.none _
   | refine LeO.ite ?_ ?_
   | refine LeO.bind ?_ (fun _ => ?_)
set_option maxHeartbeats 8000000 in
set_option maxRecDepth 100000 in
theorem prebendlaw27_LineParses.calls (k : Nat) (a0 : ByteArray) (r : Bool) (w : World) (h : prebendlaw27_LineParses.f k a0 = some r) (hT : XTabs.Tabs w) (hr : r = true) :
  Calls Tryd.prog 4 #[.string a0] w fun e w' => e = .returned (.bool r) ∧ Below w.heap.size w w' := by
 have HT := Aside0.mk hT
 clear hT
 have hu24 := Tryd.underlying24
 have HB := Aside0.mk (Below.refl w.heap.size w)
 have H : (if (a0.size : Int) > 400 then (if 0 ≤ 400 then (if 400 ≤ (a0.size : Int) then (prebendlaw27_LineParses.j0 k (a0.extract 0 400)) else (none)) else (none)) else (prebendlaw27_LineParses.j0 k a0)) = some r := h
 clear h
 have HC2 := Aside0.mk H
 clear H
 go_enter Tryd.func4, Tryd.ntmps4
 go_upto_if 9 with (fail)
 go_cut [0] (fun v0 wc => ∃ (kq : Nat) (x0_1 : ByteArray), v0 = .string x0_1 ∧ Aside0 (prebendlaw27_LineParses.j0 kq x0_1 = some r) ∧ Aside0 (kq ≤ k) ∧ Aside0 (Below w.heap.size w wc))
 case first =>
  have H := HC2.out
  clear HC2
  by_cases c3 : (a0.size : Int) > 400
  ·rw [if_pos c3] at H
   have c3b0 : decide (400 < (a0.size : Int)) = true := decide_eq_true c3
   have c3b1 : decide (400 < a0.size) = true := decide_eq_true (by omega)
   clear c3
   (first | rw [c3b0] | (simp only [i64_w, i32_w]; rw [c3b0]) | skip)
   by_cases c4 : 0 ≤ 400
   ·rw [if_pos c4] at H
    have c4b0 := eq_true c4
    have c4b1 : decide (0 ≤ 400) = true := decide_eq_true c4
    clear c4
    by_cases c5 : 400 ≤ (a0.size : Int)
    ·rw [if_pos c5] at H
     have c5b0 := eq_true c5
     have c5b1 : decide (400 ≤ (a0.size : Int)) = true := decide_eq_true c5
     clear c5
     have H' := Aside0.mk H
     clear H
     go_wp2
     go_meet
     case rel => exact ⟨_, (a0.extract 0 400), (by first | rfl | (simp; done) | (simp [*]; done)), H', ⟨by first | omega | exact Nat.le_refl _⟩, ⟨by repeat (first | (with_reducible first | exact HB.out | apply below_alloc | apply pw_below_drewN | apply below_drew1) | exact HB.out)⟩⟩
    ·rw [if_neg c5] at H
     exact absurd H (by simp)
   ·rw [if_neg c4] at H
    exact absurd H (by simp)
  ·rw [if_neg c3] at H
   have c3b0 : decide (400 < (a0.size : Int)) = false := decide_eq_false c3
   have c3b1 : decide (400 < a0.size) = false := decide_eq_false (by omega)
   clear c3
   (first | rw [c3b0] | (simp only [i64_w, i32_w]; rw [c3b0]) | skip)
   have H' := Aside0.mk H
   clear H
   go_wp2
   go_meet
   case rel => exact ⟨_, (a0), (by first | rfl | (simp; done) | (simp [*]; done)), H', ⟨by first | omega | exact Nat.le_refl _⟩, ⟨by repeat (first | (with_reducible first | exact HB.out | apply below_alloc | apply pw_below_drewN | apply below_drew1) | exact HB.out)⟩⟩
 case rest =>
  clear HC2
  try clear p2
  try clear c3
  try clear c3b0
  try clear c3b1
  try clear c4
  try clear c4b0
  try clear c4b1
  try clear c5
  try clear c5b0
  try clear c5b1
  obtain ⟨kq, x0_1, rfl, HA, HJ1, HB⟩ := hcut
  cases kq with
  | zero => exact absurd HA.out (by simp [prebendlaw27_LineParses.j0])
  | succ kj1 =>
   have H := HA.out
   clear HA
   simp only [prebendlaw27_LineParses.j0] at H
   replace H := Option.bind_eq_some_iff.mp H
   obtain ⟨⟨t335, t336, t337, t338, t341⟩, A60, H⟩ := H
   replace H : ((prebendref27_Parse.f kj1 x0_1).bind fun bt343 => ((prebendlaw27_awake.f kj1).bind fun t351 => (if t351 = true then ((prebendref27_Same.f kj1 t335 t336 t337 t338 bt343.1 bt343.2.1 bt343.2.2.1 bt343.2.2.2.1).bind fun t352 => (if t352 = true then (some (t341 == bt343.2.2.2.2)) else (some false))) else (some false)))) = some r := H
   have A6 := Aside0.mk A60
   clear A60
   replace H := Option.bind_eq_some_iff.mp H
   obtain ⟨⟨t343, t344, t345, t346, t349⟩, A70, H⟩ := H
   replace H : ((prebendlaw27_awake.f kj1).bind fun t351 => (if t351 = true then ((prebendref27_Same.f kj1 t335 t336 t337 t338 t343 t344 t345 t346).bind fun t352 => (if t352 = true then (some (t341 == t349)) else (some false))) else (some false))) = some r := H
   have A7 := Aside0.mk A70
   clear A70
   replace H := Option.bind_eq_some_iff.mp H
   obtain ⟨t351, A80, H⟩ := H
   replace H : (if t351 = true then ((prebendref27_Same.f kj1 t335 t336 t337 t338 t343 t344 t345 t346).bind fun t352 => (if t352 = true then (some (t341 == t349)) else (some false))) else (some false)) = some r := H
   have A8 := Aside0.mk A80
   clear A80
   by_cases c9 : t351 = true
   ·subst c9
    have H1 : ((prebendref27_Same.f kj1 t335 t336 t337 t338 t343 t344 t345 t346).bind fun t352 => (if t352 = true then (some (t341 == t349)) else (some false))) = some r := by rw [if_pos rfl] at H; exact H
    clear H
    have H := H1
    clear H1
    replace H := Option.bind_eq_some_iff.mp H
    obtain ⟨t352, A100, H⟩ := H
    replace H : (if t352 = true then (some (t341 == t349)) else (some false)) = some r := H
    have A10 := Aside0.mk A100
    clear A100
    by_cases c11 : t352 = true
    ·subst c11
     have H1 : (some (t341 == t349)) = some r := by rw [if_pos rfl] at H; exact H
     clear H
     have H := H1
     clear H1
     obtain rfl := Option.some.inj H
     go_wp2_with (first | ((with_reducible refine gate_callee (f := 18) rfl ?_); refine goesL_ (some 14) rfl rfl Tryd.func18 (by kernel_rfl) rfl #[.string x0_1] rfl (by (try simp only [List.map_toArray, List.map_cons, List.map_nil]); first | done | rfl) ?_; (with_reducible refine (line_Parse.calls kj1 x0_1 t335 t336 t337 t338 t341 _ A6.out (XTabs.Tabs.below HT.out (by repeat (first | (with_reducible first | exact HB.out | exact FB.out | exact HB | apply below_alloc | apply pw_below_drewN | apply below_drew1 | refine below_set ?_ (Aside0.out (by assumption))) | exact HB.out | exact FB.out)))).mono ?_); rintro e w12 ⟨v339, rfl, ho0, hb⟩; refine ⟨_, rfl, ?_⟩; have n0_ := Aside0.mk (Kd.R_lower ho0 (below_size (by repeat (first | (with_reducible first | exact HB.out | apply below_alloc | apply pw_below_drewN | apply below_drew1) | exact HB.out)))); have n1_ := Aside0.mk (below_step (by repeat (first | (with_reducible first | exact HB.out | apply below_alloc | apply pw_below_drewN | apply below_drew1) | exact HB.out)) hb); clear HB; have HO340 := n0_; have HB := n1_; clear n0_ n1_; (try clear hb); (try clear hb2); (try clear hk); (try clear hi); (try clear ho0)) | ((with_reducible refine gate_dst (N := 3) rfl ?_); refine box_event ?hg (N := 3) ?hd (cs := #[.int .i64 0, .string (⟨#[]⟩ : ByteArray), .string (⟨#[]⟩ : ByteArray), .slice none 0 0]) (t := 24) ?hr ?_; (case hd => rfl); (case hg => rfl); (case hr => first | (go_simp; done) | (go_simp; rfl)); intro gb342 hg w13 hbox hb; have n0_ := Aside0.mk (Kd.R_below (by (with_reducible repeat (first | apply ra | apply rb | apply rc)); exact HO340.out) hb); have n1_ := Aside0.mk (below_step (by repeat (first | (with_reducible first | exact HB.out | apply below_alloc | apply pw_below_drewN | apply below_drew1) | exact HB.out)) hb); have n2_ := Aside0.mk (hbox); have n3_ := Aside0.mk ((by rw [hg]; exact (below_size (by repeat (first | (with_reducible first | exact HB.out | apply below_alloc | apply pw_below_drewN | apply below_drew1) | exact HB.out))) : w.heap.size ≤ gb342)); have n4_ := Aside0.mk ((by rw [hg]; exact (below_size (by repeat (first | (with_reducible first | exact HB.out | apply below_alloc | apply pw_below_drewN | apply below_drew1) | exact HB.out))) : w.heap.size ≤ gb342)); clear HO340; clear HB; have HO340 := n0_; have HB := n1_; have BK342 := n2_; have GW342 := n3_; have GE342 := n4_; clear n0_ n1_ n2_ n3_ n4_; clear hb hbox hg; have hcz14_0 : w13.cell? ⟨gb342, 0, none⟩ = some (.int .i64 0) := (blk_cell BK342.out 0).trans rfl; have hcz14_1 : w13.cell? ⟨gb342, 1, none⟩ = some (.string (⟨#[]⟩ : ByteArray)) := (blk_cell BK342.out 1).trans rfl; have hcz14_2 : w13.cell? ⟨gb342, 2, none⟩ = some (.string (⟨#[]⟩ : ByteArray)) := (blk_cell BK342.out 2).trans rfl; have hcz14_3 : w13.cell? ⟨gb342, 3, none⟩ = some (.slice none 0 0) := (blk_cell BK342.out 3).trans rfl; have hfz14_0 := blk_frozen BK342.out 0; have hfz14_1 := blk_frozen BK342.out 1; have hfz14_2 := blk_frozen BK342.out 2; have hfz14_3 := blk_frozen BK342.out 3; obtain ⟨Ao15, co15, eo15⟩ := Kd.R_slice HO340.out; subst eo15) | ((with_reducible refine gate_callee (f := 19) rfl ?_); refine goesL_ (some 19) rfl rfl Tryd.func19 (by kernel_rfl) rfl #[.string x0_1] rfl (by (try simp only [List.map_toArray, List.map_cons, List.map_nil]); first | done | rfl) ?_; (with_reducible refine (prebendref27_Parse.calls kj1 x0_1 t343 t344 t345 t346 t349 _ A7.out).mono ?_); rintro e w16 ⟨v347, rfl, ho0, hb⟩; refine ⟨_, rfl, ?_⟩; have n0_ := Aside0.mk (Kd.R_elder' (by (with_reducible repeat (first | apply ra | apply rb | apply rc)); exact (Kd.R_mono (Kd.R_far (p := ⟨gb342, 3, none⟩) (Kd.R_far (p := ⟨gb342, 2, none⟩) (Kd.R_far (p := ⟨gb342, 1, none⟩) (Kd.R_far (p := ⟨gb342, 0, none⟩) (Kd.R_types HO340.out BK342.out (by decide)) (fun _ hk => hk.2) (.int .i64 t335)) (fun _ hk => hk.2) (.string t336)) (fun _ hk => hk.2) (.string t337)) (fun _ hk => hk.2) (.slice Ao15 t338.length co15)) (fun _ h_ => h_.1))) (Kd.R_base ho0) hb); have n1_ := Aside0.mk (Kd.R_lower (Kd.R_new' ho0 (Kd.R_lt (by (with_reducible repeat (first | apply ra | apply rb | apply rc)); exact (Kd.R_mono (Kd.R_far (p := ⟨gb342, 3, none⟩) (Kd.R_far (p := ⟨gb342, 2, none⟩) (Kd.R_far (p := ⟨gb342, 1, none⟩) (Kd.R_far (p := ⟨gb342, 0, none⟩) (Kd.R_types HO340.out BK342.out (by decide)) (fun _ hk => hk.2) (.int .i64 t335)) (fun _ hk => hk.2) (.string t336)) (fun _ hk => hk.2) (.string t337)) (fun _ hk => hk.2) (.slice Ao15 t338.length co15)) (fun _ h_ => h_.1))))) (below_size (by repeat (first | (with_reducible first | exact HB.out | apply below_alloc | apply pw_below_drewN | apply below_drew1 | refine below_set ?_ GE342.out) | exact HB.out)))); have n2_ := Aside0.mk (blk_below (g := gb342) (o := .cells #[.int .i64 t335, .string t336, .string t337, .slice Ao15 t338.length co15] 24 (0, 0)) (by (with_reducible repeat (first | refine kc ?_ _ | refine kb ?_ | refine ka ?_ _)); refine blk_put (cs := #[.int .i64 t335, .string t336, .string t337, .slice none 0 0]) ?_ 3 _ rfl; (with_reducible repeat (first | refine kc ?_ _ | refine kb ?_ | refine ka ?_ _)); refine blk_put (cs := #[.int .i64 t335, .string t336, .string (⟨#[]⟩ : ByteArray), .slice none 0 0]) ?_ 2 _ rfl; (with_reducible repeat (first | refine kc ?_ _ | refine kb ?_ | refine ka ?_ _)); refine blk_put (cs := #[.int .i64 t335, .string (⟨#[]⟩ : ByteArray), .string (⟨#[]⟩ : ByteArray), .slice none 0 0]) ?_ 1 _ rfl; (with_reducible repeat (first | refine kc ?_ _ | refine kb ?_ | refine ka ?_ _)); refine blk_put (cs := #[.int .i64 0, .string (⟨#[]⟩ : ByteArray), .string (⟨#[]⟩ : ByteArray), .slice none 0 0]) ?_ 0 _ rfl; (with_reducible repeat (first | refine kc ?_ _ | refine kb ?_ | refine ka ?_ _)); exact BK342.out) hb); have n3_ := Aside0.mk (below_step (by repeat (first | (with_reducible first | exact HB.out | apply below_alloc | apply pw_below_drewN | apply below_drew1 | refine below_set ?_ GE342.out) | exact HB.out)) hb); clear HO340; clear BK342; clear HB; have HO340 := n0_; have HO348 := n1_; have BK342 := n2_; have HB := n3_; clear n0_ n1_ n2_ n3_; (try clear hb); (try clear hb2); (try clear hk); (try clear hi); (try clear ho0)) | ((with_reducible refine gate_dst (N := 5) rfl ?_); refine box_event ?hg (N := 5) ?hd (cs := #[.int .i64 0, .string (⟨#[]⟩ : ByteArray), .string (⟨#[]⟩ : ByteArray), .slice none 0 0]) (t := 24) ?hr ?_; (case hd => rfl); (case hg => rfl); (case hr => first | (go_simp; done) | (go_simp; rfl)); intro gb350 hg w17 hbox hb; have n0_ := Aside0.mk (Kd.R_below (by (with_reducible repeat (first | apply ra | apply rb | apply rc)); exact HO340.out) hb); have n1_ := Aside0.mk (Kd.R_below (by (with_reducible repeat (first | apply ra | apply rb | apply rc)); exact HO348.out) hb); have n2_ := Aside0.mk (blk_below (g := gb342) (o := .cells #[.int .i64 t335, .string t336, .string t337, .slice Ao15 t338.length co15] 24 (0, 0)) (by (with_reducible repeat (first | refine kc ?_ _ | refine kb ?_ | refine ka ?_ _)); exact BK342.out) hb); have n3_ := Aside0.mk (below_step (by repeat (first | (with_reducible first | exact HB.out | apply below_alloc | apply pw_below_drewN | apply below_drew1 | refine below_set ?_ GE342.out) | exact HB.out)) hb); have n4_ := Aside0.mk (hbox); have n5_ := Aside0.mk ((by rw [hg]; exact (below_size (by repeat (first | (with_reducible first | exact HB.out | apply below_alloc | apply pw_below_drewN | apply below_drew1 | refine below_set ?_ GE342.out) | exact HB.out))) : w.heap.size ≤ gb350)); have n6_ := Aside0.mk ((by rw [hg]; exact (below_size (by repeat (first | (with_reducible first | exact HB.out | apply below_alloc | apply pw_below_drewN | apply below_drew1 | refine below_set ?_ GE342.out) | exact HB.out))) : w.heap.size ≤ gb350)); have n7_ := Aside0.mk ((by rw [hg]; exact Nat.ne_of_lt (blk_lt (g := gb342) (o := .cells #[.int .i64 t335, .string t336, .string t337, .slice Ao15 t338.length co15] 24 (0, 0)) (by (with_reducible repeat (first | refine kc ?_ _ | refine kb ?_ | refine ka ?_ _)); exact BK342.out)) : gb342 ≠ gb350)); have n8_ := Aside0.mk ((by rw [hg]; exact Nat.ne_of_gt (blk_lt (g := gb342) (o := .cells #[.int .i64 t335, .string t336, .string t337, .slice Ao15 t338.length co15] 24 (0, 0)) (by (with_reducible repeat (first | refine kc ?_ _ | refine kb ?_ | refine ka ?_ _)); exact BK342.out)) : gb350 ≠ gb342)); clear HO340; clear HO348; clear BK342; clear HB; have HO340 := n0_; have HO348 := n1_; have BK342 := n2_; have HB := n3_; have BK350 := n4_; have GW350 := n5_; have GE350 := n6_; have NB342_350 := n7_; have NB350_342 := n8_; clear n0_ n1_ n2_ n3_ n4_ n5_ n6_ n7_ n8_; clear hb hbox hg; have hnb18 := NB350_342.out; have hnc18 := NB342_350.out; have hcz19_0 : w17.cell? ⟨gb350, 0, none⟩ = some (.int .i64 0) := (blk_cell BK350.out 0).trans rfl; have hcz19_1 : w17.cell? ⟨gb350, 1, none⟩ = some (.string (⟨#[]⟩ : ByteArray)) := (blk_cell BK350.out 1).trans rfl; have hcz19_2 : w17.cell? ⟨gb350, 2, none⟩ = some (.string (⟨#[]⟩ : ByteArray)) := (blk_cell BK350.out 2).trans rfl; have hcz19_3 : w17.cell? ⟨gb350, 3, none⟩ = some (.slice none 0 0) := (blk_cell BK350.out 3).trans rfl; have hfz19_0 := blk_frozen BK350.out 0; have hfz19_1 := blk_frozen BK350.out 1; have hfz19_2 := blk_frozen BK350.out 2; have hfz19_3 := blk_frozen BK350.out 3; obtain ⟨Ao20, co20, eo20⟩ := Kd.R_slice HO348.out; subst eo20) | ((with_reducible refine gate_callee (f := 15) rfl ?_); refine goesL_ (some 22) rfl rfl Tryd.func15 (by kernel_rfl) rfl #[] rfl (by (try simp only [List.map_toArray, List.map_cons, List.map_nil]); first | done | rfl) ?_; (with_reducible refine (prebendlaw27_awake.calls kj1  true _ A8.out (XTabs.Tabs.below HT.out (by repeat (first | (with_reducible first | exact HB.out | exact FB.out | exact HB | apply below_alloc | apply pw_below_drewN | apply below_drew1 | refine below_set ?_ (Aside0.out (by assumption))) | exact HB.out | exact FB.out)))).mono ?_); rintro e w21 ⟨rfl, hb⟩; refine ⟨_, rfl, ?_⟩; have n0_ := Aside0.mk (Kd.R_below (by (with_reducible repeat (first | apply ra | apply rb | apply rc)); exact (Kd.R_mono (Kd.R_far (p := ⟨gb350, 3, none⟩) (Kd.R_far (p := ⟨gb350, 2, none⟩) (Kd.R_far (p := ⟨gb350, 1, none⟩) (Kd.R_far (p := ⟨gb350, 0, none⟩) (Kd.R_types HO340.out BK350.out (by decide)) (fun _ hk => hk.2) (.int .i64 t343)) (fun _ hk => hk.2) (.string t344)) (fun _ hk => hk.2) (.string t345)) (fun _ hk => hk.2) (.slice Ao20 t346.length co20)) (fun _ h_ => h_.1))) hb); have n1_ := Aside0.mk (Kd.R_below (by (with_reducible repeat (first | apply ra | apply rb | apply rc)); exact (Kd.R_mono (Kd.R_far (p := ⟨gb350, 3, none⟩) (Kd.R_far (p := ⟨gb350, 2, none⟩) (Kd.R_far (p := ⟨gb350, 1, none⟩) (Kd.R_far (p := ⟨gb350, 0, none⟩) (Kd.R_types HO348.out BK350.out (by decide)) (fun _ hk => hk.2) (.int .i64 t343)) (fun _ hk => hk.2) (.string t344)) (fun _ hk => hk.2) (.string t345)) (fun _ hk => hk.2) (.slice Ao20 t346.length co20)) (fun _ h_ => h_.1))) hb); have n2_ := Aside0.mk (blk_below (g := gb342) (o := .cells #[.int .i64 t335, .string t336, .string t337, .slice Ao15 t338.length co15] 24 (0, 0)) (by (with_reducible repeat (first | refine kc ?_ _ | refine kb ?_ | refine ka ?_ _)); refine blk_far ?_ NB342_350.out _; (with_reducible repeat (first | refine kc ?_ _ | refine kb ?_ | refine ka ?_ _)); refine blk_far ?_ NB342_350.out _; (with_reducible repeat (first | refine kc ?_ _ | refine kb ?_ | refine ka ?_ _)); refine blk_far ?_ NB342_350.out _; (with_reducible repeat (first | refine kc ?_ _ | refine kb ?_ | refine ka ?_ _)); refine blk_far ?_ NB342_350.out _; (with_reducible repeat (first | refine kc ?_ _ | refine kb ?_ | refine ka ?_ _)); exact BK342.out) hb); have n3_ := Aside0.mk (blk_below (g := gb350) (o := .cells #[.int .i64 t343, .string t344, .string t345, .slice Ao20 t346.length co20] 24 (0, 0)) (by (with_reducible repeat (first | refine kc ?_ _ | refine kb ?_ | refine ka ?_ _)); refine blk_put (cs := #[.int .i64 t343, .string t344, .string t345, .slice none 0 0]) ?_ 3 _ rfl; (with_reducible repeat (first | refine kc ?_ _ | refine kb ?_ | refine ka ?_ _)); refine blk_put (cs := #[.int .i64 t343, .string t344, .string (⟨#[]⟩ : ByteArray), .slice none 0 0]) ?_ 2 _ rfl; (with_reducible repeat (first | refine kc ?_ _ | refine kb ?_ | refine ka ?_ _)); refine blk_put (cs := #[.int .i64 t343, .string (⟨#[]⟩ : ByteArray), .string (⟨#[]⟩ : ByteArray), .slice none 0 0]) ?_ 1 _ rfl; (with_reducible repeat (first | refine kc ?_ _ | refine kb ?_ | refine ka ?_ _)); refine blk_put (cs := #[.int .i64 0, .string (⟨#[]⟩ : ByteArray), .string (⟨#[]⟩ : ByteArray), .slice none 0 0]) ?_ 0 _ rfl; (with_reducible repeat (first | refine kc ?_ _ | refine kb ?_ | refine ka ?_ _)); exact BK350.out) hb); have n4_ := Aside0.mk (below_step (by repeat (first | (with_reducible first | exact HB.out | apply below_alloc | apply pw_below_drewN | apply below_drew1 | refine below_set ?_ GE342.out | refine below_set ?_ GE350.out) | exact HB.out)) hb); clear HO340; clear HO348; clear BK342; clear BK350; clear HB; have HO340 := n0_; have HO348 := n1_; have BK342 := n2_; have BK350 := n3_; have HB := n4_; clear n0_ n1_ n2_ n3_ n4_; (try clear hb); (try clear hb2); (try clear hk); (try clear hi); have hcz22_0 : w21.cell? ⟨gb342, 0, none⟩ = some (.int .i64 t335) := (blk_cell BK342.out 0).trans rfl; have hcz22_1 : w21.cell? ⟨gb342, 1, none⟩ = some (.string t336) := (blk_cell BK342.out 1).trans rfl; have hcz22_2 : w21.cell? ⟨gb342, 2, none⟩ = some (.string t337) := (blk_cell BK342.out 2).trans rfl; have hcz22_3 : w21.cell? ⟨gb342, 3, none⟩ = some (.slice Ao15 t338.length co15) := (blk_cell BK342.out 3).trans rfl; have hfz22_0 := blk_frozen BK342.out 0; have hfz22_1 := blk_frozen BK342.out 1; have hfz22_2 := blk_frozen BK342.out 2; have hfz22_3 := blk_frozen BK342.out 3; have hcz23_0 : w21.cell? ⟨gb350, 0, none⟩ = some (.int .i64 t343) := (blk_cell BK350.out 0).trans rfl; have hcz23_1 : w21.cell? ⟨gb350, 1, none⟩ = some (.string t344) := (blk_cell BK350.out 1).trans rfl; have hcz23_2 : w21.cell? ⟨gb350, 2, none⟩ = some (.string t345) := (blk_cell BK350.out 2).trans rfl; have hcz23_3 : w21.cell? ⟨gb350, 3, none⟩ = some (.slice Ao20 t346.length co20) := (blk_cell BK350.out 3).trans rfl; have hfz23_0 := blk_frozen BK350.out 0; have hfz23_1 := blk_frozen BK350.out 1; have hfz23_2 := blk_frozen BK350.out 2; have hfz23_3 := blk_frozen BK350.out 3) | (go_at_call 20; (with_reducible refine (prebendref27_Same.calls kj1 t335 t336 t337 _ _ t338 t343 t344 t345 _ _ t346 true _ ?side1 ?side2 ?side3 ?side4 A10.out).mono ?_); (case side1 => repeat (first | exact (Kd.R_reads' HO340.out).2.2 | (with_reducible refine Kd.C_alloc ?_ _) | (with_reducible refine Kd.C_drewN ?_ _) | (with_reducible refine Kd.C_drew ?_))); (case side2 => exact (Kd.R_reads' HO340.out).2.1); (case side3 => repeat (first | exact (Kd.R_reads' HO348.out).2.2 | (with_reducible refine Kd.C_alloc ?_ _) | (with_reducible refine Kd.C_drewN ?_ _) | (with_reducible refine Kd.C_drew ?_))); (case side4 => exact (Kd.R_reads' HO348.out).2.1); rintro e w24 ⟨rfl, hb⟩; (try clear A10); have n0_ := Aside0.mk (Kd.R_below (by (with_reducible repeat (first | apply ra | apply rb | apply rc)); exact HO340.out) hb); have n1_ := Aside0.mk (Kd.R_below (by (with_reducible repeat (first | apply ra | apply rb | apply rc)); exact HO348.out) hb); have n2_ := Aside0.mk (blk_below (g := gb342) (o := .cells #[.int .i64 t335, .string t336, .string t337, .slice Ao15 t338.length co15] 24 (0, 0)) (by (with_reducible repeat (first | refine kc ?_ _ | refine kb ?_ | refine ka ?_ _)); exact BK342.out) hb); have n3_ := Aside0.mk (blk_below (g := gb350) (o := .cells #[.int .i64 t343, .string t344, .string t345, .slice Ao20 t346.length co20] 24 (0, 0)) (by (with_reducible repeat (first | refine kc ?_ _ | refine kb ?_ | refine ka ?_ _)); exact BK350.out) hb); have n4_ := Aside0.mk (below_step (by repeat (first | (with_reducible first | exact HB.out | apply below_alloc | apply pw_below_drewN | apply below_drew1 | refine below_set ?_ GE342.out | refine below_set ?_ GE350.out) | exact HB.out)) hb); clear HO340; clear HO348; clear BK342; clear BK350; clear HB; have HO340 := n0_; have HO348 := n1_; have BK342 := n2_; have BK350 := n3_; have HB := n4_; clear n0_ n1_ n2_ n3_ n4_; (try clear hb); (try clear hb2); (try clear hk); (try clear hi)))
     go_ret
     exact ⟨by first | rfl | (simp [errW_none, errW_some] <;> rfl) | (simp [*, errW_none, errW_some] <;> rfl), by repeat (first | (with_reducible first | exact HB.out | apply below_alloc | apply pw_below_drewN | apply below_drew1 | refine below_set ?_ GE342.out | refine below_set ?_ GE350.out) | exact HB.out)⟩
    ·replace c11 := Bool.eq_false_iff.mpr c11
     subst c11
     have H1 : (some false) = some r := by rw [if_neg (show ¬ (false = true) by decide)] at H; exact H
     clear H
     have H := H1
     clear H1
     exact absurd (show some false = some true from hr ▸ H) (by simp)  -- 2
   ·replace c9 := Bool.eq_false_iff.mpr c9
    subst c9
    have H1 : (some false) = some r := by rw [if_neg (show ¬ (false = true) by decide)] at H; exact H
    clear H
    have H := H1
    clear H1
    exact absurd (show some false = some true from hr ▸ H) (by simp)  -- 3
/-- THE ONE PURE STATEMENT of prebendlaw27_LineParses: yours. -/
def prebendlaw27_LineParses.Pure : Prop := ∀ (a0 : ByteArray), a0.size ≤ 140737488351232 → ∃ k, prebendlaw27_LineParses.f k a0 = some true
theorem prebendlaw27_LineParses.walk (P : prebendlaw27_LineParses.Pure) (a0 : ByteArray) (w : World) (w0 : a0.size ≤ 140737488351232) (hT : XTabs.Tabs w) :
  Calls Tryd.prog 4 #[.string a0] w fun e w' => e = .returned (.bool true) ∧ Below w.heap.size w w' := by
 obtain ⟨k, h⟩ := P a0 w0
 refine (prebendlaw27_LineParses.calls k a0 true w h hT rfl).mono ?_
 rintro e w' ⟨rfl, hd⟩
 exact ⟨rfl, hd⟩

end Go.Proofs.YtkenihkjdbdlkaaDoor.QLineParses
