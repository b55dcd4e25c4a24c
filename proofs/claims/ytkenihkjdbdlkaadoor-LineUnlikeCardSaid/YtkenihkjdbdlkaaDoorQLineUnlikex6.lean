/- Written by a program of this session (wip/tools/mp.sh): functions as Lean functions, with proofs that the calls come to what they say. Lean checks it. -/
import Derived.Test.YtkenihkjdbdlkaaDoorQLineUnlikex0
import Derived.Test.YtkenihkjdbdlkaaDoorQLineUnlikex1
import Derived.Test.YtkenihkjdbdlkaaDoorQLineUnlikex2
import Derived.Test.YtkenihkjdbdlkaaDoorQLineUnlikex3
import Derived.Test.YtkenihkjdbdlkaaDoorQLineUnlikex5
namespace Go.Proofs.YtkenihkjdbdlkaaDoor.QLineUnlike
open Go.RowKit Go.Proofs.YtkenihkjdbdlkaaDoorW.PrintWords Go.Proofs.YtkenihkjdbdlkaaDoorW.PrintLast Go.Proofs.YtkenihkjdbdlkaaDoorW.PrintMore
attribute [local go_sem] max2_int min2_int max_two min_two max_three min_three max_four min_four   -- for this text's walks alone
set_option linter.unusedVariables false
set_option linter.unusedSimpArgs false

attribute [local go_sem high] eqA27
/-! ### prebendlaw27_LineUnlike: function 6 -/
def prebendlaw27_LineUnlike.j0 : Nat → Bool → Int → Int → Int → Int → Int → Int → Int → Int → Option (Bool)
 | 0, _, _, _, _, _, _, _, _, _ => none
 | k + 1, x43, x225000, x225001, x225002, x225003, x226000, x226001, x226002, x226003 => if x43 = true then (some false) else ((prebendlaw27_awake.f k).bind fun t245 => (if t245 = true then ((line_Reply.f k x225000 x225001 x225002 x225003).bind fun t246 => ((line_Reply.f k x226000 x226001 x226002 x226003).bind fun t247 => (some ((t246.toList == t247.toList) == (x225000 == x226000 && (x225001 == x226001 && (x225002 == x226002 && (x225003 == x226003)))))))) else (some false)))
def prebendlaw27_LineUnlike.f (k : Nat) (a0_0 : Int) (a0_1 : ByteArray) (a0_2 : ByteArray) (l0_3 : List Int) (a1_0 : Int) (a1_1 : ByteArray) (a1_2 : ByteArray) (l1_3 : List Int) (a2_0 : Int) (a2_1 : Int) (a2_2 : Int) (a2_3 : Int) (a3_0 : Int) (a3_1 : Int) (a3_2 : Int) (a3_3 : Int) : Option (Bool) := (prebendlaw27_small.f a0_0 a0_1 a0_2 l0_3).bind fun bt226 => ((prebendlaw27_small.f a1_0 a1_1 a1_2 l1_3).bind fun bt232 => ((line_Print.f k bt226.1 bt226.2.1 bt226.2.2.1 bt226.2.2.2).bind fun bt240 => ((line_Print.f k bt232.1 bt232.2.1 bt232.2.2.1 bt232.2.2.2).bind fun bt242 => (if bt240.2 = 0 then (if bt242.2 = 0 then ((prebendref27_Same.f k bt226.1 bt226.2.1 bt226.2.2.1 bt226.2.2.2 bt232.1 bt232.2.1 bt232.2.2.1 bt232.2.2.2).bind fun t244 => (prebendlaw27_LineUnlike.j0 k ((bt240.1.toList == bt242.1.toList) != t244) a2_0 a2_1 a2_2 a2_3 a3_0 a3_1 a3_2 a3_3)) else (prebendlaw27_LineUnlike.j0 k false a2_0 a2_1 a2_2 a2_3 a3_0 a3_1 a3_2 a3_3)) else (prebendlaw27_LineUnlike.j0 k false a2_0 a2_1 a2_2 a2_3 a3_0 a3_1 a3_2 a3_3)))))
theorem prebendlaw27_LineUnlike.mono_l : ∀ k, (∀ y0 y1 y2 y3 y4 y5 y6 y7 y8, LeO (prebendlaw27_LineUnlike.j0 k y0 y1 y2 y3 y4 y5 y6 y7 y8) (prebendlaw27_LineUnlike.j0 (k + 1) y0 y1 y2 y3 y4 y5 y6 y7 y8))
 | 0 => fun _ _ _ _ _ _ _ _ _ r h => by simp [prebendlaw27_LineUnlike.j0] at h
 | k + 1 => by
  have ih0 := prebendlaw27_LineUnlike.mono_l k
  ·intro y0 y1 y2 y3 y4 y5 y6 y7 y8
   unfold prebendlaw27_LineUnlike.j0
   repeat' first
   | (with_reducible exact ih0 _ _ _ _ _ _ _ _ _)
   | (with_reducible exact line_Print.mono _ _ _ _ _)
   | (with_reducible exact line_Reply.mono _ _ _ _ _)
   | (with_reducible exact prebendlaw27_awake.mono _)
   | (with_reducible exact prebendref27_Same.mono _ _ _ _ _ _ _ _ _)
   | (with_reducible exact LeO.refl _)
   | (with_reducible exact LeO.none _)
   | (with_reducible refine LeO.ite ?_ ?_)
   | (with_reducible refine LeO.bind ?_ (fun _ => ?_))
   | exact ih0 _ _ _ _ _ _ _ _ _
   | exact line_Print.mono _ _ _ _ _
   | exact line_Reply.mono _ _ _ _ _
   | exact prebendlaw27_awake.mono _
   | exact prebendref27_Same.mono _ _ _ _ _ _ _ _ _
   | exact LeO.none _
   | refine LeO.ite ?_ ?_
   | refine LeO.bind ?_ (fun _ => ?_)
theorem prebendlaw27_LineUnlike.mono : ∀ a0 a1 a2 a3 a4 a5 a6 a7 a8 a9 a10 a11 a12 a13 a14 a15 k, LeO (prebendlaw27_LineUnlike.f k a0 a1 a2 a3 a4 a5 a6 a7 a8 a9 a10 a11 a12 a13 a14 a15) (prebendlaw27_LineUnlike.f (k + 1) a0 a1 a2 a3 a4 a5 a6 a7 a8 a9 a10 a11 a12 a13 a14 a15) := by
 intro a0 a1 a2 a3 a4 a5 a6 a7 a8 a9 a10 a11 a12 a13 a14 a15 k
 have ih0 := prebendlaw27_LineUnlike.mono_l k
 unfold prebendlaw27_LineUnlike.f
 repeat' first
   | (with_reducible exact ih0 _ _ _ _ _ _ _ _ _)
   | (with_reducible exact line_Print.mono _ _ _ _ _)
   | (with_reducible exact line_Reply.mono _ _ _ _ _)
   | (with_reducible exact prebendlaw27_awake.mono _)
   | (with_reducible exact prebendref27_Same.mono _ _ _ _ _ _ _ _ _)
   | (with_reducible exact LeO.refl _)
   | (with_reducible exact LeO.none _)
   | (with_reducible refine LeO.ite ?_ ?_)
   | (with_reducible refine LeO.bind ?_ (fun _ => ?_))
   | exact ih0 _ _ _ _ _ _ _ _ _
   | exact line_Print.mono _ _ _ _ _
   | exact line_Reply.mono _ _ _ _ _
   | exact prebendlaw27_awake.mono _
   | exact prebendref27_Same.mono _ _ _ _ _ _ _ _ _
   | exact LeO.none _
   | refine LeO.ite ?_ ?_
   | refine LeO.bind ?_ (fun _ => ?_)
def prebendlaw27_LineUnlike.T1 : Bool × List (List Nat × List Nat) := (true, [([], []), ([0], [0]), ([], []), ([2, 1], [2]), ([], []), ([], []), ([4, 1, 3, 0, 1, 4, 5], [1, 4]), ([5, 3, 6, 0, 1, 2, 3, 4, 5, 6], [3, 5])])
def prebendlaw27_LineUnlike.B1 : List Nat := [0, 1, 0, 7, 0, 0, 63, 127]
theorem prebendlaw27_LineUnlike.tab1 : rtab .any (opsOf Tryd.f6 1) = prebendlaw27_LineUnlike.T1 := by kernel_rfl
theorem prebendlaw27_LineUnlike.bits1 : waitsOk prebendlaw27_LineUnlike.T1.2 prebendlaw27_LineUnlike.B1 = true := by kernel_rfl
def prebendlaw27_LineUnlike.T6 : Bool × List (List Nat × List Nat) := (true, [([], []), ([0, 0], [0]), ([1], [1]), ([2, 1, 1], [1, 2]), ([1], [1]), ([4, 3, 1], [1, 4]), ([3, 5, 1], [1, 3, 5]), ([1], [1]), ([1], [1]), ([7, 8, 1], [1, 7, 8]), ([6, 9, 1], [1, 6, 9]), ([1, 10], [1, 10]), ([11, 5, 0, 1, 2, 3, 4, 5, 6, 7, 8, 9, 10, 11], [11])])
def prebendlaw27_LineUnlike.B6 : List Nat := [0, 1, 3, 7, 3, 31, 63, 3, 3, 387, 1023, 2047, 4095]
theorem prebendlaw27_LineUnlike.tab6 : rtab .any (opsOf Tryd.f6 6) = prebendlaw27_LineUnlike.T6 := by kernel_rfl
theorem prebendlaw27_LineUnlike.bits6 : waitsOk prebendlaw27_LineUnlike.T6.2 prebendlaw27_LineUnlike.B6 = true := by kernel_rfl
set_option maxHeartbeats 8000000 in
set_option maxRecDepth 100000 in
theorem prebendlaw27_LineUnlike.calls (k : Nat) (a0_0 : Int) (a0_1 : ByteArray) (a0_2 : ByteArray) (A0_3 : Option Addr) (c0_3 : Nat) (l0_3 : List Int) (a1_0 : Int) (a1_1 : ByteArray) (a1_2 : ByteArray) (A1_3 : Option Addr) (c1_3 : Nat) (l1_3 : List Int) (a2_0 : Int) (a2_1 : Int) (a2_2 : Int) (a2_3 : Int) (a3_0 : Int) (a3_1 : Int) (a3_2 : Int) (a3_3 : Int) (r : Bool) (w : World) (hr0_3 : Kd.C (Kd.int .i64) w A0_3 l0_3.length l0_3) (hc0_3 : l0_3.length ≤ c0_3) (hr1_3 : Kd.C (Kd.int .i64) w A1_3 l1_3.length l1_3) (hc1_3 : l1_3.length ≤ c1_3) (h : prebendlaw27_LineUnlike.f k a0_0 a0_1 a0_2 l0_3 a1_0 a1_1 a1_2 l1_3 a2_0 a2_1 a2_2 a2_3 a3_0 a3_1 a3_2 a3_3 = some r) (hT : XTabs.Tabs w) (hr : r = true) :
  Calls Tryd.prog 6 #[.agg #[.int .i64 a0_0, .string a0_1, .string a0_2, .slice A0_3 l0_3.length c0_3], .agg #[.int .i64 a1_0, .string a1_1, .string a1_2, .slice A1_3 l1_3.length c1_3], .agg #[.int .i64 a2_0, .int .i64 a2_1, .int .i64 a2_2, .int .i64 a2_3], .agg #[.int .i64 a3_0, .int .i64 a3_1, .int .i64 a3_2, .int .i64 a3_3]] w fun e w' => e = .returned (.bool r) ∧ Below w.heap.size w w' := by
 have HT := Aside0.mk hT
 clear hT
 have hu24 := Tryd.underlying24
 have hu27 := Tryd.underlying27
 have HR0_3 := Aside0.mk hr0_3
 have HC0_3 := Aside0.mk hc0_3
 clear hr0_3 hc0_3
 have HR1_3 := Aside0.mk hr1_3
 have HC1_3 := Aside0.mk hc1_3
 clear hr1_3 hc1_3
 have HB := Aside0.mk (Below.refl w.heap.size w)
 have H : ((prebendlaw27_small.f a0_0 a0_1 a0_2 l0_3).bind fun bt226 => ((prebendlaw27_small.f a1_0 a1_1 a1_2 l1_3).bind fun bt232 => ((line_Print.f k bt226.1 bt226.2.1 bt226.2.2.1 bt226.2.2.2).bind fun bt240 => ((line_Print.f k bt232.1 bt232.2.1 bt232.2.2.1 bt232.2.2.2).bind fun bt242 => (if bt240.2 = 0 then (if bt242.2 = 0 then ((prebendref27_Same.f k bt226.1 bt226.2.1 bt226.2.2.1 bt226.2.2.2 bt232.1 bt232.2.1 bt232.2.2.1 bt232.2.2.2).bind fun t244 => (prebendlaw27_LineUnlike.j0 k ((bt240.1.toList == bt242.1.toList) != t244) a2_0 a2_1 a2_2 a2_3 a3_0 a3_1 a3_2 a3_3)) else (prebendlaw27_LineUnlike.j0 k false a2_0 a2_1 a2_2 a2_3 a3_0 a3_1 a3_2 a3_3)) else (prebendlaw27_LineUnlike.j0 k false a2_0 a2_1 a2_2 a2_3 a3_0 a3_1 a3_2 a3_3)))))) = some r := h
 clear h
 replace H := Option.bind_eq_some_iff.mp H
 obtain ⟨⟨t226, t227, t228, t229⟩, A50, H⟩ := H
 replace H : ((prebendlaw27_small.f a1_0 a1_1 a1_2 l1_3).bind fun bt232 => ((line_Print.f k t226 t227 t228 t229).bind fun bt240 => ((line_Print.f k bt232.1 bt232.2.1 bt232.2.2.1 bt232.2.2.2).bind fun bt242 => (if bt240.2 = 0 then (if bt242.2 = 0 then ((prebendref27_Same.f k t226 t227 t228 t229 bt232.1 bt232.2.1 bt232.2.2.1 bt232.2.2.2).bind fun t244 => (prebendlaw27_LineUnlike.j0 k ((bt240.1.toList == bt242.1.toList) != t244) a2_0 a2_1 a2_2 a2_3 a3_0 a3_1 a3_2 a3_3)) else (prebendlaw27_LineUnlike.j0 k false a2_0 a2_1 a2_2 a2_3 a3_0 a3_1 a3_2 a3_3)) else (prebendlaw27_LineUnlike.j0 k false a2_0 a2_1 a2_2 a2_3 a3_0 a3_1 a3_2 a3_3))))) = some r := H
 have A5 := Aside0.mk A50
 clear A50
 replace H := Option.bind_eq_some_iff.mp H
 obtain ⟨⟨t232, t233, t234, t235⟩, A60, H⟩ := H
 replace H : ((line_Print.f k t226 t227 t228 t229).bind fun bt240 => ((line_Print.f k t232 t233 t234 t235).bind fun bt242 => (if bt240.2 = 0 then (if bt242.2 = 0 then ((prebendref27_Same.f k t226 t227 t228 t229 t232 t233 t234 t235).bind fun t244 => (prebendlaw27_LineUnlike.j0 k ((bt240.1.toList == bt242.1.toList) != t244) a2_0 a2_1 a2_2 a2_3 a3_0 a3_1 a3_2 a3_3)) else (prebendlaw27_LineUnlike.j0 k false a2_0 a2_1 a2_2 a2_3 a3_0 a3_1 a3_2 a3_3)) else (prebendlaw27_LineUnlike.j0 k false a2_0 a2_1 a2_2 a2_3 a3_0 a3_1 a3_2 a3_3)))) = some r := H
 have A6 := Aside0.mk A60
 clear A60
 replace H := Option.bind_eq_some_iff.mp H
 obtain ⟨⟨t240, t241⟩, A70, H⟩ := H
 replace H : ((line_Print.f k t232 t233 t234 t235).bind fun bt242 => (if t241 = 0 then (if bt242.2 = 0 then ((prebendref27_Same.f k t226 t227 t228 t229 t232 t233 t234 t235).bind fun t244 => (prebendlaw27_LineUnlike.j0 k ((t240.toList == bt242.1.toList) != t244) a2_0 a2_1 a2_2 a2_3 a3_0 a3_1 a3_2 a3_3)) else (prebendlaw27_LineUnlike.j0 k false a2_0 a2_1 a2_2 a2_3 a3_0 a3_1 a3_2 a3_3)) else (prebendlaw27_LineUnlike.j0 k false a2_0 a2_1 a2_2 a2_3 a3_0 a3_1 a3_2 a3_3))) = some r := H
 have A7 := Aside0.mk A70
 clear A70
 replace H := Option.bind_eq_some_iff.mp H
 obtain ⟨⟨t242, t243⟩, A80, H⟩ := H
 replace H : (if t241 = 0 then (if t243 = 0 then ((prebendref27_Same.f k t226 t227 t228 t229 t232 t233 t234 t235).bind fun t244 => (prebendlaw27_LineUnlike.j0 k ((t240.toList == t242.toList) != t244) a2_0 a2_1 a2_2 a2_3 a3_0 a3_1 a3_2 a3_3)) else (prebendlaw27_LineUnlike.j0 k false a2_0 a2_1 a2_2 a2_3 a3_0 a3_1 a3_2 a3_3)) else (prebendlaw27_LineUnlike.j0 k false a2_0 a2_1 a2_2 a2_3 a3_0 a3_1 a3_2 a3_3)) = some r := H
 have A8 := Aside0.mk A80
 clear A80
 have HC9 := Aside0.mk H
 clear H
 go_enter Tryd.func6, Tryd.ntmps6
 try go_wp2_with (first | ((with_reducible refine gate_dst (N := 4) rfl ?_); refine box_event ?hg (N := 4) ?hd (cs := #[.int .i64 a0_0, .string a0_1, .string a0_2, .slice A0_3 l0_3.length c0_3]) (t := 24) ?hr ?_; (case hd => rfl); (case hg => rfl); (case hr => first | (go_simp; done) | (go_simp; rfl)); intro gb222 hg w10 hbox hb; have n0_ := Aside0.mk (below_step (by repeat (first | (with_reducible first | exact HB.out | apply below_alloc | apply pw_below_drewN | apply below_drew1) | exact HB.out)) hb); have n1_ := Aside0.mk (hbox); have n2_ := Aside0.mk ((by rw [hg]; exact (below_size (by repeat (first | (with_reducible first | exact HB.out | apply below_alloc | apply pw_below_drewN | apply below_drew1) | exact HB.out))) : w.heap.size ≤ gb222)); have n3_ := Aside0.mk ((by rw [hg]; exact (below_size (by repeat (first | (with_reducible first | exact HB.out | apply below_alloc | apply pw_below_drewN | apply below_drew1) | exact HB.out))) : w.heap.size ≤ gb222)); clear HB; have HB := n0_; have BK222 := n1_; have GW222 := n2_; have GE222 := n3_; clear n0_ n1_ n2_ n3_; clear hb hbox hg) | ((with_reducible refine gate_dst (N := 5) rfl ?_); refine box_event ?hg (N := 5) ?hd (cs := #[.int .i64 a1_0, .string a1_1, .string a1_2, .slice A1_3 l1_3.length c1_3]) (t := 24) ?hr ?_; (case hd => rfl); (case hg => rfl); (case hr => first | (go_simp; done) | (go_simp; rfl)); intro gb223 hg w11 hbox hb; have n0_ := Aside0.mk (blk_below (g := gb222) (o := q0 a0_0 a0_1 a0_2 A0_3 l0_3 c0_3) (by (with_reducible repeat (first | refine kc ?_ _ | refine kb ?_ | refine ka ?_ _)); exact BK222.out) hb); have n1_ := Aside0.mk (below_step (by repeat (first | (with_reducible first | exact HB.out | apply below_alloc | apply pw_below_drewN | apply below_drew1 | refine below_set ?_ GE222.out) | exact HB.out)) hb); have n2_ := Aside0.mk (hbox); have n3_ := Aside0.mk ((by rw [hg]; exact (below_size (by repeat (first | (with_reducible first | exact HB.out | apply below_alloc | apply pw_below_drewN | apply below_drew1 | refine below_set ?_ GE222.out) | exact HB.out))) : w.heap.size ≤ gb223)); have n4_ := Aside0.mk ((by rw [hg]; exact (below_size (by repeat (first | (with_reducible first | exact HB.out | apply below_alloc | apply pw_below_drewN | apply below_drew1 | refine below_set ?_ GE222.out) | exact HB.out))) : w.heap.size ≤ gb223)); have n5_ := Aside0.mk ((by rw [hg]; exact Nat.ne_of_lt (blk_lt (g := gb222) (o := q0 a0_0 a0_1 a0_2 A0_3 l0_3 c0_3) (by (with_reducible repeat (first | refine kc ?_ _ | refine kb ?_ | refine ka ?_ _)); exact BK222.out)) : gb222 ≠ gb223)); have n6_ := Aside0.mk ((by rw [hg]; exact Nat.ne_of_gt (blk_lt (g := gb222) (o := q0 a0_0 a0_1 a0_2 A0_3 l0_3 c0_3) (by (with_reducible repeat (first | refine kc ?_ _ | refine kb ?_ | refine ka ?_ _)); exact BK222.out)) : gb223 ≠ gb222)); clear BK222; clear HB; have BK222 := n0_; have HB := n1_; have BK223 := n2_; have GW223 := n3_; have GE223 := n4_; have NB222_223 := n5_; have NB223_222 := n6_; clear n0_ n1_ n2_ n3_ n4_ n5_ n6_; clear hb hbox hg) | ((with_reducible refine gate_dst (N := 6) rfl ?_); refine box_event ?hg (N := 6) ?hd (cs := #[.int .i64 a2_0, .int .i64 a2_1, .int .i64 a2_2, .int .i64 a2_3]) (t := 27) ?hr ?_; (case hd => rfl); (case hg => rfl); (case hr => first | (go_simp; done) | (go_simp; rfl)); intro gb224 hg w12 hbox hb; have n0_ := Aside0.mk (blk_below (g := gb222) (o := q0 a0_0 a0_1 a0_2 A0_3 l0_3 c0_3) (by (with_reducible repeat (first | refine kc ?_ _ | refine kb ?_ | refine ka ?_ _)); exact BK222.out) hb); have n1_ := Aside0.mk (blk_below (g := gb223) (o := q0 a1_0 a1_1 a1_2 A1_3 l1_3 c1_3) (by (with_reducible repeat (first | refine kc ?_ _ | refine kb ?_ | refine ka ?_ _)); exact BK223.out) hb); have n2_ := Aside0.mk (below_step (by repeat (first | (with_reducible first | exact HB.out | apply below_alloc | apply pw_below_drewN | apply below_drew1 | refine below_set ?_ GE222.out | refine below_set ?_ GE223.out) | exact HB.out)) hb); have n3_ := Aside0.mk (hbox); have n4_ := Aside0.mk ((by rw [hg]; exact (below_size (by repeat (first | (with_reducible first | exact HB.out | apply below_alloc | apply pw_below_drewN | apply below_drew1 | refine below_set ?_ GE222.out | refine below_set ?_ GE223.out) | exact HB.out))) : w.heap.size ≤ gb224)); have n5_ := Aside0.mk ((by rw [hg]; exact (below_size (by repeat (first | (with_reducible first | exact HB.out | apply below_alloc | apply pw_below_drewN | apply below_drew1 | refine below_set ?_ GE222.out | refine below_set ?_ GE223.out) | exact HB.out))) : w.heap.size ≤ gb224)); have n6_ := Aside0.mk ((by rw [hg]; exact Nat.ne_of_lt (blk_lt (g := gb222) (o := q0 a0_0 a0_1 a0_2 A0_3 l0_3 c0_3) (by (with_reducible repeat (first | refine kc ?_ _ | refine kb ?_ | refine ka ?_ _)); exact BK222.out)) : gb222 ≠ gb224)); have n7_ := Aside0.mk ((by rw [hg]; exact Nat.ne_of_gt (blk_lt (g := gb222) (o := q0 a0_0 a0_1 a0_2 A0_3 l0_3 c0_3) (by (with_reducible repeat (first | refine kc ?_ _ | refine kb ?_ | refine ka ?_ _)); exact BK222.out)) : gb224 ≠ gb222)); have n8_ := Aside0.mk ((by rw [hg]; exact Nat.ne_of_lt (blk_lt (g := gb223) (o := q0 a1_0 a1_1 a1_2 A1_3 l1_3 c1_3) (by (with_reducible repeat (first | refine kc ?_ _ | refine kb ?_ | refine ka ?_ _)); exact BK223.out)) : gb223 ≠ gb224)); have n9_ := Aside0.mk ((by rw [hg]; exact Nat.ne_of_gt (blk_lt (g := gb223) (o := q0 a1_0 a1_1 a1_2 A1_3 l1_3 c1_3) (by (with_reducible repeat (first | refine kc ?_ _ | refine kb ?_ | refine ka ?_ _)); exact BK223.out)) : gb224 ≠ gb223)); clear BK222; clear BK223; clear HB; have BK222 := n0_; have BK223 := n1_; have HB := n2_; have BK224 := n3_; have GW224 := n4_; have GE224 := n5_; have NB222_224 := n6_; have NB224_222 := n7_; have NB223_224 := n8_; have NB224_223 := n9_; clear n0_ n1_ n2_ n3_ n4_ n5_ n6_ n7_ n8_ n9_; clear hb hbox hg) | ((with_reducible refine gate_dst (N := 7) rfl ?_); refine box_event ?hg (N := 7) ?hd (cs := #[.int .i64 a3_0, .int .i64 a3_1, .int .i64 a3_2, .int .i64 a3_3]) (t := 27) ?hr ?_; (case hd => rfl); (case hg => rfl); (case hr => first | (go_simp; done) | (go_simp; rfl)); intro gb225 hg w13 hbox hb; have n0_ := Aside0.mk (blk_below (g := gb222) (o := q0 a0_0 a0_1 a0_2 A0_3 l0_3 c0_3) (by (with_reducible repeat (first | refine kc ?_ _ | refine kb ?_ | refine ka ?_ _)); exact BK222.out) hb); have n1_ := Aside0.mk (blk_below (g := gb223) (o := q0 a1_0 a1_1 a1_2 A1_3 l1_3 c1_3) (by (with_reducible repeat (first | refine kc ?_ _ | refine kb ?_ | refine ka ?_ _)); exact BK223.out) hb); have n2_ := Aside0.mk (blk_below (g := gb224) (o := q1 a2_0 a2_1 a2_2 a2_3) (by (with_reducible repeat (first | refine kc ?_ _ | refine kb ?_ | refine ka ?_ _)); exact BK224.out) hb); have n3_ := Aside0.mk (below_step (by repeat (first | (with_reducible first | exact HB.out | apply below_alloc | apply pw_below_drewN | apply below_drew1 | refine below_set ?_ GE222.out | refine below_set ?_ GE223.out | refine below_set ?_ GE224.out) | exact HB.out)) hb); have n4_ := Aside0.mk (hbox); have n5_ := Aside0.mk ((by rw [hg]; exact (below_size (by repeat (first | (with_reducible first | exact HB.out | apply below_alloc | apply pw_below_drewN | apply below_drew1 | refine below_set ?_ GE222.out | refine below_set ?_ GE223.out | refine below_set ?_ GE224.out) | exact HB.out))) : w.heap.size ≤ gb225)); have n6_ := Aside0.mk ((by rw [hg]; exact (below_size (by repeat (first | (with_reducible first | exact HB.out | apply below_alloc | apply pw_below_drewN | apply below_drew1 | refine below_set ?_ GE222.out | refine below_set ?_ GE223.out | refine below_set ?_ GE224.out) | exact HB.out))) : w.heap.size ≤ gb225)); have n7_ := Aside0.mk ((by rw [hg]; exact Nat.ne_of_lt (blk_lt (g := gb222) (o := q0 a0_0 a0_1 a0_2 A0_3 l0_3 c0_3) (by (with_reducible repeat (first | refine kc ?_ _ | refine kb ?_ | refine ka ?_ _)); exact BK222.out)) : gb222 ≠ gb225)); have n8_ := Aside0.mk ((by rw [hg]; exact Nat.ne_of_gt (blk_lt (g := gb222) (o := q0 a0_0 a0_1 a0_2 A0_3 l0_3 c0_3) (by (with_reducible repeat (first | refine kc ?_ _ | refine kb ?_ | refine ka ?_ _)); exact BK222.out)) : gb225 ≠ gb222)); have n9_ := Aside0.mk ((by rw [hg]; exact Nat.ne_of_lt (blk_lt (g := gb223) (o := q0 a1_0 a1_1 a1_2 A1_3 l1_3 c1_3) (by (with_reducible repeat (first | refine kc ?_ _ | refine kb ?_ | refine ka ?_ _)); exact BK223.out)) : gb223 ≠ gb225)); have n10_ := Aside0.mk ((by rw [hg]; exact Nat.ne_of_gt (blk_lt (g := gb223) (o := q0 a1_0 a1_1 a1_2 A1_3 l1_3 c1_3) (by (with_reducible repeat (first | refine kc ?_ _ | refine kb ?_ | refine ka ?_ _)); exact BK223.out)) : gb225 ≠ gb223)); have n11_ := Aside0.mk ((by rw [hg]; exact Nat.ne_of_lt (blk_lt (g := gb224) (o := q1 a2_0 a2_1 a2_2 a2_3) (by (with_reducible repeat (first | refine kc ?_ _ | refine kb ?_ | refine ka ?_ _)); exact BK224.out)) : gb224 ≠ gb225)); have n12_ := Aside0.mk ((by rw [hg]; exact Nat.ne_of_gt (blk_lt (g := gb224) (o := q1 a2_0 a2_1 a2_2 a2_3) (by (with_reducible repeat (first | refine kc ?_ _ | refine kb ?_ | refine ka ?_ _)); exact BK224.out)) : gb225 ≠ gb224)); clear BK222; clear BK223; clear BK224; clear HB; have BK222 := n0_; have BK223 := n1_; have BK224 := n2_; have HB := n3_; have BK225 := n4_; have GW225 := n5_; have GE225 := n6_; have NB222_225 := n7_; have NB225_222 := n8_; have NB223_225 := n9_; have NB225_223 := n10_; have NB224_225 := n11_; have NB225_224 := n12_; clear n0_ n1_ n2_ n3_ n4_ n5_ n6_ n7_ n8_ n9_ n10_ n11_ n12_; clear hb hbox hg))
 have n0_ := Aside0.mk (blk_drew BK222.out)
 have n1_ := Aside0.mk (blk_drew BK223.out)
 have n2_ := Aside0.mk (blk_drew BK224.out)
 have n3_ := Aside0.mk (blk_drew BK225.out)
 have n4_ := Aside0.mk (below_drew1 HB.out)
 clear BK222
 clear BK223
 clear BK224
 clear BK225
 clear HB
 have BK222 := n0_
 have BK223 := n1_
 have BK224 := n2_
 have BK225 := n3_
 have HB := n4_
 clear n0_ n1_ n2_ n3_ n4_
 refine start_ (n := 8) (S := fun w' => w'.cell? ⟨gb222, 0, none⟩ = some (.int .i64 a0_0) ∧ w'.cell? ⟨gb222, 1, none⟩ = some (.string a0_1) ∧ w'.cell? ⟨gb222, 2, none⟩ = some (.string a0_2) ∧ w'.cell? ⟨gb222, 3, none⟩ = some (.slice A0_3 l0_3.length c0_3) ∧ w'.cell? ⟨gb223, 0, none⟩ = some (.int .i64 a1_0) ∧ w'.cell? ⟨gb223, 1, none⟩ = some (.string a1_1) ∧ w'.cell? ⟨gb223, 2, none⟩ = some (.string a1_2) ∧ w'.cell? ⟨gb223, 3, none⟩ = some (.slice A1_3 l1_3.length c1_3)) (ds := []) #[false, false, false, false, false, false, false, false] (by kernel_rfl) rfl rfl ⟨(blk_cell BK222.out 0).trans rfl, (blk_cell BK222.out 1).trans rfl, (blk_cell BK222.out 2).trans rfl, (blk_cell BK222.out 3).trans rfl, (blk_cell BK223.out 0).trans rfl, (blk_cell BK223.out 1).trans rfl, (blk_cell BK223.out 2).trans rfl, (blk_cell BK223.out 3).trans rfl⟩ (fun hHeld => ?_); refine with_tabW prebendlaw27_LineUnlike.tab1 prebendlaw27_LineUnlike.bits1 (fun HT_ HW_ => ?_)
 generalize w13.drew = w14 at BK222 BK223 BK224 BK225 HB hHeld ⊢
 refine take_ (i := 0) (N := some 15) (v := ?_) (a' := ?_) #[true, false, false, false, false, false, false, false] rfl rfl (take_ofW HT_.out HW_.out (by kernel_rfl)) (fun _ _ _ h => h) (Or.inl ⟨by rfl, ?_⟩) hHeld ?_ ?_
 rotate_left
 ·rintro w' ⟨s0, s1, s2, s3, s4, s5, s6, s7⟩
  go_simp
  with_reducible rfl
 rotate_left
 ·simp only [Act.put, List.setIfInBounds_toArray, List.set_cons_zero, List.set_cons_succ, i64_w, i32_w]
  rfl
 refine take_ (i := 2) (N := some 17) (v := ?_) (a' := ?_) #[true, false, true, false, false, false, false, false] rfl rfl (take_ofW HT_.out HW_.out (by kernel_rfl)) (fun _ _ _ h => h) (Or.inl ⟨by rfl, ?_⟩) hHeld ?_ ?_
 rotate_left
 ·rintro w' ⟨s0, s1, s2, s3, s4, s5, s6, s7⟩
  go_simp
  with_reducible rfl
 rotate_left
 ·simp only [Act.put, List.setIfInBounds_toArray, List.set_cons_zero, List.set_cons_succ, i64_w, i32_w]
  rfl
 refine join_ (σ := Value × Value × Nat × Nat) 2 #[true, true, true, true, true, true, false, false] (fun s_ => [(16, .agg #[.int .i64 t226, .string t227, .string t228, s_.1]), (18, .agg #[.int .i64 t232, .string t233, .string t234, s_.2.1]), (9, .pointer (some ⟨s_.2.2.1, 0, none⟩)), (10, .pointer (some ⟨s_.2.2.2, 0, none⟩))]) (fun s_ w' => (w'.cell? ⟨gb222, 0, none⟩ = some (.int .i64 a0_0) ∧ w'.cell? ⟨gb222, 1, none⟩ = some (.string a0_1) ∧ w'.cell? ⟨gb222, 2, none⟩ = some (.string a0_2) ∧ w'.cell? ⟨gb222, 3, none⟩ = some (.slice A0_3 l0_3.length c0_3) ∧ w'.cell? ⟨gb223, 0, none⟩ = some (.int .i64 a1_0) ∧ w'.cell? ⟨gb223, 1, none⟩ = some (.string a1_1) ∧ w'.cell? ⟨gb223, 2, none⟩ = some (.string a1_2) ∧ w'.cell? ⟨gb223, 3, none⟩ = some (.slice A1_3 l1_3.length c1_3)) ∧ (Kd.V (Kd.int .i64) 3 w' w.heap.size (fun k_ => k_ ≠ gb222 ∧ k_ ≠ gb223 ∧ k_ ≠ gb224 ∧ k_ ≠ gb225 ∧ k_ ≠ s_.2.2.1 ∧ k_ ≠ s_.2.2.2) s_.1 t229) ∧ (Kd.V (Kd.int .i64) 3 w' w.heap.size (fun k_ => k_ ≠ gb222 ∧ k_ ≠ gb223 ∧ k_ ≠ gb224 ∧ k_ ≠ gb225 ∧ k_ ≠ s_.2.2.1 ∧ k_ ≠ s_.2.2.2) s_.2.1 t235) ∧ (w'.heap[gb222]? = some (.cells #[.int .i64 a0_0, .string a0_1, .string a0_2, .slice A0_3 l0_3.length c0_3] 24 (0, 0))) ∧ (w'.heap[gb223]? = some (.cells #[.int .i64 a1_0, .string a1_1, .string a1_2, .slice A1_3 l1_3.length c1_3] 24 (0, 0))) ∧ (w'.heap[gb224]? = some (.cells #[.int .i64 a2_0, .int .i64 a2_1, .int .i64 a2_2, .int .i64 a2_3] 27 (0, 0))) ∧ (w'.heap[gb225]? = some (.cells #[.int .i64 a3_0, .int .i64 a3_1, .int .i64 a3_2, .int .i64 a3_3] 27 (0, 0))) ∧ (w'.heap[s_.2.2.1]? = some (.cells #[.int .i64 0, .string (⟨#[]⟩ : ByteArray), .string (⟨#[]⟩ : ByteArray), .slice none 0 0] 24 (0, 0))) ∧ (w'.heap[s_.2.2.2]? = some (.cells #[.int .i64 0, .string (⟨#[]⟩ : ByteArray), .string (⟨#[]⟩ : ByteArray), .slice none 0 0] 24 (0, 0))) ∧ (w.heap.size ≤ s_.2.2.1) ∧ (w.heap.size ≤ s_.2.2.1) ∧ (gb222 ≠ s_.2.2.1) ∧ (s_.2.2.1 ≠ gb222) ∧ (gb223 ≠ s_.2.2.1) ∧ (s_.2.2.1 ≠ gb223) ∧ (gb224 ≠ s_.2.2.1) ∧ (s_.2.2.1 ≠ gb224) ∧ (gb225 ≠ s_.2.2.1) ∧ (s_.2.2.1 ≠ gb225) ∧ (s_.2.2.2 ≠ s_.2.2.1) ∧ (s_.2.2.1 ≠ s_.2.2.2) ∧ (w.heap.size ≤ s_.2.2.2) ∧ (w.heap.size ≤ s_.2.2.2) ∧ (gb222 ≠ s_.2.2.2) ∧ (s_.2.2.2 ≠ gb222) ∧ (gb223 ≠ s_.2.2.2) ∧ (s_.2.2.2 ≠ gb223) ∧ (gb224 ≠ s_.2.2.2) ∧ (s_.2.2.2 ≠ gb224) ∧ (gb225 ≠ s_.2.2.2) ∧ (s_.2.2.2 ≠ gb225) ∧ (Below w.heap.size w w')) ?_ ?_
 rotate_left
 ·intro hJ1_3_4_5
  refine join_ (σ := Value × Value × Nat) 3 #[true, true, true, true, true, false, false, false] (fun s_ => [(16, .agg #[.int .i64 t226, .string t227, .string t228, s_.1]), (18, .agg #[.int .i64 t232, .string t233, .string t234, s_.2.1]), (9, .pointer (some ⟨s_.2.2, 0, none⟩))]) (fun s_ w' => (w'.cell? ⟨gb222, 0, none⟩ = some (.int .i64 a0_0) ∧ w'.cell? ⟨gb222, 1, none⟩ = some (.string a0_1) ∧ w'.cell? ⟨gb222, 2, none⟩ = some (.string a0_2) ∧ w'.cell? ⟨gb222, 3, none⟩ = some (.slice A0_3 l0_3.length c0_3) ∧ w'.cell? ⟨gb223, 0, none⟩ = some (.int .i64 a1_0) ∧ w'.cell? ⟨gb223, 1, none⟩ = some (.string a1_1) ∧ w'.cell? ⟨gb223, 2, none⟩ = some (.string a1_2) ∧ w'.cell? ⟨gb223, 3, none⟩ = some (.slice A1_3 l1_3.length c1_3)) ∧ (Kd.V (Kd.int .i64) 3 w' w.heap.size (fun k_ => k_ ≠ gb222 ∧ k_ ≠ gb223 ∧ k_ ≠ gb224 ∧ k_ ≠ gb225 ∧ k_ ≠ s_.2.2) s_.1 t229) ∧ (Kd.V (Kd.int .i64) 3 w' w.heap.size (fun k_ => k_ ≠ gb222 ∧ k_ ≠ gb223 ∧ k_ ≠ gb224 ∧ k_ ≠ gb225 ∧ k_ ≠ s_.2.2) s_.2.1 t235) ∧ (w'.heap[gb222]? = some (.cells #[.int .i64 a0_0, .string a0_1, .string a0_2, .slice A0_3 l0_3.length c0_3] 24 (0, 0))) ∧ (w'.heap[gb223]? = some (.cells #[.int .i64 a1_0, .string a1_1, .string a1_2, .slice A1_3 l1_3.length c1_3] 24 (0, 0))) ∧ (w'.heap[gb224]? = some (.cells #[.int .i64 a2_0, .int .i64 a2_1, .int .i64 a2_2, .int .i64 a2_3] 27 (0, 0))) ∧ (w'.heap[gb225]? = some (.cells #[.int .i64 a3_0, .int .i64 a3_1, .int .i64 a3_2, .int .i64 a3_3] 27 (0, 0))) ∧ (w'.heap[s_.2.2]? = some (.cells #[.int .i64 0, .string (⟨#[]⟩ : ByteArray), .string (⟨#[]⟩ : ByteArray), .slice none 0 0] 24 (0, 0))) ∧ (w.heap.size ≤ s_.2.2) ∧ (w.heap.size ≤ s_.2.2) ∧ (gb222 ≠ s_.2.2) ∧ (s_.2.2 ≠ gb222) ∧ (gb223 ≠ s_.2.2) ∧ (s_.2.2 ≠ gb223) ∧ (gb224 ≠ s_.2.2) ∧ (s_.2.2 ≠ gb224) ∧ (gb225 ≠ s_.2.2) ∧ (s_.2.2 ≠ gb225) ∧ (Below w.heap.size w w')) ?_ ?_
  rotate_left
  ·intro hJ1_3_4
   refine join_ (σ := Value × Value × Nat) 3 #[true, true, true, true, false, true, false, false] (fun s_ => [(16, .agg #[.int .i64 t226, .string t227, .string t228, s_.1]), (18, .agg #[.int .i64 t232, .string t233, .string t234, s_.2.1]), (10, .pointer (some ⟨s_.2.2, 0, none⟩))]) (fun s_ w' => (w'.cell? ⟨gb222, 0, none⟩ = some (.int .i64 a0_0) ∧ w'.cell? ⟨gb222, 1, none⟩ = some (.string a0_1) ∧ w'.cell? ⟨gb222, 2, none⟩ = some (.string a0_2) ∧ w'.cell? ⟨gb222, 3, none⟩ = some (.slice A0_3 l0_3.length c0_3) ∧ w'.cell? ⟨gb223, 0, none⟩ = some (.int .i64 a1_0) ∧ w'.cell? ⟨gb223, 1, none⟩ = some (.string a1_1) ∧ w'.cell? ⟨gb223, 2, none⟩ = some (.string a1_2) ∧ w'.cell? ⟨gb223, 3, none⟩ = some (.slice A1_3 l1_3.length c1_3)) ∧ (Kd.V (Kd.int .i64) 3 w' w.heap.size (fun k_ => k_ ≠ gb222 ∧ k_ ≠ gb223 ∧ k_ ≠ gb224 ∧ k_ ≠ gb225 ∧ k_ ≠ s_.2.2) s_.1 t229) ∧ (Kd.V (Kd.int .i64) 3 w' w.heap.size (fun k_ => k_ ≠ gb222 ∧ k_ ≠ gb223 ∧ k_ ≠ gb224 ∧ k_ ≠ gb225 ∧ k_ ≠ s_.2.2) s_.2.1 t235) ∧ (w'.heap[gb222]? = some (.cells #[.int .i64 a0_0, .string a0_1, .string a0_2, .slice A0_3 l0_3.length c0_3] 24 (0, 0))) ∧ (w'.heap[gb223]? = some (.cells #[.int .i64 a1_0, .string a1_1, .string a1_2, .slice A1_3 l1_3.length c1_3] 24 (0, 0))) ∧ (w'.heap[gb224]? = some (.cells #[.int .i64 a2_0, .int .i64 a2_1, .int .i64 a2_2, .int .i64 a2_3] 27 (0, 0))) ∧ (w'.heap[gb225]? = some (.cells #[.int .i64 a3_0, .int .i64 a3_1, .int .i64 a3_2, .int .i64 a3_3] 27 (0, 0))) ∧ (w'.heap[s_.2.2]? = some (.cells #[.int .i64 0, .string (⟨#[]⟩ : ByteArray), .string (⟨#[]⟩ : ByteArray), .slice none 0 0] 24 (0, 0))) ∧ (w.heap.size ≤ s_.2.2) ∧ (w.heap.size ≤ s_.2.2) ∧ (gb222 ≠ s_.2.2) ∧ (s_.2.2 ≠ gb222) ∧ (gb223 ≠ s_.2.2) ∧ (s_.2.2 ≠ gb223) ∧ (gb224 ≠ s_.2.2) ∧ (s_.2.2 ≠ gb224) ∧ (gb225 ≠ s_.2.2) ∧ (s_.2.2 ≠ gb225) ∧ (Below w.heap.size w w')) ?_ ?_
   rotate_left
   ·intro hJ1_3_5
    refine join_ (σ := Value × Nat × Nat) 3 #[true, true, true, false, true, true, false, false] (fun s_ => [(16, .agg #[.int .i64 t226, .string t227, .string t228, s_.1]), (9, .pointer (some ⟨s_.2.1, 0, none⟩)), (10, .pointer (some ⟨s_.2.2, 0, none⟩))]) (fun s_ w' => (w'.cell? ⟨gb222, 0, none⟩ = some (.int .i64 a0_0) ∧ w'.cell? ⟨gb222, 1, none⟩ = some (.string a0_1) ∧ w'.cell? ⟨gb222, 2, none⟩ = some (.string a0_2) ∧ w'.cell? ⟨gb222, 3, none⟩ = some (.slice A0_3 l0_3.length c0_3) ∧ w'.cell? ⟨gb223, 0, none⟩ = some (.int .i64 a1_0) ∧ w'.cell? ⟨gb223, 1, none⟩ = some (.string a1_1) ∧ w'.cell? ⟨gb223, 2, none⟩ = some (.string a1_2) ∧ w'.cell? ⟨gb223, 3, none⟩ = some (.slice A1_3 l1_3.length c1_3)) ∧ (Kd.V (Kd.int .i64) 3 w' w.heap.size (fun k_ => k_ ≠ gb222 ∧ k_ ≠ gb223 ∧ k_ ≠ gb224 ∧ k_ ≠ gb225 ∧ k_ ≠ s_.2.1 ∧ k_ ≠ s_.2.2) s_.1 t229) ∧ (w'.heap[gb222]? = some (.cells #[.int .i64 a0_0, .string a0_1, .string a0_2, .slice A0_3 l0_3.length c0_3] 24 (0, 0))) ∧ (w'.heap[gb223]? = some (.cells #[.int .i64 a1_0, .string a1_1, .string a1_2, .slice A1_3 l1_3.length c1_3] 24 (0, 0))) ∧ (w'.heap[gb224]? = some (.cells #[.int .i64 a2_0, .int .i64 a2_1, .int .i64 a2_2, .int .i64 a2_3] 27 (0, 0))) ∧ (w'.heap[gb225]? = some (.cells #[.int .i64 a3_0, .int .i64 a3_1, .int .i64 a3_2, .int .i64 a3_3] 27 (0, 0))) ∧ (w'.heap[s_.2.1]? = some (.cells #[.int .i64 0, .string (⟨#[]⟩ : ByteArray), .string (⟨#[]⟩ : ByteArray), .slice none 0 0] 24 (0, 0))) ∧ (w'.heap[s_.2.2]? = some (.cells #[.int .i64 0, .string (⟨#[]⟩ : ByteArray), .string (⟨#[]⟩ : ByteArray), .slice none 0 0] 24 (0, 0))) ∧ (w.heap.size ≤ s_.2.1) ∧ (w.heap.size ≤ s_.2.1) ∧ (gb222 ≠ s_.2.1) ∧ (s_.2.1 ≠ gb222) ∧ (gb223 ≠ s_.2.1) ∧ (s_.2.1 ≠ gb223) ∧ (gb224 ≠ s_.2.1) ∧ (s_.2.1 ≠ gb224) ∧ (gb225 ≠ s_.2.1) ∧ (s_.2.1 ≠ gb225) ∧ (s_.2.2 ≠ s_.2.1) ∧ (s_.2.1 ≠ s_.2.2) ∧ (w.heap.size ≤ s_.2.2) ∧ (w.heap.size ≤ s_.2.2) ∧ (gb222 ≠ s_.2.2) ∧ (s_.2.2 ≠ gb222) ∧ (gb223 ≠ s_.2.2) ∧ (s_.2.2 ≠ gb223) ∧ (gb224 ≠ s_.2.2) ∧ (s_.2.2 ≠ gb224) ∧ (gb225 ≠ s_.2.2) ∧ (s_.2.2 ≠ gb225) ∧ (Below w.heap.size w w')) ?_ ?_
    rotate_left
    ·intro hJ1_4_5
     refine join_ (σ := Value × Value) 4 #[true, true, true, true, false, false, false, false] (fun s_ => [(16, .agg #[.int .i64 t226, .string t227, .string t228, s_.1]), (18, .agg #[.int .i64 t232, .string t233, .string t234, s_.2])]) (fun s_ w' => (w'.cell? ⟨gb222, 0, none⟩ = some (.int .i64 a0_0) ∧ w'.cell? ⟨gb222, 1, none⟩ = some (.string a0_1) ∧ w'.cell? ⟨gb222, 2, none⟩ = some (.string a0_2) ∧ w'.cell? ⟨gb222, 3, none⟩ = some (.slice A0_3 l0_3.length c0_3) ∧ w'.cell? ⟨gb223, 0, none⟩ = some (.int .i64 a1_0) ∧ w'.cell? ⟨gb223, 1, none⟩ = some (.string a1_1) ∧ w'.cell? ⟨gb223, 2, none⟩ = some (.string a1_2) ∧ w'.cell? ⟨gb223, 3, none⟩ = some (.slice A1_3 l1_3.length c1_3)) ∧ (Kd.V (Kd.int .i64) 3 w' w.heap.size (fun k_ => k_ ≠ gb222 ∧ k_ ≠ gb223 ∧ k_ ≠ gb224 ∧ k_ ≠ gb225) s_.1 t229) ∧ (Kd.V (Kd.int .i64) 3 w' w.heap.size (fun k_ => k_ ≠ gb222 ∧ k_ ≠ gb223 ∧ k_ ≠ gb224 ∧ k_ ≠ gb225) s_.2 t235) ∧ (w'.heap[gb222]? = some (.cells #[.int .i64 a0_0, .string a0_1, .string a0_2, .slice A0_3 l0_3.length c0_3] 24 (0, 0))) ∧ (w'.heap[gb223]? = some (.cells #[.int .i64 a1_0, .string a1_1, .string a1_2, .slice A1_3 l1_3.length c1_3] 24 (0, 0))) ∧ (w'.heap[gb224]? = some (.cells #[.int .i64 a2_0, .int .i64 a2_1, .int .i64 a2_2, .int .i64 a2_3] 27 (0, 0))) ∧ (w'.heap[gb225]? = some (.cells #[.int .i64 a3_0, .int .i64 a3_1, .int .i64 a3_2, .int .i64 a3_3] 27 (0, 0))) ∧ (Below w.heap.size w w')) ?_ ?_
     rotate_left
     ·intro hJ1_3
      refine join_ (σ := Value × Nat) 4 #[true, true, true, false, true, false, false, false] (fun s_ => [(16, .agg #[.int .i64 t226, .string t227, .string t228, s_.1]), (9, .pointer (some ⟨s_.2, 0, none⟩))]) (fun s_ w' => (w'.cell? ⟨gb222, 0, none⟩ = some (.int .i64 a0_0) ∧ w'.cell? ⟨gb222, 1, none⟩ = some (.string a0_1) ∧ w'.cell? ⟨gb222, 2, none⟩ = some (.string a0_2) ∧ w'.cell? ⟨gb222, 3, none⟩ = some (.slice A0_3 l0_3.length c0_3) ∧ w'.cell? ⟨gb223, 0, none⟩ = some (.int .i64 a1_0) ∧ w'.cell? ⟨gb223, 1, none⟩ = some (.string a1_1) ∧ w'.cell? ⟨gb223, 2, none⟩ = some (.string a1_2) ∧ w'.cell? ⟨gb223, 3, none⟩ = some (.slice A1_3 l1_3.length c1_3)) ∧ (Kd.V (Kd.int .i64) 3 w' w.heap.size (fun k_ => k_ ≠ gb222 ∧ k_ ≠ gb223 ∧ k_ ≠ gb224 ∧ k_ ≠ gb225 ∧ k_ ≠ s_.2) s_.1 t229) ∧ (w'.heap[gb222]? = some (.cells #[.int .i64 a0_0, .string a0_1, .string a0_2, .slice A0_3 l0_3.length c0_3] 24 (0, 0))) ∧ (w'.heap[gb223]? = some (.cells #[.int .i64 a1_0, .string a1_1, .string a1_2, .slice A1_3 l1_3.length c1_3] 24 (0, 0))) ∧ (w'.heap[gb224]? = some (.cells #[.int .i64 a2_0, .int .i64 a2_1, .int .i64 a2_2, .int .i64 a2_3] 27 (0, 0))) ∧ (w'.heap[gb225]? = some (.cells #[.int .i64 a3_0, .int .i64 a3_1, .int .i64 a3_2, .int .i64 a3_3] 27 (0, 0))) ∧ (w'.heap[s_.2]? = some (.cells #[.int .i64 0, .string (⟨#[]⟩ : ByteArray), .string (⟨#[]⟩ : ByteArray), .slice none 0 0] 24 (0, 0))) ∧ (w.heap.size ≤ s_.2) ∧ (w.heap.size ≤ s_.2) ∧ (gb222 ≠ s_.2) ∧ (s_.2 ≠ gb222) ∧ (gb223 ≠ s_.2) ∧ (s_.2 ≠ gb223) ∧ (gb224 ≠ s_.2) ∧ (s_.2 ≠ gb224) ∧ (gb225 ≠ s_.2) ∧ (s_.2 ≠ gb225) ∧ (Below w.heap.size w w')) ?_ ?_
      rotate_left
      ·intro hJ1_4
       refine join_ (σ := Value × Nat) 4 #[true, true, true, false, false, true, false, false] (fun s_ => [(16, .agg #[.int .i64 t226, .string t227, .string t228, s_.1]), (10, .pointer (some ⟨s_.2, 0, none⟩))]) (fun s_ w' => (w'.cell? ⟨gb222, 0, none⟩ = some (.int .i64 a0_0) ∧ w'.cell? ⟨gb222, 1, none⟩ = some (.string a0_1) ∧ w'.cell? ⟨gb222, 2, none⟩ = some (.string a0_2) ∧ w'.cell? ⟨gb222, 3, none⟩ = some (.slice A0_3 l0_3.length c0_3) ∧ w'.cell? ⟨gb223, 0, none⟩ = some (.int .i64 a1_0) ∧ w'.cell? ⟨gb223, 1, none⟩ = some (.string a1_1) ∧ w'.cell? ⟨gb223, 2, none⟩ = some (.string a1_2) ∧ w'.cell? ⟨gb223, 3, none⟩ = some (.slice A1_3 l1_3.length c1_3)) ∧ (Kd.V (Kd.int .i64) 3 w' w.heap.size (fun k_ => k_ ≠ gb222 ∧ k_ ≠ gb223 ∧ k_ ≠ gb224 ∧ k_ ≠ gb225 ∧ k_ ≠ s_.2) s_.1 t229) ∧ (w'.heap[gb222]? = some (.cells #[.int .i64 a0_0, .string a0_1, .string a0_2, .slice A0_3 l0_3.length c0_3] 24 (0, 0))) ∧ (w'.heap[gb223]? = some (.cells #[.int .i64 a1_0, .string a1_1, .string a1_2, .slice A1_3 l1_3.length c1_3] 24 (0, 0))) ∧ (w'.heap[gb224]? = some (.cells #[.int .i64 a2_0, .int .i64 a2_1, .int .i64 a2_2, .int .i64 a2_3] 27 (0, 0))) ∧ (w'.heap[gb225]? = some (.cells #[.int .i64 a3_0, .int .i64 a3_1, .int .i64 a3_2, .int .i64 a3_3] 27 (0, 0))) ∧ (w'.heap[s_.2]? = some (.cells #[.int .i64 0, .string (⟨#[]⟩ : ByteArray), .string (⟨#[]⟩ : ByteArray), .slice none 0 0] 24 (0, 0))) ∧ (w.heap.size ≤ s_.2) ∧ (w.heap.size ≤ s_.2) ∧ (gb222 ≠ s_.2) ∧ (s_.2 ≠ gb222) ∧ (gb223 ≠ s_.2) ∧ (s_.2 ≠ gb223) ∧ (gb224 ≠ s_.2) ∧ (s_.2 ≠ gb224) ∧ (gb225 ≠ s_.2) ∧ (s_.2 ≠ gb225) ∧ (Below w.heap.size w w')) ?_ ?_
       rotate_left
       ·intro hJ1_5
        refine join_ (σ := Nat × Nat) 4 #[true, false, true, false, true, true, false, false] (fun s_ => [(9, .pointer (some ⟨s_.1, 0, none⟩)), (10, .pointer (some ⟨s_.2, 0, none⟩))]) (fun s_ w' => (w'.cell? ⟨gb222, 0, none⟩ = some (.int .i64 a0_0) ∧ w'.cell? ⟨gb222, 1, none⟩ = some (.string a0_1) ∧ w'.cell? ⟨gb222, 2, none⟩ = some (.string a0_2) ∧ w'.cell? ⟨gb222, 3, none⟩ = some (.slice A0_3 l0_3.length c0_3) ∧ w'.cell? ⟨gb223, 0, none⟩ = some (.int .i64 a1_0) ∧ w'.cell? ⟨gb223, 1, none⟩ = some (.string a1_1) ∧ w'.cell? ⟨gb223, 2, none⟩ = some (.string a1_2) ∧ w'.cell? ⟨gb223, 3, none⟩ = some (.slice A1_3 l1_3.length c1_3)) ∧ (w'.heap[gb222]? = some (.cells #[.int .i64 a0_0, .string a0_1, .string a0_2, .slice A0_3 l0_3.length c0_3] 24 (0, 0))) ∧ (w'.heap[gb223]? = some (.cells #[.int .i64 a1_0, .string a1_1, .string a1_2, .slice A1_3 l1_3.length c1_3] 24 (0, 0))) ∧ (w'.heap[gb224]? = some (.cells #[.int .i64 a2_0, .int .i64 a2_1, .int .i64 a2_2, .int .i64 a2_3] 27 (0, 0))) ∧ (w'.heap[gb225]? = some (.cells #[.int .i64 a3_0, .int .i64 a3_1, .int .i64 a3_2, .int .i64 a3_3] 27 (0, 0))) ∧ (w'.heap[s_.1]? = some (.cells #[.int .i64 0, .string (⟨#[]⟩ : ByteArray), .string (⟨#[]⟩ : ByteArray), .slice none 0 0] 24 (0, 0))) ∧ (w'.heap[s_.2]? = some (.cells #[.int .i64 0, .string (⟨#[]⟩ : ByteArray), .string (⟨#[]⟩ : ByteArray), .slice none 0 0] 24 (0, 0))) ∧ (w.heap.size ≤ s_.1) ∧ (w.heap.size ≤ s_.1) ∧ (gb222 ≠ s_.1) ∧ (s_.1 ≠ gb222) ∧ (gb223 ≠ s_.1) ∧ (s_.1 ≠ gb223) ∧ (gb224 ≠ s_.1) ∧ (s_.1 ≠ gb224) ∧ (gb225 ≠ s_.1) ∧ (s_.1 ≠ gb225) ∧ (s_.2 ≠ s_.1) ∧ (s_.1 ≠ s_.2) ∧ (w.heap.size ≤ s_.2) ∧ (w.heap.size ≤ s_.2) ∧ (gb222 ≠ s_.2) ∧ (s_.2 ≠ gb222) ∧ (gb223 ≠ s_.2) ∧ (s_.2 ≠ gb223) ∧ (gb224 ≠ s_.2) ∧ (s_.2 ≠ gb224) ∧ (gb225 ≠ s_.2) ∧ (s_.2 ≠ gb225) ∧ (Below w.heap.size w w')) ?_ ?_
        rotate_left
        ·intro hJ4_5
         refine join_ (σ := Value) 5 #[true, true, true, false, false, false, false, false] (fun s_ => [(16, .agg #[.int .i64 t226, .string t227, .string t228, s_])]) (fun s_ w' => (w'.cell? ⟨gb222, 0, none⟩ = some (.int .i64 a0_0) ∧ w'.cell? ⟨gb222, 1, none⟩ = some (.string a0_1) ∧ w'.cell? ⟨gb222, 2, none⟩ = some (.string a0_2) ∧ w'.cell? ⟨gb222, 3, none⟩ = some (.slice A0_3 l0_3.length c0_3) ∧ w'.cell? ⟨gb223, 0, none⟩ = some (.int .i64 a1_0) ∧ w'.cell? ⟨gb223, 1, none⟩ = some (.string a1_1) ∧ w'.cell? ⟨gb223, 2, none⟩ = some (.string a1_2) ∧ w'.cell? ⟨gb223, 3, none⟩ = some (.slice A1_3 l1_3.length c1_3)) ∧ (Kd.V (Kd.int .i64) 3 w' w.heap.size (fun k_ => k_ ≠ gb222 ∧ k_ ≠ gb223 ∧ k_ ≠ gb224 ∧ k_ ≠ gb225) s_ t229) ∧ (w'.heap[gb222]? = some (.cells #[.int .i64 a0_0, .string a0_1, .string a0_2, .slice A0_3 l0_3.length c0_3] 24 (0, 0))) ∧ (w'.heap[gb223]? = some (.cells #[.int .i64 a1_0, .string a1_1, .string a1_2, .slice A1_3 l1_3.length c1_3] 24 (0, 0))) ∧ (w'.heap[gb224]? = some (.cells #[.int .i64 a2_0, .int .i64 a2_1, .int .i64 a2_2, .int .i64 a2_3] 27 (0, 0))) ∧ (w'.heap[gb225]? = some (.cells #[.int .i64 a3_0, .int .i64 a3_1, .int .i64 a3_2, .int .i64 a3_3] 27 (0, 0))) ∧ (Below w.heap.size w w')) ?_ ?_
         rotate_left
         ·intro hJ1
          refine join_ (σ := Nat) 5 #[true, false, true, false, true, false, false, false] (fun s_ => [(9, .pointer (some ⟨s_, 0, none⟩))]) (fun s_ w' => (w'.cell? ⟨gb222, 0, none⟩ = some (.int .i64 a0_0) ∧ w'.cell? ⟨gb222, 1, none⟩ = some (.string a0_1) ∧ w'.cell? ⟨gb222, 2, none⟩ = some (.string a0_2) ∧ w'.cell? ⟨gb222, 3, none⟩ = some (.slice A0_3 l0_3.length c0_3) ∧ w'.cell? ⟨gb223, 0, none⟩ = some (.int .i64 a1_0) ∧ w'.cell? ⟨gb223, 1, none⟩ = some (.string a1_1) ∧ w'.cell? ⟨gb223, 2, none⟩ = some (.string a1_2) ∧ w'.cell? ⟨gb223, 3, none⟩ = some (.slice A1_3 l1_3.length c1_3)) ∧ (w'.heap[gb222]? = some (.cells #[.int .i64 a0_0, .string a0_1, .string a0_2, .slice A0_3 l0_3.length c0_3] 24 (0, 0))) ∧ (w'.heap[gb223]? = some (.cells #[.int .i64 a1_0, .string a1_1, .string a1_2, .slice A1_3 l1_3.length c1_3] 24 (0, 0))) ∧ (w'.heap[gb224]? = some (.cells #[.int .i64 a2_0, .int .i64 a2_1, .int .i64 a2_2, .int .i64 a2_3] 27 (0, 0))) ∧ (w'.heap[gb225]? = some (.cells #[.int .i64 a3_0, .int .i64 a3_1, .int .i64 a3_2, .int .i64 a3_3] 27 (0, 0))) ∧ (w'.heap[s_]? = some (.cells #[.int .i64 0, .string (⟨#[]⟩ : ByteArray), .string (⟨#[]⟩ : ByteArray), .slice none 0 0] 24 (0, 0))) ∧ (w.heap.size ≤ s_) ∧ (w.heap.size ≤ s_) ∧ (gb222 ≠ s_) ∧ (s_ ≠ gb222) ∧ (gb223 ≠ s_) ∧ (s_ ≠ gb223) ∧ (gb224 ≠ s_) ∧ (s_ ≠ gb224) ∧ (gb225 ≠ s_) ∧ (s_ ≠ gb225) ∧ (Below w.heap.size w w')) ?_ ?_
          rotate_left
          ·intro hJ4
           refine join_ (σ := Nat) 5 #[true, false, true, false, false, true, false, false] (fun s_ => [(10, .pointer (some ⟨s_, 0, none⟩))]) (fun s_ w' => (w'.cell? ⟨gb222, 0, none⟩ = some (.int .i64 a0_0) ∧ w'.cell? ⟨gb222, 1, none⟩ = some (.string a0_1) ∧ w'.cell? ⟨gb222, 2, none⟩ = some (.string a0_2) ∧ w'.cell? ⟨gb222, 3, none⟩ = some (.slice A0_3 l0_3.length c0_3) ∧ w'.cell? ⟨gb223, 0, none⟩ = some (.int .i64 a1_0) ∧ w'.cell? ⟨gb223, 1, none⟩ = some (.string a1_1) ∧ w'.cell? ⟨gb223, 2, none⟩ = some (.string a1_2) ∧ w'.cell? ⟨gb223, 3, none⟩ = some (.slice A1_3 l1_3.length c1_3)) ∧ (w'.heap[gb222]? = some (.cells #[.int .i64 a0_0, .string a0_1, .string a0_2, .slice A0_3 l0_3.length c0_3] 24 (0, 0))) ∧ (w'.heap[gb223]? = some (.cells #[.int .i64 a1_0, .string a1_1, .string a1_2, .slice A1_3 l1_3.length c1_3] 24 (0, 0))) ∧ (w'.heap[gb224]? = some (.cells #[.int .i64 a2_0, .int .i64 a2_1, .int .i64 a2_2, .int .i64 a2_3] 27 (0, 0))) ∧ (w'.heap[gb225]? = some (.cells #[.int .i64 a3_0, .int .i64 a3_1, .int .i64 a3_2, .int .i64 a3_3] 27 (0, 0))) ∧ (w'.heap[s_]? = some (.cells #[.int .i64 0, .string (⟨#[]⟩ : ByteArray), .string (⟨#[]⟩ : ByteArray), .slice none 0 0] 24 (0, 0))) ∧ (w.heap.size ≤ s_) ∧ (w.heap.size ≤ s_) ∧ (gb222 ≠ s_) ∧ (s_ ≠ gb222) ∧ (gb223 ≠ s_) ∧ (s_ ≠ gb223) ∧ (gb224 ≠ s_) ∧ (s_ ≠ gb224) ∧ (gb225 ≠ s_) ∧ (s_ ≠ gb225) ∧ (Below w.heap.size w w')) ?_ ?_
           rotate_left
           ·intro hJ5
            refine three_ (i := 1) (j := 4) (k := 5) (Ni := some 16) (Nj := some 9) (Nk := some 10) #[true, true, true, false, false, false, false, false] #[true, false, true, false, true, false, false, false] #[true, false, true, false, false, true, false, false] rfl rfl rfl rfl rfl rfl (three_of HT_.out (by kernel_rfl)) (by decide) (by decide) (by decide) (fun K hK => ?_) (fun K hK => ?_) (fun K hK => ?_)
            ·skip
             refine goes_ Tryd.func13 (by kernel_rfl) rfl #[.agg #[.int .i64 a0_0, .string a0_1, .string a0_2, .slice A0_3 l0_3.length c0_3]] (by rfl) rfl rfl (by (try simp only [List.map_toArray, List.map_cons, List.map_nil]); first | done | rfl) ?_
             with_reducible refine (prebendlaw27_small.calls a0_0 a0_1 a0_2 (fun k_ => k_ < w.heap.size) _ _ l0_3 t226 t227 t228 t229 _ ?side1 A5.out).mono ?_
             (case side1 => exact Kd.V_mk HC0_3.out (Kd.F_below (Kd.C_F (Kd.heap_int .i64) HR0_3.out) (by repeat (first | (with_reducible first | exact HB.out | apply below_alloc | apply pw_below_drewN | apply below_drew1 | refine below_set ?_ GE222.out | refine below_set ?_ GE223.out | refine below_set ?_ GE224.out | refine below_set ?_ GE225.out) | exact HB.out))))
             rintro e w15 ⟨v230, rfl, ho0, hb⟩
             refine ⟨_, rfl, ?_⟩
             have n0_ := Aside0.mk (Kd.V_lower (Kd.V_mono (ok' := fun k_ => k_ ≠ gb222 ∧ k_ ≠ gb223 ∧ k_ ≠ gb224 ∧ k_ ≠ gb225) ho0 (fun k_ hk_ => ⟨Or.elim hk_ (fun hs_ => fun e_ => Nat.not_le.2 hs_ (by rw [e_]; exact GW222.out)) (fun hn_ => (Kd.freshB (g := gb222) (o := q0 a0_0 a0_1 a0_2 A0_3 l0_3 c0_3) (by (with_reducible repeat (first | refine kc ?_ _ | refine kb ?_ | refine ka ?_ _)); exact BK222.out) k_ hn_)), Or.elim hk_ (fun hs_ => fun e_ => Nat.not_le.2 hs_ (by rw [e_]; exact GW223.out)) (fun hn_ => (Kd.freshB (g := gb223) (o := q0 a1_0 a1_1 a1_2 A1_3 l1_3 c1_3) (by (with_reducible repeat (first | refine kc ?_ _ | refine kb ?_ | refine ka ?_ _)); exact BK223.out) k_ hn_)), Or.elim hk_ (fun hs_ => fun e_ => Nat.not_le.2 hs_ (by rw [e_]; exact GW224.out)) (fun hn_ => (Kd.freshB (g := gb224) (o := q1 a2_0 a2_1 a2_2 a2_3) (by (with_reducible repeat (first | refine kc ?_ _ | refine kb ?_ | refine ka ?_ _)); exact BK224.out) k_ hn_)), Or.elim hk_ (fun hs_ => fun e_ => Nat.not_le.2 hs_ (by rw [e_]; exact GW225.out)) (fun hn_ => (Kd.freshB (g := gb225) (o := q1 a3_0 a3_1 a3_2 a3_3) (by (with_reducible repeat (first | refine kc ?_ _ | refine kb ?_ | refine ka ?_ _)); exact BK225.out) k_ hn_))⟩)) (below_size (by repeat (first | (with_reducible first | exact HB.out | apply below_alloc | apply pw_below_drewN | apply below_drew1 | refine below_set ?_ GE222.out | refine below_set ?_ GE223.out | refine below_set ?_ GE224.out | refine below_set ?_ GE225.out) | exact HB.out))))
             have n1_ := Aside0.mk (blk_below (g := gb222) (o := q0 a0_0 a0_1 a0_2 A0_3 l0_3 c0_3) (by (with_reducible repeat (first | refine kc ?_ _ | refine kb ?_ | refine ka ?_ _)); exact BK222.out) hb)
             have n2_ := Aside0.mk (blk_below (g := gb223) (o := q0 a1_0 a1_1 a1_2 A1_3 l1_3 c1_3) (by (with_reducible repeat (first | refine kc ?_ _ | refine kb ?_ | refine ka ?_ _)); exact BK223.out) hb)
             have n3_ := Aside0.mk (blk_below (g := gb224) (o := q1 a2_0 a2_1 a2_2 a2_3) (by (with_reducible repeat (first | refine kc ?_ _ | refine kb ?_ | refine ka ?_ _)); exact BK224.out) hb)
             have n4_ := Aside0.mk (blk_below (g := gb225) (o := q1 a3_0 a3_1 a3_2 a3_3) (by (with_reducible repeat (first | refine kc ?_ _ | refine kb ?_ | refine ka ?_ _)); exact BK225.out) hb)
             have n5_ := Aside0.mk (below_step (by repeat (first | (with_reducible first | exact HB.out | apply below_alloc | apply pw_below_drewN | apply below_drew1 | refine below_set ?_ GE222.out | refine below_set ?_ GE223.out | refine below_set ?_ GE224.out | refine below_set ?_ GE225.out) | exact HB.out)) hb)
             clear BK222
             clear BK223
             clear BK224
             clear BK225
             clear HB
             have HO231 := n0_
             have BK222 := n1_
             have BK223 := n2_
             have BK224 := n3_
             have BK225 := n4_
             have HB := n5_
             clear n0_ n1_ n2_ n3_ n4_ n5_
             (try clear hb)
             (try clear hb2)
             (try clear hk)
             (try clear hi)
             (try clear ho0)
             refine hK.out _ _ ⟨(blk_cell BK222.out 0).trans rfl, (blk_cell BK222.out 1).trans rfl, (blk_cell BK222.out 2).trans rfl, (blk_cell BK222.out 3).trans rfl, (blk_cell BK223.out 0).trans rfl, (blk_cell BK223.out 1).trans rfl, (blk_cell BK223.out 2).trans rfl, (blk_cell BK223.out 3).trans rfl⟩ (fun hHeld => ?_)
             clear hK K
             refine norm_ (a' := ?_) ?_ ?_
             rotate_left
             ·show Act.put _ (some 16) _ = _
              simp only [Act.put, List.setIfInBounds_toArray, List.set_cons_zero, List.set_cons_succ, i64_w, i32_w]
              rfl
             exact norm_ (by first | (simp only [putAll, Act.put, List.setIfInBounds_toArray, List.set_cons_zero, List.set_cons_succ]; done) | (simp only [putAll, Act.put, List.setIfInBounds_toArray, List.set_cons_zero, List.set_cons_succ]; rfl)) (hJ1 (v230) _ ⟨hHeld, (by (with_reducible repeat (first | apply va | apply vb | apply vc)); exact HO231.out), (by (with_reducible repeat (first | refine kc ?_ _ | refine kb ?_ | refine ka ?_ _)); exact BK222.out), (by (with_reducible repeat (first | refine kc ?_ _ | refine kb ?_ | refine ka ?_ _)); exact BK223.out), (by (with_reducible repeat (first | refine kc ?_ _ | refine kb ?_ | refine ka ?_ _)); exact BK224.out), (by (with_reducible repeat (first | refine kc ?_ _ | refine kb ?_ | refine ka ?_ _)); exact BK225.out), (by repeat (first | (with_reducible first | exact HB.out | apply below_alloc | apply pw_below_drewN | apply below_drew1 | refine below_set ?_ GE222.out | refine below_set ?_ GE223.out | refine below_set ?_ GE224.out | refine below_set ?_ GE225.out) | exact HB.out))⟩)
            ·skip
             refine box_step ?hg (N := 9) ?hd (cs := #[.int .i64 0, .string (⟨#[]⟩ : ByteArray), .string (⟨#[]⟩ : ByteArray), .slice none 0 0]) (t := 24) ?hr ?_; (case hd => rfl); (case hg => rfl); (case hr => first | (go_simp; done) | (go_simp; rfl))
             intro gb238 hg w15 hbox hb
             have n0_ := Aside0.mk (blk_below (g := gb222) (o := q0 a0_0 a0_1 a0_2 A0_3 l0_3 c0_3) (by (with_reducible repeat (first | refine kc ?_ _ | refine kb ?_ | refine ka ?_ _)); exact BK222.out) hb)
             have n1_ := Aside0.mk (blk_below (g := gb223) (o := q0 a1_0 a1_1 a1_2 A1_3 l1_3 c1_3) (by (with_reducible repeat (first | refine kc ?_ _ | refine kb ?_ | refine ka ?_ _)); exact BK223.out) hb)
             have n2_ := Aside0.mk (blk_below (g := gb224) (o := q1 a2_0 a2_1 a2_2 a2_3) (by (with_reducible repeat (first | refine kc ?_ _ | refine kb ?_ | refine ka ?_ _)); exact BK224.out) hb)
             have n3_ := Aside0.mk (blk_below (g := gb225) (o := q1 a3_0 a3_1 a3_2 a3_3) (by (with_reducible repeat (first | refine kc ?_ _ | refine kb ?_ | refine ka ?_ _)); exact BK225.out) hb)
             have n4_ := Aside0.mk (below_step (by repeat (first | (with_reducible first | exact HB.out | apply below_alloc | apply pw_below_drewN | apply below_drew1 | refine below_set ?_ GE222.out | refine below_set ?_ GE223.out | refine below_set ?_ GE224.out | refine below_set ?_ GE225.out) | exact HB.out)) hb)
             have n5_ := Aside0.mk (hbox)
             have n6_ := Aside0.mk ((by rw [hg]; exact (below_size (by repeat (first | (with_reducible first | exact HB.out | apply below_alloc | apply pw_below_drewN | apply below_drew1 | refine below_set ?_ GE222.out | refine below_set ?_ GE223.out | refine below_set ?_ GE224.out | refine below_set ?_ GE225.out) | exact HB.out))) : w.heap.size ≤ gb238))
             have n7_ := Aside0.mk ((by rw [hg]; exact (below_size (by repeat (first | (with_reducible first | exact HB.out | apply below_alloc | apply pw_below_drewN | apply below_drew1 | refine below_set ?_ GE222.out | refine below_set ?_ GE223.out | refine below_set ?_ GE224.out | refine below_set ?_ GE225.out) | exact HB.out))) : w.heap.size ≤ gb238))
             have n8_ := Aside0.mk ((by rw [hg]; exact Nat.ne_of_lt (blk_lt (g := gb222) (o := q0 a0_0 a0_1 a0_2 A0_3 l0_3 c0_3) (by (with_reducible repeat (first | refine kc ?_ _ | refine kb ?_ | refine ka ?_ _)); exact BK222.out)) : gb222 ≠ gb238))
             have n9_ := Aside0.mk ((by rw [hg]; exact Nat.ne_of_gt (blk_lt (g := gb222) (o := q0 a0_0 a0_1 a0_2 A0_3 l0_3 c0_3) (by (with_reducible repeat (first | refine kc ?_ _ | refine kb ?_ | refine ka ?_ _)); exact BK222.out)) : gb238 ≠ gb222))
             have n10_ := Aside0.mk ((by rw [hg]; exact Nat.ne_of_lt (blk_lt (g := gb223) (o := q0 a1_0 a1_1 a1_2 A1_3 l1_3 c1_3) (by (with_reducible repeat (first | refine kc ?_ _ | refine kb ?_ | refine ka ?_ _)); exact BK223.out)) : gb223 ≠ gb238))
             have n11_ := Aside0.mk ((by rw [hg]; exact Nat.ne_of_gt (blk_lt (g := gb223) (o := q0 a1_0 a1_1 a1_2 A1_3 l1_3 c1_3) (by (with_reducible repeat (first | refine kc ?_ _ | refine kb ?_ | refine ka ?_ _)); exact BK223.out)) : gb238 ≠ gb223))
             have n12_ := Aside0.mk ((by rw [hg]; exact Nat.ne_of_lt (blk_lt (g := gb224) (o := q1 a2_0 a2_1 a2_2 a2_3) (by (with_reducible repeat (first | refine kc ?_ _ | refine kb ?_ | refine ka ?_ _)); exact BK224.out)) : gb224 ≠ gb238))
             have n13_ := Aside0.mk ((by rw [hg]; exact Nat.ne_of_gt (blk_lt (g := gb224) (o := q1 a2_0 a2_1 a2_2 a2_3) (by (with_reducible repeat (first | refine kc ?_ _ | refine kb ?_ | refine ka ?_ _)); exact BK224.out)) : gb238 ≠ gb224))
             have n14_ := Aside0.mk ((by rw [hg]; exact Nat.ne_of_lt (blk_lt (g := gb225) (o := q1 a3_0 a3_1 a3_2 a3_3) (by (with_reducible repeat (first | refine kc ?_ _ | refine kb ?_ | refine ka ?_ _)); exact BK225.out)) : gb225 ≠ gb238))
             have n15_ := Aside0.mk ((by rw [hg]; exact Nat.ne_of_gt (blk_lt (g := gb225) (o := q1 a3_0 a3_1 a3_2 a3_3) (by (with_reducible repeat (first | refine kc ?_ _ | refine kb ?_ | refine ka ?_ _)); exact BK225.out)) : gb238 ≠ gb225))
             clear BK222
             clear BK223
             clear BK224
             clear BK225
             clear HB
             have BK222 := n0_
             have BK223 := n1_
             have BK224 := n2_
             have BK225 := n3_
             have HB := n4_
             have BK238 := n5_
             have GW238 := n6_
             have GE238 := n7_
             have NB222_238 := n8_
             have NB238_222 := n9_
             have NB223_238 := n10_
             have NB238_223 := n11_
             have NB224_238 := n12_
             have NB238_224 := n13_
             have NB225_238 := n14_
             have NB238_225 := n15_
             clear n0_ n1_ n2_ n3_ n4_ n5_ n6_ n7_ n8_ n9_ n10_ n11_ n12_ n13_ n14_ n15_
             clear hb hbox hg
             refine hK.out _ _ ⟨(blk_cell BK222.out 0).trans rfl, (blk_cell BK222.out 1).trans rfl, (blk_cell BK222.out 2).trans rfl, (blk_cell BK222.out 3).trans rfl, (blk_cell BK223.out 0).trans rfl, (blk_cell BK223.out 1).trans rfl, (blk_cell BK223.out 2).trans rfl, (blk_cell BK223.out 3).trans rfl⟩ (fun hHeld => ?_)
             clear hK K
             refine norm_ (a' := ?_) ?_ ?_
             rotate_left
             ·show Act.put _ (some 9) _ = _
              simp only [Act.put, List.setIfInBounds_toArray, List.set_cons_zero, List.set_cons_succ, i64_w, i32_w]
              rfl
             exact norm_ (by first | (simp only [putAll, Act.put, List.setIfInBounds_toArray, List.set_cons_zero, List.set_cons_succ]; done) | (simp only [putAll, Act.put, List.setIfInBounds_toArray, List.set_cons_zero, List.set_cons_succ]; rfl)) (hJ4 (gb238) _ ⟨hHeld, (by (with_reducible repeat (first | refine kc ?_ _ | refine kb ?_ | refine ka ?_ _)); exact BK222.out), (by (with_reducible repeat (first | refine kc ?_ _ | refine kb ?_ | refine ka ?_ _)); exact BK223.out), (by (with_reducible repeat (first | refine kc ?_ _ | refine kb ?_ | refine ka ?_ _)); exact BK224.out), (by (with_reducible repeat (first | refine kc ?_ _ | refine kb ?_ | refine ka ?_ _)); exact BK225.out), (by (with_reducible repeat (first | refine kc ?_ _ | refine kb ?_ | refine ka ?_ _)); exact BK238.out), GW238.out, GE238.out, NB222_238.out, NB238_222.out, NB223_238.out, NB238_223.out, NB224_238.out, NB238_224.out, NB225_238.out, NB238_225.out, (by repeat (first | (with_reducible first | exact HB.out | apply below_alloc | apply pw_below_drewN | apply below_drew1 | refine below_set ?_ GE222.out | refine below_set ?_ GE223.out | refine below_set ?_ GE224.out | refine below_set ?_ GE225.out | refine below_set ?_ GE238.out) | exact HB.out))⟩)
            ·skip
             refine box_step ?hg (N := 10) ?hd (cs := #[.int .i64 0, .string (⟨#[]⟩ : ByteArray), .string (⟨#[]⟩ : ByteArray), .slice none 0 0]) (t := 24) ?hr ?_; (case hd => rfl); (case hg => rfl); (case hr => first | (go_simp; done) | (go_simp; rfl))
             intro gb239 hg w15 hbox hb
             have n0_ := Aside0.mk (blk_below (g := gb222) (o := q0 a0_0 a0_1 a0_2 A0_3 l0_3 c0_3) (by (with_reducible repeat (first | refine kc ?_ _ | refine kb ?_ | refine ka ?_ _)); exact BK222.out) hb)
             have n1_ := Aside0.mk (blk_below (g := gb223) (o := q0 a1_0 a1_1 a1_2 A1_3 l1_3 c1_3) (by (with_reducible repeat (first | refine kc ?_ _ | refine kb ?_ | refine ka ?_ _)); exact BK223.out) hb)
             have n2_ := Aside0.mk (blk_below (g := gb224) (o := q1 a2_0 a2_1 a2_2 a2_3) (by (with_reducible repeat (first | refine kc ?_ _ | refine kb ?_ | refine ka ?_ _)); exact BK224.out) hb)
             have n3_ := Aside0.mk (blk_below (g := gb225) (o := q1 a3_0 a3_1 a3_2 a3_3) (by (with_reducible repeat (first | refine kc ?_ _ | refine kb ?_ | refine ka ?_ _)); exact BK225.out) hb)
             have n4_ := Aside0.mk (below_step (by repeat (first | (with_reducible first | exact HB.out | apply below_alloc | apply pw_below_drewN | apply below_drew1 | refine below_set ?_ GE222.out | refine below_set ?_ GE223.out | refine below_set ?_ GE224.out | refine below_set ?_ GE225.out) | exact HB.out)) hb)
             have n5_ := Aside0.mk (hbox)
             have n6_ := Aside0.mk ((by rw [hg]; exact (below_size (by repeat (first | (with_reducible first | exact HB.out | apply below_alloc | apply pw_below_drewN | apply below_drew1 | refine below_set ?_ GE222.out | refine below_set ?_ GE223.out | refine below_set ?_ GE224.out | refine below_set ?_ GE225.out) | exact HB.out))) : w.heap.size ≤ gb239))
             have n7_ := Aside0.mk ((by rw [hg]; exact (below_size (by repeat (first | (with_reducible first | exact HB.out | apply below_alloc | apply pw_below_drewN | apply below_drew1 | refine below_set ?_ GE222.out | refine below_set ?_ GE223.out | refine below_set ?_ GE224.out | refine below_set ?_ GE225.out) | exact HB.out))) : w.heap.size ≤ gb239))
             have n8_ := Aside0.mk ((by rw [hg]; exact Nat.ne_of_lt (blk_lt (g := gb222) (o := q0 a0_0 a0_1 a0_2 A0_3 l0_3 c0_3) (by (with_reducible repeat (first | refine kc ?_ _ | refine kb ?_ | refine ka ?_ _)); exact BK222.out)) : gb222 ≠ gb239))
             have n9_ := Aside0.mk ((by rw [hg]; exact Nat.ne_of_gt (blk_lt (g := gb222) (o := q0 a0_0 a0_1 a0_2 A0_3 l0_3 c0_3) (by (with_reducible repeat (first | refine kc ?_ _ | refine kb ?_ | refine ka ?_ _)); exact BK222.out)) : gb239 ≠ gb222))
             have n10_ := Aside0.mk ((by rw [hg]; exact Nat.ne_of_lt (blk_lt (g := gb223) (o := q0 a1_0 a1_1 a1_2 A1_3 l1_3 c1_3) (by (with_reducible repeat (first | refine kc ?_ _ | refine kb ?_ | refine ka ?_ _)); exact BK223.out)) : gb223 ≠ gb239))
             have n11_ := Aside0.mk ((by rw [hg]; exact Nat.ne_of_gt (blk_lt (g := gb223) (o := q0 a1_0 a1_1 a1_2 A1_3 l1_3 c1_3) (by (with_reducible repeat (first | refine kc ?_ _ | refine kb ?_ | refine ka ?_ _)); exact BK223.out)) : gb239 ≠ gb223))
             have n12_ := Aside0.mk ((by rw [hg]; exact Nat.ne_of_lt (blk_lt (g := gb224) (o := q1 a2_0 a2_1 a2_2 a2_3) (by (with_reducible repeat (first | refine kc ?_ _ | refine kb ?_ | refine ka ?_ _)); exact BK224.out)) : gb224 ≠ gb239))
             have n13_ := Aside0.mk ((by rw [hg]; exact Nat.ne_of_gt (blk_lt (g := gb224) (o := q1 a2_0 a2_1 a2_2 a2_3) (by (with_reducible repeat (first | refine kc ?_ _ | refine kb ?_ | refine ka ?_ _)); exact BK224.out)) : gb239 ≠ gb224))
             have n14_ := Aside0.mk ((by rw [hg]; exact Nat.ne_of_lt (blk_lt (g := gb225) (o := q1 a3_0 a3_1 a3_2 a3_3) (by (with_reducible repeat (first | refine kc ?_ _ | refine kb ?_ | refine ka ?_ _)); exact BK225.out)) : gb225 ≠ gb239))
             have n15_ := Aside0.mk ((by rw [hg]; exact Nat.ne_of_gt (blk_lt (g := gb225) (o := q1 a3_0 a3_1 a3_2 a3_3) (by (with_reducible repeat (first | refine kc ?_ _ | refine kb ?_ | refine ka ?_ _)); exact BK225.out)) : gb239 ≠ gb225))
             clear BK222
             clear BK223
             clear BK224
             clear BK225
             clear HB
             have BK222 := n0_
             have BK223 := n1_
             have BK224 := n2_
             have BK225 := n3_
             have HB := n4_
             have BK239 := n5_
             have GW239 := n6_
             have GE239 := n7_
             have NB222_239 := n8_
             have NB239_222 := n9_
             have NB223_239 := n10_
             have NB239_223 := n11_
             have NB224_239 := n12_
             have NB239_224 := n13_
             have NB225_239 := n14_
             have NB239_225 := n15_
             clear n0_ n1_ n2_ n3_ n4_ n5_ n6_ n7_ n8_ n9_ n10_ n11_ n12_ n13_ n14_ n15_
             clear hb hbox hg
             refine hK.out _ _ ⟨(blk_cell BK222.out 0).trans rfl, (blk_cell BK222.out 1).trans rfl, (blk_cell BK222.out 2).trans rfl, (blk_cell BK222.out 3).trans rfl, (blk_cell BK223.out 0).trans rfl, (blk_cell BK223.out 1).trans rfl, (blk_cell BK223.out 2).trans rfl, (blk_cell BK223.out 3).trans rfl⟩ (fun hHeld => ?_)
             clear hK K
             refine norm_ (a' := ?_) ?_ ?_
             rotate_left
             ·show Act.put _ (some 10) _ = _
              simp only [Act.put, List.setIfInBounds_toArray, List.set_cons_zero, List.set_cons_succ, i64_w, i32_w]
              rfl
             exact norm_ (by first | (simp only [putAll, Act.put, List.setIfInBounds_toArray, List.set_cons_zero, List.set_cons_succ]; done) | (simp only [putAll, Act.put, List.setIfInBounds_toArray, List.set_cons_zero, List.set_cons_succ]; rfl)) (hJ5 (gb239) _ ⟨hHeld, (by (with_reducible repeat (first | refine kc ?_ _ | refine kb ?_ | refine ka ?_ _)); exact BK222.out), (by (with_reducible repeat (first | refine kc ?_ _ | refine kb ?_ | refine ka ?_ _)); exact BK223.out), (by (with_reducible repeat (first | refine kc ?_ _ | refine kb ?_ | refine ka ?_ _)); exact BK224.out), (by (with_reducible repeat (first | refine kc ?_ _ | refine kb ?_ | refine ka ?_ _)); exact BK225.out), (by (with_reducible repeat (first | refine kc ?_ _ | refine kb ?_ | refine ka ?_ _)); exact BK239.out), GW239.out, GE239.out, NB222_239.out, NB239_222.out, NB223_239.out, NB239_223.out, NB224_239.out, NB239_224.out, NB225_239.out, NB239_225.out, (by repeat (first | (with_reducible first | exact HB.out | apply below_alloc | apply pw_below_drewN | apply below_drew1 | refine below_set ?_ GE222.out | refine below_set ?_ GE223.out | refine below_set ?_ GE224.out | refine below_set ?_ GE225.out | refine below_set ?_ GE239.out) | exact HB.out))⟩)
           ·skip
            rintro gb239 w16 ⟨hS_, h0_, h1_, h2_, h3_, h4_, h5_, h6_, h7_, h8_, h9_, h10_, h11_, h12_, h13_, h14_, h15_⟩
            have n0_ : Aside0 (w16.heap[gb222]? = some (.cells #[.int .i64 a0_0, .string a0_1, .string a0_2, .slice A0_3 l0_3.length c0_3] 24 (0, 0))) := ⟨h0_⟩
            have n1_ : Aside0 (w16.heap[gb223]? = some (.cells #[.int .i64 a1_0, .string a1_1, .string a1_2, .slice A1_3 l1_3.length c1_3] 24 (0, 0))) := ⟨h1_⟩
            have n2_ : Aside0 (w16.heap[gb224]? = some (.cells #[.int .i64 a2_0, .int .i64 a2_1, .int .i64 a2_2, .int .i64 a2_3] 27 (0, 0))) := ⟨h2_⟩
            have n3_ : Aside0 (w16.heap[gb225]? = some (.cells #[.int .i64 a3_0, .int .i64 a3_1, .int .i64 a3_2, .int .i64 a3_3] 27 (0, 0))) := ⟨h3_⟩
            have n4_ : Aside0 (w16.heap[gb239]? = some (.cells #[.int .i64 0, .string (⟨#[]⟩ : ByteArray), .string (⟨#[]⟩ : ByteArray), .slice none 0 0] 24 (0, 0))) := ⟨h4_⟩
            have n5_ : Aside0 (w.heap.size ≤ gb239) := ⟨h5_⟩
            have n6_ : Aside0 (w.heap.size ≤ gb239) := ⟨h6_⟩
            have n7_ : Aside0 (gb222 ≠ gb239) := ⟨h7_⟩
            have n8_ : Aside0 (gb239 ≠ gb222) := ⟨h8_⟩
            have n9_ : Aside0 (gb223 ≠ gb239) := ⟨h9_⟩
            have n10_ : Aside0 (gb239 ≠ gb223) := ⟨h10_⟩
            have n11_ : Aside0 (gb224 ≠ gb239) := ⟨h11_⟩
            have n12_ : Aside0 (gb239 ≠ gb224) := ⟨h12_⟩
            have n13_ : Aside0 (gb225 ≠ gb239) := ⟨h13_⟩
            have n14_ : Aside0 (gb239 ≠ gb225) := ⟨h14_⟩
            have n15_ : Aside0 (Below w.heap.size w w16) := ⟨h15_⟩
            clear BK222
            clear BK223
            clear BK224
            clear BK225
            clear HB
            clear h0_ h1_ h2_ h3_ h4_ h5_ h6_ h7_ h8_ h9_ h10_ h11_ h12_ h13_ h14_ h15_
            have BK222 := n0_
            have BK223 := n1_
            have BK224 := n2_
            have BK225 := n3_
            have BK239 := n4_
            have GW239 := n5_
            have GE239 := n6_
            have NB222_239 := n7_
            have NB239_222 := n8_
            have NB223_239 := n9_
            have NB239_223 := n10_
            have NB224_239 := n11_
            have NB239_224 := n12_
            have NB225_239 := n13_
            have NB239_225 := n14_
            have HB := n15_
            clear n0_ n1_ n2_ n3_ n4_ n5_ n6_ n7_ n8_ n9_ n10_ n11_ n12_ n13_ n14_ n15_
            have hHeld : w16.cell? ⟨gb222, 0, none⟩ = some (.int .i64 a0_0) ∧ w16.cell? ⟨gb222, 1, none⟩ = some (.string a0_1) ∧ w16.cell? ⟨gb222, 2, none⟩ = some (.string a0_2) ∧ w16.cell? ⟨gb222, 3, none⟩ = some (.slice A0_3 l0_3.length c0_3) ∧ w16.cell? ⟨gb223, 0, none⟩ = some (.int .i64 a1_0) ∧ w16.cell? ⟨gb223, 1, none⟩ = some (.string a1_1) ∧ w16.cell? ⟨gb223, 2, none⟩ = some (.string a1_2) ∧ w16.cell? ⟨gb223, 3, none⟩ = some (.slice A1_3 l1_3.length c1_3) := hS_
            refine norm_ (a' := ?_) ?_ ?_
            rotate_left
            ·simp only [putAll, Act.put, List.setIfInBounds_toArray, List.set_cons_zero, List.set_cons_succ]
             rfl
            refine two_ (i := 1) (j := 4) (Ni := some 16) (Nj := some 9) #[true, true, true, false, false, true, false, false] #[true, false, true, false, true, true, false, false] rfl rfl rfl rfl (two_of HT_.out (by kernel_rfl)) (by decide) (by decide) (fun K hK => ?_) (fun K hK => ?_)
            ·skip
             refine goes_ Tryd.func13 (by kernel_rfl) rfl #[.agg #[.int .i64 a0_0, .string a0_1, .string a0_2, .slice A0_3 l0_3.length c0_3]] (by rfl) rfl rfl (by (try simp only [List.map_toArray, List.map_cons, List.map_nil]); first | done | rfl) ?_
             with_reducible refine (prebendlaw27_small.calls a0_0 a0_1 a0_2 (fun k_ => k_ < w.heap.size) _ _ l0_3 t226 t227 t228 t229 _ ?side1 A5.out).mono ?_
             (case side1 => exact Kd.V_mk HC0_3.out (Kd.F_below (Kd.C_F (Kd.heap_int .i64) HR0_3.out) (by repeat (first | (with_reducible first | exact HB.out | apply below_alloc | apply pw_below_drewN | apply below_drew1 | refine below_set ?_ GE222.out | refine below_set ?_ GE223.out | refine below_set ?_ GE224.out | refine below_set ?_ GE225.out | refine below_set ?_ GE239.out) | exact HB.out))))
             rintro e w17 ⟨v230, rfl, ho0, hb⟩
             refine ⟨_, rfl, ?_⟩
             have n0_ := Aside0.mk (Kd.V_lower (Kd.V_mono (ok' := fun k_ => k_ ≠ gb222 ∧ k_ ≠ gb223 ∧ k_ ≠ gb224 ∧ k_ ≠ gb225 ∧ k_ ≠ gb239) ho0 (fun k_ hk_ => ⟨Or.elim hk_ (fun hs_ => fun e_ => Nat.not_le.2 hs_ (by rw [e_]; exact GW222.out)) (fun hn_ => (Kd.freshB (g := gb222) (o := q0 a0_0 a0_1 a0_2 A0_3 l0_3 c0_3) (by (with_reducible repeat (first | refine kc ?_ _ | refine kb ?_ | refine ka ?_ _)); exact BK222.out) k_ hn_)), Or.elim hk_ (fun hs_ => fun e_ => Nat.not_le.2 hs_ (by rw [e_]; exact GW223.out)) (fun hn_ => (Kd.freshB (g := gb223) (o := q0 a1_0 a1_1 a1_2 A1_3 l1_3 c1_3) (by (with_reducible repeat (first | refine kc ?_ _ | refine kb ?_ | refine ka ?_ _)); exact BK223.out) k_ hn_)), Or.elim hk_ (fun hs_ => fun e_ => Nat.not_le.2 hs_ (by rw [e_]; exact GW224.out)) (fun hn_ => (Kd.freshB (g := gb224) (o := q1 a2_0 a2_1 a2_2 a2_3) (by (with_reducible repeat (first | refine kc ?_ _ | refine kb ?_ | refine ka ?_ _)); exact BK224.out) k_ hn_)), Or.elim hk_ (fun hs_ => fun e_ => Nat.not_le.2 hs_ (by rw [e_]; exact GW225.out)) (fun hn_ => (Kd.freshB (g := gb225) (o := q1 a3_0 a3_1 a3_2 a3_3) (by (with_reducible repeat (first | refine kc ?_ _ | refine kb ?_ | refine ka ?_ _)); exact BK225.out) k_ hn_)), Or.elim hk_ (fun hs_ => fun e_ => Nat.not_le.2 hs_ (by rw [e_]; exact GW239.out)) (fun hn_ => (Kd.freshB (g := gb239) (o := .cells #[.int .i64 0, .string (⟨#[]⟩ : ByteArray), .string (⟨#[]⟩ : ByteArray), .slice none 0 0] 24 (0, 0)) (by (with_reducible repeat (first | refine kc ?_ _ | refine kb ?_ | refine ka ?_ _)); exact BK239.out) k_ hn_))⟩)) (below_size (by repeat (first | (with_reducible first | exact HB.out | apply below_alloc | apply pw_below_drewN | apply below_drew1 | refine below_set ?_ GE222.out | refine below_set ?_ GE223.out | refine below_set ?_ GE224.out | refine below_set ?_ GE225.out | refine below_set ?_ GE239.out) | exact HB.out))))
             have n1_ := Aside0.mk (blk_below (g := gb222) (o := q0 a0_0 a0_1 a0_2 A0_3 l0_3 c0_3) (by (with_reducible repeat (first | refine kc ?_ _ | refine kb ?_ | refine ka ?_ _)); exact BK222.out) hb)
             have n2_ := Aside0.mk (blk_below (g := gb223) (o := q0 a1_0 a1_1 a1_2 A1_3 l1_3 c1_3) (by (with_reducible repeat (first | refine kc ?_ _ | refine kb ?_ | refine ka ?_ _)); exact BK223.out) hb)
             have n3_ := Aside0.mk (blk_below (g := gb224) (o := q1 a2_0 a2_1 a2_2 a2_3) (by (with_reducible repeat (first | refine kc ?_ _ | refine kb ?_ | refine ka ?_ _)); exact BK224.out) hb)
             have n4_ := Aside0.mk (blk_below (g := gb225) (o := q1 a3_0 a3_1 a3_2 a3_3) (by (with_reducible repeat (first | refine kc ?_ _ | refine kb ?_ | refine ka ?_ _)); exact BK225.out) hb)
             have n5_ := Aside0.mk (blk_below (g := gb239) (o := .cells #[.int .i64 0, .string (⟨#[]⟩ : ByteArray), .string (⟨#[]⟩ : ByteArray), .slice none 0 0] 24 (0, 0)) (by (with_reducible repeat (first | refine kc ?_ _ | refine kb ?_ | refine ka ?_ _)); exact BK239.out) hb)
             have n6_ := Aside0.mk (below_step (by repeat (first | (with_reducible first | exact HB.out | apply below_alloc | apply pw_below_drewN | apply below_drew1 | refine below_set ?_ GE222.out | refine below_set ?_ GE223.out | refine below_set ?_ GE224.out | refine below_set ?_ GE225.out | refine below_set ?_ GE239.out) | exact HB.out)) hb)
             clear BK222
             clear BK223
             clear BK224
             clear BK225
             clear BK239
             clear HB
             have HO231 := n0_
             have BK222 := n1_
             have BK223 := n2_
             have BK224 := n3_
             have BK225 := n4_
             have BK239 := n5_
             have HB := n6_
             clear n0_ n1_ n2_ n3_ n4_ n5_ n6_
             (try clear hb)
             (try clear hb2)
             (try clear hk)
             (try clear hi)
             (try clear ho0)
             refine hK.out _ _ ⟨(blk_cell BK222.out 0).trans rfl, (blk_cell BK222.out 1).trans rfl, (blk_cell BK222.out 2).trans rfl, (blk_cell BK222.out 3).trans rfl, (blk_cell BK223.out 0).trans rfl, (blk_cell BK223.out 1).trans rfl, (blk_cell BK223.out 2).trans rfl, (blk_cell BK223.out 3).trans rfl⟩ (fun hHeld => ?_)
             clear hK K
             refine norm_ (a' := ?_) ?_ ?_
             rotate_left
             ·show Act.put _ (some 16) _ = _
              simp only [Act.put, List.setIfInBounds_toArray, List.set_cons_zero, List.set_cons_succ, i64_w, i32_w]
              rfl
             exact norm_ (by first | (simp only [putAll, Act.put, List.setIfInBounds_toArray, List.set_cons_zero, List.set_cons_succ]; done) | (simp only [putAll, Act.put, List.setIfInBounds_toArray, List.set_cons_zero, List.set_cons_succ]; rfl)) (hJ1_5 (v230, gb239) _ ⟨hHeld, (by (with_reducible repeat (first | apply va | apply vb | apply vc)); exact HO231.out), (by (with_reducible repeat (first | refine kc ?_ _ | refine kb ?_ | refine ka ?_ _)); exact BK222.out), (by (with_reducible repeat (first | refine kc ?_ _ | refine kb ?_ | refine ka ?_ _)); exact BK223.out), (by (with_reducible repeat (first | refine kc ?_ _ | refine kb ?_ | refine ka ?_ _)); exact BK224.out), (by (with_reducible repeat (first | refine kc ?_ _ | refine kb ?_ | refine ka ?_ _)); exact BK225.out), (by (with_reducible repeat (first | refine kc ?_ _ | refine kb ?_ | refine ka ?_ _)); exact BK239.out), GW239.out, GE239.out, NB222_239.out, NB239_222.out, NB223_239.out, NB239_223.out, NB224_239.out, NB239_224.out, NB225_239.out, NB239_225.out, (by repeat (first | (with_reducible first | exact HB.out | apply below_alloc | apply pw_below_drewN | apply below_drew1 | refine below_set ?_ GE222.out | refine below_set ?_ GE223.out | refine below_set ?_ GE224.out | refine below_set ?_ GE225.out | refine below_set ?_ GE239.out) | exact HB.out))⟩)
            ·skip
             refine box_step ?hg (N := 9) ?hd (cs := #[.int .i64 0, .string (⟨#[]⟩ : ByteArray), .string (⟨#[]⟩ : ByteArray), .slice none 0 0]) (t := 24) ?hr ?_; (case hd => rfl); (case hg => rfl); (case hr => first | (go_simp; done) | (go_simp; rfl))
             intro gb238 hg w17 hbox hb
             have n0_ := Aside0.mk (blk_below (g := gb222) (o := q0 a0_0 a0_1 a0_2 A0_3 l0_3 c0_3) (by (with_reducible repeat (first | refine kc ?_ _ | refine kb ?_ | refine ka ?_ _)); exact BK222.out) hb)
             have n1_ := Aside0.mk (blk_below (g := gb223) (o := q0 a1_0 a1_1 a1_2 A1_3 l1_3 c1_3) (by (with_reducible repeat (first | refine kc ?_ _ | refine kb ?_ | refine ka ?_ _)); exact BK223.out) hb)
             have n2_ := Aside0.mk (blk_below (g := gb224) (o := q1 a2_0 a2_1 a2_2 a2_3) (by (with_reducible repeat (first | refine kc ?_ _ | refine kb ?_ | refine ka ?_ _)); exact BK224.out) hb)
             have n3_ := Aside0.mk (blk_below (g := gb225) (o := q1 a3_0 a3_1 a3_2 a3_3) (by (with_reducible repeat (first | refine kc ?_ _ | refine kb ?_ | refine ka ?_ _)); exact BK225.out) hb)
             have n4_ := Aside0.mk (blk_below (g := gb239) (o := .cells #[.int .i64 0, .string (⟨#[]⟩ : ByteArray), .string (⟨#[]⟩ : ByteArray), .slice none 0 0] 24 (0, 0)) (by (with_reducible repeat (first | refine kc ?_ _ | refine kb ?_ | refine ka ?_ _)); exact BK239.out) hb)
             have n5_ := Aside0.mk (below_step (by repeat (first | (with_reducible first | exact HB.out | apply below_alloc | apply pw_below_drewN | apply below_drew1 | refine below_set ?_ GE222.out | refine below_set ?_ GE223.out | refine below_set ?_ GE224.out | refine below_set ?_ GE225.out | refine below_set ?_ GE239.out) | exact HB.out)) hb)
             have n6_ := Aside0.mk (hbox)
             have n7_ := Aside0.mk ((by rw [hg]; exact (below_size (by repeat (first | (with_reducible first | exact HB.out | apply below_alloc | apply pw_below_drewN | apply below_drew1 | refine below_set ?_ GE222.out | refine below_set ?_ GE223.out | refine below_set ?_ GE224.out | refine below_set ?_ GE225.out | refine below_set ?_ GE239.out) | exact HB.out))) : w.heap.size ≤ gb238))
             have n8_ := Aside0.mk ((by rw [hg]; exact (below_size (by repeat (first | (with_reducible first | exact HB.out | apply below_alloc | apply pw_below_drewN | apply below_drew1 | refine below_set ?_ GE222.out | refine below_set ?_ GE223.out | refine below_set ?_ GE224.out | refine below_set ?_ GE225.out | refine below_set ?_ GE239.out) | exact HB.out))) : w.heap.size ≤ gb238))
             have n9_ := Aside0.mk ((by rw [hg]; exact Nat.ne_of_lt (blk_lt (g := gb222) (o := q0 a0_0 a0_1 a0_2 A0_3 l0_3 c0_3) (by (with_reducible repeat (first | refine kc ?_ _ | refine kb ?_ | refine ka ?_ _)); exact BK222.out)) : gb222 ≠ gb238))
             have n10_ := Aside0.mk ((by rw [hg]; exact Nat.ne_of_gt (blk_lt (g := gb222) (o := q0 a0_0 a0_1 a0_2 A0_3 l0_3 c0_3) (by (with_reducible repeat (first | refine kc ?_ _ | refine kb ?_ | refine ka ?_ _)); exact BK222.out)) : gb238 ≠ gb222))
             have n11_ := Aside0.mk ((by rw [hg]; exact Nat.ne_of_lt (blk_lt (g := gb223) (o := q0 a1_0 a1_1 a1_2 A1_3 l1_3 c1_3) (by (with_reducible repeat (first | refine kc ?_ _ | refine kb ?_ | refine ka ?_ _)); exact BK223.out)) : gb223 ≠ gb238))
             have n12_ := Aside0.mk ((by rw [hg]; exact Nat.ne_of_gt (blk_lt (g := gb223) (o := q0 a1_0 a1_1 a1_2 A1_3 l1_3 c1_3) (by (with_reducible repeat (first | refine kc ?_ _ | refine kb ?_ | refine ka ?_ _)); exact BK223.out)) : gb238 ≠ gb223))
             have n13_ := Aside0.mk ((by rw [hg]; exact Nat.ne_of_lt (blk_lt (g := gb224) (o := q1 a2_0 a2_1 a2_2 a2_3) (by (with_reducible repeat (first | refine kc ?_ _ | refine kb ?_ | refine ka ?_ _)); exact BK224.out)) : gb224 ≠ gb238))
             have n14_ := Aside0.mk ((by rw [hg]; exact Nat.ne_of_gt (blk_lt (g := gb224) (o := q1 a2_0 a2_1 a2_2 a2_3) (by (with_reducible repeat (first | refine kc ?_ _ | refine kb ?_ | refine ka ?_ _)); exact BK224.out)) : gb238 ≠ gb224))
             have n15_ := Aside0.mk ((by rw [hg]; exact Nat.ne_of_lt (blk_lt (g := gb225) (o := q1 a3_0 a3_1 a3_2 a3_3) (by (with_reducible repeat (first | refine kc ?_ _ | refine kb ?_ | refine ka ?_ _)); exact BK225.out)) : gb225 ≠ gb238))
             have n16_ := Aside0.mk ((by rw [hg]; exact Nat.ne_of_gt (blk_lt (g := gb225) (o := q1 a3_0 a3_1 a3_2 a3_3) (by (with_reducible repeat (first | refine kc ?_ _ | refine kb ?_ | refine ka ?_ _)); exact BK225.out)) : gb238 ≠ gb225))
             have n17_ := Aside0.mk ((by rw [hg]; exact Nat.ne_of_lt (blk_lt (g := gb239) (o := .cells #[.int .i64 0, .string (⟨#[]⟩ : ByteArray), .string (⟨#[]⟩ : ByteArray), .slice none 0 0] 24 (0, 0)) (by (with_reducible repeat (first | refine kc ?_ _ | refine kb ?_ | refine ka ?_ _)); exact BK239.out)) : gb239 ≠ gb238))
             have n18_ := Aside0.mk ((by rw [hg]; exact Nat.ne_of_gt (blk_lt (g := gb239) (o := .cells #[.int .i64 0, .string (⟨#[]⟩ : ByteArray), .string (⟨#[]⟩ : ByteArray), .slice none 0 0] 24 (0, 0)) (by (with_reducible repeat (first | refine kc ?_ _ | refine kb ?_ | refine ka ?_ _)); exact BK239.out)) : gb238 ≠ gb239))
             clear BK222
             clear BK223
             clear BK224
             clear BK225
             clear BK239
             clear HB
             have BK222 := n0_
             have BK223 := n1_
             have BK224 := n2_
             have BK225 := n3_
             have BK239 := n4_
             have HB := n5_
             have BK238 := n6_
             have GW238 := n7_
             have GE238 := n8_
             have NB222_238 := n9_
             have NB238_222 := n10_
             have NB223_238 := n11_
             have NB238_223 := n12_
             have NB224_238 := n13_
             have NB238_224 := n14_
             have NB225_238 := n15_
             have NB238_225 := n16_
             have NB239_238 := n17_
             have NB238_239 := n18_
             clear n0_ n1_ n2_ n3_ n4_ n5_ n6_ n7_ n8_ n9_ n10_ n11_ n12_ n13_ n14_ n15_ n16_ n17_ n18_
             clear hb hbox hg
             refine hK.out _ _ ⟨(blk_cell BK222.out 0).trans rfl, (blk_cell BK222.out 1).trans rfl, (blk_cell BK222.out 2).trans rfl, (blk_cell BK222.out 3).trans rfl, (blk_cell BK223.out 0).trans rfl, (blk_cell BK223.out 1).trans rfl, (blk_cell BK223.out 2).trans rfl, (blk_cell BK223.out 3).trans rfl⟩ (fun hHeld => ?_)
             clear hK K
             refine norm_ (a' := ?_) ?_ ?_
             rotate_left
             ·show Act.put _ (some 9) _ = _
              simp only [Act.put, List.setIfInBounds_toArray, List.set_cons_zero, List.set_cons_succ, i64_w, i32_w]
              rfl
             exact norm_ (by first | (simp only [putAll, Act.put, List.setIfInBounds_toArray, List.set_cons_zero, List.set_cons_succ]; done) | (simp only [putAll, Act.put, List.setIfInBounds_toArray, List.set_cons_zero, List.set_cons_succ]; rfl)) (hJ4_5 (gb238, gb239) _ ⟨hHeld, (by (with_reducible repeat (first | refine kc ?_ _ | refine kb ?_ | refine ka ?_ _)); exact BK222.out), (by (with_reducible repeat (first | refine kc ?_ _ | refine kb ?_ | refine ka ?_ _)); exact BK223.out), (by (with_reducible repeat (first | refine kc ?_ _ | refine kb ?_ | refine ka ?_ _)); exact BK224.out), (by (with_reducible repeat (first | refine kc ?_ _ | refine kb ?_ | refine ka ?_ _)); exact BK225.out), (by (with_reducible repeat (first | refine kc ?_ _ | refine kb ?_ | refine ka ?_ _)); exact BK238.out), (by (with_reducible repeat (first | refine kc ?_ _ | refine kb ?_ | refine ka ?_ _)); exact BK239.out), GW238.out, GE238.out, NB222_238.out, NB238_222.out, NB223_238.out, NB238_223.out, NB224_238.out, NB238_224.out, NB225_238.out, NB238_225.out, NB239_238.out, NB238_239.out, GW239.out, GE239.out, NB222_239.out, NB239_222.out, NB223_239.out, NB239_223.out, NB224_239.out, NB239_224.out, NB225_239.out, NB239_225.out, (by repeat (first | (with_reducible first | exact HB.out | apply below_alloc | apply pw_below_drewN | apply below_drew1 | refine below_set ?_ GE222.out | refine below_set ?_ GE223.out | refine below_set ?_ GE224.out | refine below_set ?_ GE225.out | refine below_set ?_ GE239.out | refine below_set ?_ GE238.out) | exact HB.out))⟩)
          ·skip
           rintro gb238 w16 ⟨hS_, h0_, h1_, h2_, h3_, h4_, h5_, h6_, h7_, h8_, h9_, h10_, h11_, h12_, h13_, h14_, h15_⟩
           have n0_ : Aside0 (w16.heap[gb222]? = some (.cells #[.int .i64 a0_0, .string a0_1, .string a0_2, .slice A0_3 l0_3.length c0_3] 24 (0, 0))) := ⟨h0_⟩
           have n1_ : Aside0 (w16.heap[gb223]? = some (.cells #[.int .i64 a1_0, .string a1_1, .string a1_2, .slice A1_3 l1_3.length c1_3] 24 (0, 0))) := ⟨h1_⟩
           have n2_ : Aside0 (w16.heap[gb224]? = some (.cells #[.int .i64 a2_0, .int .i64 a2_1, .int .i64 a2_2, .int .i64 a2_3] 27 (0, 0))) := ⟨h2_⟩
           have n3_ : Aside0 (w16.heap[gb225]? = some (.cells #[.int .i64 a3_0, .int .i64 a3_1, .int .i64 a3_2, .int .i64 a3_3] 27 (0, 0))) := ⟨h3_⟩
           have n4_ : Aside0 (w16.heap[gb238]? = some (.cells #[.int .i64 0, .string (⟨#[]⟩ : ByteArray), .string (⟨#[]⟩ : ByteArray), .slice none 0 0] 24 (0, 0))) := ⟨h4_⟩
           have n5_ : Aside0 (w.heap.size ≤ gb238) := ⟨h5_⟩
           have n6_ : Aside0 (w.heap.size ≤ gb238) := ⟨h6_⟩
           have n7_ : Aside0 (gb222 ≠ gb238) := ⟨h7_⟩
           have n8_ : Aside0 (gb238 ≠ gb222) := ⟨h8_⟩
           have n9_ : Aside0 (gb223 ≠ gb238) := ⟨h9_⟩
           have n10_ : Aside0 (gb238 ≠ gb223) := ⟨h10_⟩
           have n11_ : Aside0 (gb224 ≠ gb238) := ⟨h11_⟩
           have n12_ : Aside0 (gb238 ≠ gb224) := ⟨h12_⟩
           have n13_ : Aside0 (gb225 ≠ gb238) := ⟨h13_⟩
           have n14_ : Aside0 (gb238 ≠ gb225) := ⟨h14_⟩
           have n15_ : Aside0 (Below w.heap.size w w16) := ⟨h15_⟩
           clear BK222
           clear BK223
           clear BK224
           clear BK225
           clear HB
           clear h0_ h1_ h2_ h3_ h4_ h5_ h6_ h7_ h8_ h9_ h10_ h11_ h12_ h13_ h14_ h15_
           have BK222 := n0_
           have BK223 := n1_
           have BK224 := n2_
           have BK225 := n3_
           have BK238 := n4_
           have GW238 := n5_
           have GE238 := n6_
           have NB222_238 := n7_
           have NB238_222 := n8_
           have NB223_238 := n9_
           have NB238_223 := n10_
           have NB224_238 := n11_
           have NB238_224 := n12_
           have NB225_238 := n13_
           have NB238_225 := n14_
           have HB := n15_
           clear n0_ n1_ n2_ n3_ n4_ n5_ n6_ n7_ n8_ n9_ n10_ n11_ n12_ n13_ n14_ n15_
           have hHeld : w16.cell? ⟨gb222, 0, none⟩ = some (.int .i64 a0_0) ∧ w16.cell? ⟨gb222, 1, none⟩ = some (.string a0_1) ∧ w16.cell? ⟨gb222, 2, none⟩ = some (.string a0_2) ∧ w16.cell? ⟨gb222, 3, none⟩ = some (.slice A0_3 l0_3.length c0_3) ∧ w16.cell? ⟨gb223, 0, none⟩ = some (.int .i64 a1_0) ∧ w16.cell? ⟨gb223, 1, none⟩ = some (.string a1_1) ∧ w16.cell? ⟨gb223, 2, none⟩ = some (.string a1_2) ∧ w16.cell? ⟨gb223, 3, none⟩ = some (.slice A1_3 l1_3.length c1_3) := hS_
           refine norm_ (a' := ?_) ?_ ?_
           rotate_left
           ·simp only [putAll, Act.put, List.setIfInBounds_toArray, List.set_cons_zero, List.set_cons_succ]
            rfl
           refine two_ (i := 1) (j := 5) (Ni := some 16) (Nj := some 10) #[true, true, true, false, true, false, false, false] #[true, false, true, false, true, true, false, false] rfl rfl rfl rfl (two_of HT_.out (by kernel_rfl)) (by decide) (by decide) (fun K hK => ?_) (fun K hK => ?_)
           ·skip
            refine goes_ Tryd.func13 (by kernel_rfl) rfl #[.agg #[.int .i64 a0_0, .string a0_1, .string a0_2, .slice A0_3 l0_3.length c0_3]] (by rfl) rfl rfl (by (try simp only [List.map_toArray, List.map_cons, List.map_nil]); first | done | rfl) ?_
            with_reducible refine (prebendlaw27_small.calls a0_0 a0_1 a0_2 (fun k_ => k_ < w.heap.size) _ _ l0_3 t226 t227 t228 t229 _ ?side1 A5.out).mono ?_
            (case side1 => exact Kd.V_mk HC0_3.out (Kd.F_below (Kd.C_F (Kd.heap_int .i64) HR0_3.out) (by repeat (first | (with_reducible first | exact HB.out | apply below_alloc | apply pw_below_drewN | apply below_drew1 | refine below_set ?_ GE222.out | refine below_set ?_ GE223.out | refine below_set ?_ GE224.out | refine below_set ?_ GE225.out | refine below_set ?_ GE238.out) | exact HB.out))))
            rintro e w17 ⟨v230, rfl, ho0, hb⟩
            refine ⟨_, rfl, ?_⟩
            have n0_ := Aside0.mk (Kd.V_lower (Kd.V_mono (ok' := fun k_ => k_ ≠ gb222 ∧ k_ ≠ gb223 ∧ k_ ≠ gb224 ∧ k_ ≠ gb225 ∧ k_ ≠ gb238) ho0 (fun k_ hk_ => ⟨Or.elim hk_ (fun hs_ => fun e_ => Nat.not_le.2 hs_ (by rw [e_]; exact GW222.out)) (fun hn_ => (Kd.freshB (g := gb222) (o := q0 a0_0 a0_1 a0_2 A0_3 l0_3 c0_3) (by (with_reducible repeat (first | refine kc ?_ _ | refine kb ?_ | refine ka ?_ _)); exact BK222.out) k_ hn_)), Or.elim hk_ (fun hs_ => fun e_ => Nat.not_le.2 hs_ (by rw [e_]; exact GW223.out)) (fun hn_ => (Kd.freshB (g := gb223) (o := q0 a1_0 a1_1 a1_2 A1_3 l1_3 c1_3) (by (with_reducible repeat (first | refine kc ?_ _ | refine kb ?_ | refine ka ?_ _)); exact BK223.out) k_ hn_)), Or.elim hk_ (fun hs_ => fun e_ => Nat.not_le.2 hs_ (by rw [e_]; exact GW224.out)) (fun hn_ => (Kd.freshB (g := gb224) (o := q1 a2_0 a2_1 a2_2 a2_3) (by (with_reducible repeat (first | refine kc ?_ _ | refine kb ?_ | refine ka ?_ _)); exact BK224.out) k_ hn_)), Or.elim hk_ (fun hs_ => fun e_ => Nat.not_le.2 hs_ (by rw [e_]; exact GW225.out)) (fun hn_ => (Kd.freshB (g := gb225) (o := q1 a3_0 a3_1 a3_2 a3_3) (by (with_reducible repeat (first | refine kc ?_ _ | refine kb ?_ | refine ka ?_ _)); exact BK225.out) k_ hn_)), Or.elim hk_ (fun hs_ => fun e_ => Nat.not_le.2 hs_ (by rw [e_]; exact GW238.out)) (fun hn_ => (Kd.freshB (g := gb238) (o := .cells #[.int .i64 0, .string (⟨#[]⟩ : ByteArray), .string (⟨#[]⟩ : ByteArray), .slice none 0 0] 24 (0, 0)) (by (with_reducible repeat (first | refine kc ?_ _ | refine kb ?_ | refine ka ?_ _)); exact BK238.out) k_ hn_))⟩)) (below_size (by repeat (first | (with_reducible first | exact HB.out | apply below_alloc | apply pw_below_drewN | apply below_drew1 | refine below_set ?_ GE222.out | refine below_set ?_ GE223.out | refine below_set ?_ GE224.out | refine below_set ?_ GE225.out | refine below_set ?_ GE238.out) | exact HB.out))))
            have n1_ := Aside0.mk (blk_below (g := gb222) (o := q0 a0_0 a0_1 a0_2 A0_3 l0_3 c0_3) (by (with_reducible repeat (first | refine kc ?_ _ | refine kb ?_ | refine ka ?_ _)); exact BK222.out) hb)
            have n2_ := Aside0.mk (blk_below (g := gb223) (o := q0 a1_0 a1_1 a1_2 A1_3 l1_3 c1_3) (by (with_reducible repeat (first | refine kc ?_ _ | refine kb ?_ | refine ka ?_ _)); exact BK223.out) hb)
            have n3_ := Aside0.mk (blk_below (g := gb224) (o := q1 a2_0 a2_1 a2_2 a2_3) (by (with_reducible repeat (first | refine kc ?_ _ | refine kb ?_ | refine ka ?_ _)); exact BK224.out) hb)
            have n4_ := Aside0.mk (blk_below (g := gb225) (o := q1 a3_0 a3_1 a3_2 a3_3) (by (with_reducible repeat (first | refine kc ?_ _ | refine kb ?_ | refine ka ?_ _)); exact BK225.out) hb)
            have n5_ := Aside0.mk (blk_below (g := gb238) (o := .cells #[.int .i64 0, .string (⟨#[]⟩ : ByteArray), .string (⟨#[]⟩ : ByteArray), .slice none 0 0] 24 (0, 0)) (by (with_reducible repeat (first | refine kc ?_ _ | refine kb ?_ | refine ka ?_ _)); exact BK238.out) hb)
            have n6_ := Aside0.mk (below_step (by repeat (first | (with_reducible first | exact HB.out | apply below_alloc | apply pw_below_drewN | apply below_drew1 | refine below_set ?_ GE222.out | refine below_set ?_ GE223.out | refine below_set ?_ GE224.out | refine below_set ?_ GE225.out | refine below_set ?_ GE238.out) | exact HB.out)) hb)
            clear BK222
            clear BK223
            clear BK224
            clear BK225
            clear BK238
            clear HB
            have HO231 := n0_
            have BK222 := n1_
            have BK223 := n2_
            have BK224 := n3_
            have BK225 := n4_
            have BK238 := n5_
            have HB := n6_
            clear n0_ n1_ n2_ n3_ n4_ n5_ n6_
            (try clear hb)
            (try clear hb2)
            (try clear hk)
            (try clear hi)
            (try clear ho0)
            refine hK.out _ _ ⟨(blk_cell BK222.out 0).trans rfl, (blk_cell BK222.out 1).trans rfl, (blk_cell BK222.out 2).trans rfl, (blk_cell BK222.out 3).trans rfl, (blk_cell BK223.out 0).trans rfl, (blk_cell BK223.out 1).trans rfl, (blk_cell BK223.out 2).trans rfl, (blk_cell BK223.out 3).trans rfl⟩ (fun hHeld => ?_)
            clear hK K
            refine norm_ (a' := ?_) ?_ ?_
            rotate_left
            ·show Act.put _ (some 16) _ = _
             simp only [Act.put, List.setIfInBounds_toArray, List.set_cons_zero, List.set_cons_succ, i64_w, i32_w]
             rfl
            exact norm_ (by first | (simp only [putAll, Act.put, List.setIfInBounds_toArray, List.set_cons_zero, List.set_cons_succ]; done) | (simp only [putAll, Act.put, List.setIfInBounds_toArray, List.set_cons_zero, List.set_cons_succ]; rfl)) (hJ1_4 (v230, gb238) _ ⟨hHeld, (by (with_reducible repeat (first | apply va | apply vb | apply vc)); exact HO231.out), (by (with_reducible repeat (first | refine kc ?_ _ | refine kb ?_ | refine ka ?_ _)); exact BK222.out), (by (with_reducible repeat (first | refine kc ?_ _ | refine kb ?_ | refine ka ?_ _)); exact BK223.out), (by (with_reducible repeat (first | refine kc ?_ _ | refine kb ?_ | refine ka ?_ _)); exact BK224.out), (by (with_reducible repeat (first | refine kc ?_ _ | refine kb ?_ | refine ka ?_ _)); exact BK225.out), (by (with_reducible repeat (first | refine kc ?_ _ | refine kb ?_ | refine ka ?_ _)); exact BK238.out), GW238.out, GE238.out, NB222_238.out, NB238_222.out, NB223_238.out, NB238_223.out, NB224_238.out, NB238_224.out, NB225_238.out, NB238_225.out, (by repeat (first | (with_reducible first | exact HB.out | apply below_alloc | apply pw_below_drewN | apply below_drew1 | refine below_set ?_ GE222.out | refine below_set ?_ GE223.out | refine below_set ?_ GE224.out | refine below_set ?_ GE225.out | refine below_set ?_ GE238.out) | exact HB.out))⟩)
           ·skip
            refine box_step ?hg (N := 10) ?hd (cs := #[.int .i64 0, .string (⟨#[]⟩ : ByteArray), .string (⟨#[]⟩ : ByteArray), .slice none 0 0]) (t := 24) ?hr ?_; (case hd => rfl); (case hg => rfl); (case hr => first | (go_simp; done) | (go_simp; rfl))
            intro gb239 hg w17 hbox hb
            have n0_ := Aside0.mk (blk_below (g := gb222) (o := q0 a0_0 a0_1 a0_2 A0_3 l0_3 c0_3) (by (with_reducible repeat (first | refine kc ?_ _ | refine kb ?_ | refine ka ?_ _)); exact BK222.out) hb)
            have n1_ := Aside0.mk (blk_below (g := gb223) (o := q0 a1_0 a1_1 a1_2 A1_3 l1_3 c1_3) (by (with_reducible repeat (first | refine kc ?_ _ | refine kb ?_ | refine ka ?_ _)); exact BK223.out) hb)
            have n2_ := Aside0.mk (blk_below (g := gb224) (o := q1 a2_0 a2_1 a2_2 a2_3) (by (with_reducible repeat (first | refine kc ?_ _ | refine kb ?_ | refine ka ?_ _)); exact BK224.out) hb)
            have n3_ := Aside0.mk (blk_below (g := gb225) (o := q1 a3_0 a3_1 a3_2 a3_3) (by (with_reducible repeat (first | refine kc ?_ _ | refine kb ?_ | refine ka ?_ _)); exact BK225.out) hb)
            have n4_ := Aside0.mk (blk_below (g := gb238) (o := .cells #[.int .i64 0, .string (⟨#[]⟩ : ByteArray), .string (⟨#[]⟩ : ByteArray), .slice none 0 0] 24 (0, 0)) (by (with_reducible repeat (first | refine kc ?_ _ | refine kb ?_ | refine ka ?_ _)); exact BK238.out) hb)
            have n5_ := Aside0.mk (below_step (by repeat (first | (with_reducible first | exact HB.out | apply below_alloc | apply pw_below_drewN | apply below_drew1 | refine below_set ?_ GE222.out | refine below_set ?_ GE223.out | refine below_set ?_ GE224.out | refine below_set ?_ GE225.out | refine below_set ?_ GE238.out) | exact HB.out)) hb)
            have n6_ := Aside0.mk (hbox)
            have n7_ := Aside0.mk ((by rw [hg]; exact (below_size (by repeat (first | (with_reducible first | exact HB.out | apply below_alloc | apply pw_below_drewN | apply below_drew1 | refine below_set ?_ GE222.out | refine below_set ?_ GE223.out | refine below_set ?_ GE224.out | refine below_set ?_ GE225.out | refine below_set ?_ GE238.out) | exact HB.out))) : w.heap.size ≤ gb239))
            have n8_ := Aside0.mk ((by rw [hg]; exact (below_size (by repeat (first | (with_reducible first | exact HB.out | apply below_alloc | apply pw_below_drewN | apply below_drew1 | refine below_set ?_ GE222.out | refine below_set ?_ GE223.out | refine below_set ?_ GE224.out | refine below_set ?_ GE225.out | refine below_set ?_ GE238.out) | exact HB.out))) : w.heap.size ≤ gb239))
            have n9_ := Aside0.mk ((by rw [hg]; exact Nat.ne_of_lt (blk_lt (g := gb222) (o := q0 a0_0 a0_1 a0_2 A0_3 l0_3 c0_3) (by (with_reducible repeat (first | refine kc ?_ _ | refine kb ?_ | refine ka ?_ _)); exact BK222.out)) : gb222 ≠ gb239))
            have n10_ := Aside0.mk ((by rw [hg]; exact Nat.ne_of_gt (blk_lt (g := gb222) (o := q0 a0_0 a0_1 a0_2 A0_3 l0_3 c0_3) (by (with_reducible repeat (first | refine kc ?_ _ | refine kb ?_ | refine ka ?_ _)); exact BK222.out)) : gb239 ≠ gb222))
            have n11_ := Aside0.mk ((by rw [hg]; exact Nat.ne_of_lt (blk_lt (g := gb223) (o := q0 a1_0 a1_1 a1_2 A1_3 l1_3 c1_3) (by (with_reducible repeat (first | refine kc ?_ _ | refine kb ?_ | refine ka ?_ _)); exact BK223.out)) : gb223 ≠ gb239))
            have n12_ := Aside0.mk ((by rw [hg]; exact Nat.ne_of_gt (blk_lt (g := gb223) (o := q0 a1_0 a1_1 a1_2 A1_3 l1_3 c1_3) (by (with_reducible repeat (first | refine kc ?_ _ | refine kb ?_ | refine ka ?_ _)); exact BK223.out)) : gb239 ≠ gb223))
            have n13_ := Aside0.mk ((by rw [hg]; exact Nat.ne_of_lt (blk_lt (g := gb224) (o := q1 a2_0 a2_1 a2_2 a2_3) (by (with_reducible repeat (first | refine kc ?_ _ | refine kb ?_ | refine ka ?_ _)); exact BK224.out)) : gb224 ≠ gb239))
            have n14_ := Aside0.mk ((by rw [hg]; exact Nat.ne_of_gt (blk_lt (g := gb224) (o := q1 a2_0 a2_1 a2_2 a2_3) (by (with_reducible repeat (first | refine kc ?_ _ | refine kb ?_ | refine ka ?_ _)); exact BK224.out)) : gb239 ≠ gb224))
            have n15_ := Aside0.mk ((by rw [hg]; exact Nat.ne_of_lt (blk_lt (g := gb225) (o := q1 a3_0 a3_1 a3_2 a3_3) (by (with_reducible repeat (first | refine kc ?_ _ | refine kb ?_ | refine ka ?_ _)); exact BK225.out)) : gb225 ≠ gb239))
            have n16_ := Aside0.mk ((by rw [hg]; exact Nat.ne_of_gt (blk_lt (g := gb225) (o := q1 a3_0 a3_1 a3_2 a3_3) (by (with_reducible repeat (first | refine kc ?_ _ | refine kb ?_ | refine ka ?_ _)); exact BK225.out)) : gb239 ≠ gb225))
            have n17_ := Aside0.mk ((by rw [hg]; exact Nat.ne_of_lt (blk_lt (g := gb238) (o := .cells #[.int .i64 0, .string (⟨#[]⟩ : ByteArray), .string (⟨#[]⟩ : ByteArray), .slice none 0 0] 24 (0, 0)) (by (with_reducible repeat (first | refine kc ?_ _ | refine kb ?_ | refine ka ?_ _)); exact BK238.out)) : gb238 ≠ gb239))
            have n18_ := Aside0.mk ((by rw [hg]; exact Nat.ne_of_gt (blk_lt (g := gb238) (o := .cells #[.int .i64 0, .string (⟨#[]⟩ : ByteArray), .string (⟨#[]⟩ : ByteArray), .slice none 0 0] 24 (0, 0)) (by (with_reducible repeat (first | refine kc ?_ _ | refine kb ?_ | refine ka ?_ _)); exact BK238.out)) : gb239 ≠ gb238))
            clear BK222
            clear BK223
            clear BK224
            clear BK225
            clear BK238
            clear HB
            have BK222 := n0_
            have BK223 := n1_
            have BK224 := n2_
            have BK225 := n3_
            have BK238 := n4_
            have HB := n5_
            have BK239 := n6_
            have GW239 := n7_
            have GE239 := n8_
            have NB222_239 := n9_
            have NB239_222 := n10_
            have NB223_239 := n11_
            have NB239_223 := n12_
            have NB224_239 := n13_
            have NB239_224 := n14_
            have NB225_239 := n15_
            have NB239_225 := n16_
            have NB238_239 := n17_
            have NB239_238 := n18_
            clear n0_ n1_ n2_ n3_ n4_ n5_ n6_ n7_ n8_ n9_ n10_ n11_ n12_ n13_ n14_ n15_ n16_ n17_ n18_
            clear hb hbox hg
            refine hK.out _ _ ⟨(blk_cell BK222.out 0).trans rfl, (blk_cell BK222.out 1).trans rfl, (blk_cell BK222.out 2).trans rfl, (blk_cell BK222.out 3).trans rfl, (blk_cell BK223.out 0).trans rfl, (blk_cell BK223.out 1).trans rfl, (blk_cell BK223.out 2).trans rfl, (blk_cell BK223.out 3).trans rfl⟩ (fun hHeld => ?_)
            clear hK K
            refine norm_ (a' := ?_) ?_ ?_
            rotate_left
            ·show Act.put _ (some 10) _ = _
             simp only [Act.put, List.setIfInBounds_toArray, List.set_cons_zero, List.set_cons_succ, i64_w, i32_w]
             rfl
            exact norm_ (by first | (simp only [putAll, Act.put, List.setIfInBounds_toArray, List.set_cons_zero, List.set_cons_succ]; done) | (simp only [putAll, Act.put, List.setIfInBounds_toArray, List.set_cons_zero, List.set_cons_succ]; rfl)) (hJ4_5 (gb238, gb239) _ ⟨hHeld, (by (with_reducible repeat (first | refine kc ?_ _ | refine kb ?_ | refine ka ?_ _)); exact BK222.out), (by (with_reducible repeat (first | refine kc ?_ _ | refine kb ?_ | refine ka ?_ _)); exact BK223.out), (by (with_reducible repeat (first | refine kc ?_ _ | refine kb ?_ | refine ka ?_ _)); exact BK224.out), (by (with_reducible repeat (first | refine kc ?_ _ | refine kb ?_ | refine ka ?_ _)); exact BK225.out), (by (with_reducible repeat (first | refine kc ?_ _ | refine kb ?_ | refine ka ?_ _)); exact BK238.out), (by (with_reducible repeat (first | refine kc ?_ _ | refine kb ?_ | refine ka ?_ _)); exact BK239.out), GW238.out, GE238.out, NB222_238.out, NB238_222.out, NB223_238.out, NB238_223.out, NB224_238.out, NB238_224.out, NB225_238.out, NB238_225.out, NB239_238.out, NB238_239.out, GW239.out, GE239.out, NB222_239.out, NB239_222.out, NB223_239.out, NB239_223.out, NB224_239.out, NB239_224.out, NB225_239.out, NB239_225.out, (by repeat (first | (with_reducible first | exact HB.out | apply below_alloc | apply pw_below_drewN | apply below_drew1 | refine below_set ?_ GE222.out | refine below_set ?_ GE223.out | refine below_set ?_ GE224.out | refine below_set ?_ GE225.out | refine below_set ?_ GE238.out | refine below_set ?_ GE239.out) | exact HB.out))⟩)
         ·skip
          rintro v230 w16 ⟨hS_, h0_, h1_, h2_, h3_, h4_, h5_⟩
          have n0_ : Aside0 (Kd.V (Kd.int .i64) 3 w16 w.heap.size (fun k_ => k_ ≠ gb222 ∧ k_ ≠ gb223 ∧ k_ ≠ gb224 ∧ k_ ≠ gb225) v230 t229) := ⟨h0_⟩
          have n1_ : Aside0 (w16.heap[gb222]? = some (.cells #[.int .i64 a0_0, .string a0_1, .string a0_2, .slice A0_3 l0_3.length c0_3] 24 (0, 0))) := ⟨h1_⟩
          have n2_ : Aside0 (w16.heap[gb223]? = some (.cells #[.int .i64 a1_0, .string a1_1, .string a1_2, .slice A1_3 l1_3.length c1_3] 24 (0, 0))) := ⟨h2_⟩
          have n3_ : Aside0 (w16.heap[gb224]? = some (.cells #[.int .i64 a2_0, .int .i64 a2_1, .int .i64 a2_2, .int .i64 a2_3] 27 (0, 0))) := ⟨h3_⟩
          have n4_ : Aside0 (w16.heap[gb225]? = some (.cells #[.int .i64 a3_0, .int .i64 a3_1, .int .i64 a3_2, .int .i64 a3_3] 27 (0, 0))) := ⟨h4_⟩
          have n5_ : Aside0 (Below w.heap.size w w16) := ⟨h5_⟩
          clear BK222
          clear BK223
          clear BK224
          clear BK225
          clear HB
          clear h0_ h1_ h2_ h3_ h4_ h5_
          have HO231 := n0_
          have BK222 := n1_
          have BK223 := n2_
          have BK224 := n3_
          have BK225 := n4_
          have HB := n5_
          clear n0_ n1_ n2_ n3_ n4_ n5_
          have hHeld : w16.cell? ⟨gb222, 0, none⟩ = some (.int .i64 a0_0) ∧ w16.cell? ⟨gb222, 1, none⟩ = some (.string a0_1) ∧ w16.cell? ⟨gb222, 2, none⟩ = some (.string a0_2) ∧ w16.cell? ⟨gb222, 3, none⟩ = some (.slice A0_3 l0_3.length c0_3) ∧ w16.cell? ⟨gb223, 0, none⟩ = some (.int .i64 a1_0) ∧ w16.cell? ⟨gb223, 1, none⟩ = some (.string a1_1) ∧ w16.cell? ⟨gb223, 2, none⟩ = some (.string a1_2) ∧ w16.cell? ⟨gb223, 3, none⟩ = some (.slice A1_3 l1_3.length c1_3) := hS_
          refine norm_ (a' := ?_) ?_ ?_
          rotate_left
          ·simp only [putAll, Act.put, List.setIfInBounds_toArray, List.set_cons_zero, List.set_cons_succ]
           rfl
          refine three_ (i := 3) (j := 4) (k := 5) (Ni := some 18) (Nj := some 9) (Nk := some 10) #[true, true, true, true, false, false, false, false] #[true, true, true, false, true, false, false, false] #[true, true, true, false, false, true, false, false] rfl rfl rfl rfl rfl rfl (three_of HT_.out (by kernel_rfl)) (by decide) (by decide) (by decide) (fun K hK => ?_) (fun K hK => ?_) (fun K hK => ?_)
          ·skip
           refine goes_ Tryd.func13 (by kernel_rfl) rfl #[.agg #[.int .i64 a1_0, .string a1_1, .string a1_2, .slice A1_3 l1_3.length c1_3]] (by rfl) rfl rfl (by (try simp only [List.map_toArray, List.map_cons, List.map_nil]); first | done | rfl) ?_
           with_reducible refine (prebendlaw27_small.calls a1_0 a1_1 a1_2 (fun k_ => k_ < w.heap.size) _ _ l1_3 t232 t233 t234 t235 _ ?side1 A6.out).mono ?_
           (case side1 => exact Kd.V_mk HC1_3.out (Kd.F_below (Kd.C_F (Kd.heap_int .i64) HR1_3.out) (by repeat (first | (with_reducible first | exact HB.out | apply below_alloc | apply pw_below_drewN | apply below_drew1 | refine below_set ?_ GE222.out | refine below_set ?_ GE223.out | refine below_set ?_ GE224.out | refine below_set ?_ GE225.out) | exact HB.out))))
           rintro e w17 ⟨v236, rfl, ho0, hb⟩
           refine ⟨_, rfl, ?_⟩
           have n0_ := Aside0.mk (Kd.V_below (by (with_reducible repeat (first | apply va | apply vb | apply vc)); exact HO231.out) hb)
           have n1_ := Aside0.mk (Kd.V_lower (Kd.V_mono (ok' := fun k_ => k_ ≠ gb222 ∧ k_ ≠ gb223 ∧ k_ ≠ gb224 ∧ k_ ≠ gb225) ho0 (fun k_ hk_ => ⟨Or.elim hk_ (fun hs_ => fun e_ => Nat.not_le.2 hs_ (by rw [e_]; exact GW222.out)) (fun hn_ => (Kd.freshB (g := gb222) (o := q0 a0_0 a0_1 a0_2 A0_3 l0_3 c0_3) (by (with_reducible repeat (first | refine kc ?_ _ | refine kb ?_ | refine ka ?_ _)); exact BK222.out) k_ hn_)), Or.elim hk_ (fun hs_ => fun e_ => Nat.not_le.2 hs_ (by rw [e_]; exact GW223.out)) (fun hn_ => (Kd.freshB (g := gb223) (o := q0 a1_0 a1_1 a1_2 A1_3 l1_3 c1_3) (by (with_reducible repeat (first | refine kc ?_ _ | refine kb ?_ | refine ka ?_ _)); exact BK223.out) k_ hn_)), Or.elim hk_ (fun hs_ => fun e_ => Nat.not_le.2 hs_ (by rw [e_]; exact GW224.out)) (fun hn_ => (Kd.freshB (g := gb224) (o := q1 a2_0 a2_1 a2_2 a2_3) (by (with_reducible repeat (first | refine kc ?_ _ | refine kb ?_ | refine ka ?_ _)); exact BK224.out) k_ hn_)), Or.elim hk_ (fun hs_ => fun e_ => Nat.not_le.2 hs_ (by rw [e_]; exact GW225.out)) (fun hn_ => (Kd.freshB (g := gb225) (o := q1 a3_0 a3_1 a3_2 a3_3) (by (with_reducible repeat (first | refine kc ?_ _ | refine kb ?_ | refine ka ?_ _)); exact BK225.out) k_ hn_))⟩)) (below_size (by repeat (first | (with_reducible first | exact HB.out | apply below_alloc | apply pw_below_drewN | apply below_drew1 | refine below_set ?_ GE222.out | refine below_set ?_ GE223.out | refine below_set ?_ GE224.out | refine below_set ?_ GE225.out) | exact HB.out))))
           have n2_ := Aside0.mk (blk_below (g := gb222) (o := q0 a0_0 a0_1 a0_2 A0_3 l0_3 c0_3) (by (with_reducible repeat (first | refine kc ?_ _ | refine kb ?_ | refine ka ?_ _)); exact BK222.out) hb)
           have n3_ := Aside0.mk (blk_below (g := gb223) (o := q0 a1_0 a1_1 a1_2 A1_3 l1_3 c1_3) (by (with_reducible repeat (first | refine kc ?_ _ | refine kb ?_ | refine ka ?_ _)); exact BK223.out) hb)
           have n4_ := Aside0.mk (blk_below (g := gb224) (o := q1 a2_0 a2_1 a2_2 a2_3) (by (with_reducible repeat (first | refine kc ?_ _ | refine kb ?_ | refine ka ?_ _)); exact BK224.out) hb)
           have n5_ := Aside0.mk (blk_below (g := gb225) (o := q1 a3_0 a3_1 a3_2 a3_3) (by (with_reducible repeat (first | refine kc ?_ _ | refine kb ?_ | refine ka ?_ _)); exact BK225.out) hb)
           have n6_ := Aside0.mk (below_step (by repeat (first | (with_reducible first | exact HB.out | apply below_alloc | apply pw_below_drewN | apply below_drew1 | refine below_set ?_ GE222.out | refine below_set ?_ GE223.out | refine below_set ?_ GE224.out | refine below_set ?_ GE225.out) | exact HB.out)) hb)
           clear HO231
           clear BK222
           clear BK223
           clear BK224
           clear BK225
           clear HB
           have HO231 := n0_
           have HO237 := n1_
           have BK222 := n2_
           have BK223 := n3_
           have BK224 := n4_
           have BK225 := n5_
           have HB := n6_
           clear n0_ n1_ n2_ n3_ n4_ n5_ n6_
           (try clear hb)
           (try clear hb2)
           (try clear hk)
           (try clear hi)
           (try clear ho0)
           refine hK.out _ _ ⟨(blk_cell BK222.out 0).trans rfl, (blk_cell BK222.out 1).trans rfl, (blk_cell BK222.out 2).trans rfl, (blk_cell BK222.out 3).trans rfl, (blk_cell BK223.out 0).trans rfl, (blk_cell BK223.out 1).trans rfl, (blk_cell BK223.out 2).trans rfl, (blk_cell BK223.out 3).trans rfl⟩ (fun hHeld => ?_)
           clear hK K
           refine norm_ (a' := ?_) ?_ ?_
           rotate_left
           ·show Act.put _ (some 18) _ = _
            simp only [Act.put, List.setIfInBounds_toArray, List.set_cons_zero, List.set_cons_succ, i64_w, i32_w]
            rfl
           exact norm_ (by first | (simp only [putAll, Act.put, List.setIfInBounds_toArray, List.set_cons_zero, List.set_cons_succ]; done) | (simp only [putAll, Act.put, List.setIfInBounds_toArray, List.set_cons_zero, List.set_cons_succ]; rfl)) (hJ1_3 (v230, v236) _ ⟨hHeld, (by (with_reducible repeat (first | apply va | apply vb | apply vc)); exact HO231.out), (by (with_reducible repeat (first | apply va | apply vb | apply vc)); exact HO237.out), (by (with_reducible repeat (first | refine kc ?_ _ | refine kb ?_ | refine ka ?_ _)); exact BK222.out), (by (with_reducible repeat (first | refine kc ?_ _ | refine kb ?_ | refine ka ?_ _)); exact BK223.out), (by (with_reducible repeat (first | refine kc ?_ _ | refine kb ?_ | refine ka ?_ _)); exact BK224.out), (by (with_reducible repeat (first | refine kc ?_ _ | refine kb ?_ | refine ka ?_ _)); exact BK225.out), (by repeat (first | (with_reducible first | exact HB.out | apply below_alloc | apply pw_below_drewN | apply below_drew1 | refine below_set ?_ GE222.out | refine below_set ?_ GE223.out | refine below_set ?_ GE224.out | refine below_set ?_ GE225.out) | exact HB.out))⟩)
          ·skip
           refine box_step ?hg (N := 9) ?hd (cs := #[.int .i64 0, .string (⟨#[]⟩ : ByteArray), .string (⟨#[]⟩ : ByteArray), .slice none 0 0]) (t := 24) ?hr ?_; (case hd => rfl); (case hg => rfl); (case hr => first | (go_simp; done) | (go_simp; rfl))
           intro gb238 hg w17 hbox hb
           have n0_ := Aside0.mk (Kd.V_below (Kd.V_elderB (by (with_reducible repeat (first | apply va | apply vb | apply vc)); exact HO231.out) gb238 (Nat.le_of_eq hg.symm)) hb)
           have n1_ := Aside0.mk (blk_below (g := gb222) (o := q0 a0_0 a0_1 a0_2 A0_3 l0_3 c0_3) (by (with_reducible repeat (first | refine kc ?_ _ | refine kb ?_ | refine ka ?_ _)); exact BK222.out) hb)
           have n2_ := Aside0.mk (blk_below (g := gb223) (o := q0 a1_0 a1_1 a1_2 A1_3 l1_3 c1_3) (by (with_reducible repeat (first | refine kc ?_ _ | refine kb ?_ | refine ka ?_ _)); exact BK223.out) hb)
           have n3_ := Aside0.mk (blk_below (g := gb224) (o := q1 a2_0 a2_1 a2_2 a2_3) (by (with_reducible repeat (first | refine kc ?_ _ | refine kb ?_ | refine ka ?_ _)); exact BK224.out) hb)
           have n4_ := Aside0.mk (blk_below (g := gb225) (o := q1 a3_0 a3_1 a3_2 a3_3) (by (with_reducible repeat (first | refine kc ?_ _ | refine kb ?_ | refine ka ?_ _)); exact BK225.out) hb)
           have n5_ := Aside0.mk (below_step (by repeat (first | (with_reducible first | exact HB.out | apply below_alloc | apply pw_below_drewN | apply below_drew1 | refine below_set ?_ GE222.out | refine below_set ?_ GE223.out | refine below_set ?_ GE224.out | refine below_set ?_ GE225.out) | exact HB.out)) hb)
           have n6_ := Aside0.mk (hbox)
           have n7_ := Aside0.mk ((by rw [hg]; exact (below_size (by repeat (first | (with_reducible first | exact HB.out | apply below_alloc | apply pw_below_drewN | apply below_drew1 | refine below_set ?_ GE222.out | refine below_set ?_ GE223.out | refine below_set ?_ GE224.out | refine below_set ?_ GE225.out) | exact HB.out))) : w.heap.size ≤ gb238))
           have n8_ := Aside0.mk ((by rw [hg]; exact (below_size (by repeat (first | (with_reducible first | exact HB.out | apply below_alloc | apply pw_below_drewN | apply below_drew1 | refine below_set ?_ GE222.out | refine below_set ?_ GE223.out | refine below_set ?_ GE224.out | refine below_set ?_ GE225.out) | exact HB.out))) : w.heap.size ≤ gb238))
           have n9_ := Aside0.mk ((by rw [hg]; exact Nat.ne_of_lt (blk_lt (g := gb222) (o := q0 a0_0 a0_1 a0_2 A0_3 l0_3 c0_3) (by (with_reducible repeat (first | refine kc ?_ _ | refine kb ?_ | refine ka ?_ _)); exact BK222.out)) : gb222 ≠ gb238))
           have n10_ := Aside0.mk ((by rw [hg]; exact Nat.ne_of_gt (blk_lt (g := gb222) (o := q0 a0_0 a0_1 a0_2 A0_3 l0_3 c0_3) (by (with_reducible repeat (first | refine kc ?_ _ | refine kb ?_ | refine ka ?_ _)); exact BK222.out)) : gb238 ≠ gb222))
           have n11_ := Aside0.mk ((by rw [hg]; exact Nat.ne_of_lt (blk_lt (g := gb223) (o := q0 a1_0 a1_1 a1_2 A1_3 l1_3 c1_3) (by (with_reducible repeat (first | refine kc ?_ _ | refine kb ?_ | refine ka ?_ _)); exact BK223.out)) : gb223 ≠ gb238))
           have n12_ := Aside0.mk ((by rw [hg]; exact Nat.ne_of_gt (blk_lt (g := gb223) (o := q0 a1_0 a1_1 a1_2 A1_3 l1_3 c1_3) (by (with_reducible repeat (first | refine kc ?_ _ | refine kb ?_ | refine ka ?_ _)); exact BK223.out)) : gb238 ≠ gb223))
           have n13_ := Aside0.mk ((by rw [hg]; exact Nat.ne_of_lt (blk_lt (g := gb224) (o := q1 a2_0 a2_1 a2_2 a2_3) (by (with_reducible repeat (first | refine kc ?_ _ | refine kb ?_ | refine ka ?_ _)); exact BK224.out)) : gb224 ≠ gb238))
           have n14_ := Aside0.mk ((by rw [hg]; exact Nat.ne_of_gt (blk_lt (g := gb224) (o := q1 a2_0 a2_1 a2_2 a2_3) (by (with_reducible repeat (first | refine kc ?_ _ | refine kb ?_ | refine ka ?_ _)); exact BK224.out)) : gb238 ≠ gb224))
           have n15_ := Aside0.mk ((by rw [hg]; exact Nat.ne_of_lt (blk_lt (g := gb225) (o := q1 a3_0 a3_1 a3_2 a3_3) (by (with_reducible repeat (first | refine kc ?_ _ | refine kb ?_ | refine ka ?_ _)); exact BK225.out)) : gb225 ≠ gb238))
           have n16_ := Aside0.mk ((by rw [hg]; exact Nat.ne_of_gt (blk_lt (g := gb225) (o := q1 a3_0 a3_1 a3_2 a3_3) (by (with_reducible repeat (first | refine kc ?_ _ | refine kb ?_ | refine ka ?_ _)); exact BK225.out)) : gb238 ≠ gb225))
           clear HO231
           clear BK222
           clear BK223
           clear BK224
           clear BK225
           clear HB
           have HO231 := n0_
           have BK222 := n1_
           have BK223 := n2_
           have BK224 := n3_
           have BK225 := n4_
           have HB := n5_
           have BK238 := n6_
           have GW238 := n7_
           have GE238 := n8_
           have NB222_238 := n9_
           have NB238_222 := n10_
           have NB223_238 := n11_
           have NB238_223 := n12_
           have NB224_238 := n13_
           have NB238_224 := n14_
           have NB225_238 := n15_
           have NB238_225 := n16_
           clear n0_ n1_ n2_ n3_ n4_ n5_ n6_ n7_ n8_ n9_ n10_ n11_ n12_ n13_ n14_ n15_ n16_
           clear hb hbox hg
           refine hK.out _ _ ⟨(blk_cell BK222.out 0).trans rfl, (blk_cell BK222.out 1).trans rfl, (blk_cell BK222.out 2).trans rfl, (blk_cell BK222.out 3).trans rfl, (blk_cell BK223.out 0).trans rfl, (blk_cell BK223.out 1).trans rfl, (blk_cell BK223.out 2).trans rfl, (blk_cell BK223.out 3).trans rfl⟩ (fun hHeld => ?_)
           clear hK K
           refine norm_ (a' := ?_) ?_ ?_
           rotate_left
           ·show Act.put _ (some 9) _ = _
            simp only [Act.put, List.setIfInBounds_toArray, List.set_cons_zero, List.set_cons_succ, i64_w, i32_w]
            rfl
           exact norm_ (by first | (simp only [putAll, Act.put, List.setIfInBounds_toArray, List.set_cons_zero, List.set_cons_succ]; done) | (simp only [putAll, Act.put, List.setIfInBounds_toArray, List.set_cons_zero, List.set_cons_succ]; rfl)) (hJ1_4 (v230, gb238) _ ⟨hHeld, (by (with_reducible repeat (first | apply va | apply vb | apply vc)); exact Kd.V_mono HO231.out (fun _ hk => ⟨hk.1.1, ⟨hk.1.2.1, ⟨hk.1.2.2.1, ⟨hk.1.2.2.2, hk.2⟩⟩⟩⟩)), (by (with_reducible repeat (first | refine kc ?_ _ | refine kb ?_ | refine ka ?_ _)); exact BK222.out), (by (with_reducible repeat (first | refine kc ?_ _ | refine kb ?_ | refine ka ?_ _)); exact BK223.out), (by (with_reducible repeat (first | refine kc ?_ _ | refine kb ?_ | refine ka ?_ _)); exact BK224.out), (by (with_reducible repeat (first | refine kc ?_ _ | refine kb ?_ | refine ka ?_ _)); exact BK225.out), (by (with_reducible repeat (first | refine kc ?_ _ | refine kb ?_ | refine ka ?_ _)); exact BK238.out), GW238.out, GE238.out, NB222_238.out, NB238_222.out, NB223_238.out, NB238_223.out, NB224_238.out, NB238_224.out, NB225_238.out, NB238_225.out, (by repeat (first | (with_reducible first | exact HB.out | apply below_alloc | apply pw_below_drewN | apply below_drew1 | refine below_set ?_ GE222.out | refine below_set ?_ GE223.out | refine below_set ?_ GE224.out | refine below_set ?_ GE225.out | refine below_set ?_ GE238.out) | exact HB.out))⟩)
          ·skip
           refine box_step ?hg (N := 10) ?hd (cs := #[.int .i64 0, .string (⟨#[]⟩ : ByteArray), .string (⟨#[]⟩ : ByteArray), .slice none 0 0]) (t := 24) ?hr ?_; (case hd => rfl); (case hg => rfl); (case hr => first | (go_simp; done) | (go_simp; rfl))
           intro gb239 hg w17 hbox hb
           have n0_ := Aside0.mk (Kd.V_below (Kd.V_elderB (by (with_reducible repeat (first | apply va | apply vb | apply vc)); exact HO231.out) gb239 (Nat.le_of_eq hg.symm)) hb)
           have n1_ := Aside0.mk (blk_below (g := gb222) (o := q0 a0_0 a0_1 a0_2 A0_3 l0_3 c0_3) (by (with_reducible repeat (first | refine kc ?_ _ | refine kb ?_ | refine ka ?_ _)); exact BK222.out) hb)
           have n2_ := Aside0.mk (blk_below (g := gb223) (o := q0 a1_0 a1_1 a1_2 A1_3 l1_3 c1_3) (by (with_reducible repeat (first | refine kc ?_ _ | refine kb ?_ | refine ka ?_ _)); exact BK223.out) hb)
           have n3_ := Aside0.mk (blk_below (g := gb224) (o := q1 a2_0 a2_1 a2_2 a2_3) (by (with_reducible repeat (first | refine kc ?_ _ | refine kb ?_ | refine ka ?_ _)); exact BK224.out) hb)
           have n4_ := Aside0.mk (blk_below (g := gb225) (o := q1 a3_0 a3_1 a3_2 a3_3) (by (with_reducible repeat (first | refine kc ?_ _ | refine kb ?_ | refine ka ?_ _)); exact BK225.out) hb)
           have n5_ := Aside0.mk (below_step (by repeat (first | (with_reducible first | exact HB.out | apply below_alloc | apply pw_below_drewN | apply below_drew1 | refine below_set ?_ GE222.out | refine below_set ?_ GE223.out | refine below_set ?_ GE224.out | refine below_set ?_ GE225.out) | exact HB.out)) hb)
           have n6_ := Aside0.mk (hbox)
           have n7_ := Aside0.mk ((by rw [hg]; exact (below_size (by repeat (first | (with_reducible first | exact HB.out | apply below_alloc | apply pw_below_drewN | apply below_drew1 | refine below_set ?_ GE222.out | refine below_set ?_ GE223.out | refine below_set ?_ GE224.out | refine below_set ?_ GE225.out) | exact HB.out))) : w.heap.size ≤ gb239))
           have n8_ := Aside0.mk ((by rw [hg]; exact (below_size (by repeat (first | (with_reducible first | exact HB.out | apply below_alloc | apply pw_below_drewN | apply below_drew1 | refine below_set ?_ GE222.out | refine below_set ?_ GE223.out | refine below_set ?_ GE224.out | refine below_set ?_ GE225.out) | exact HB.out))) : w.heap.size ≤ gb239))
           have n9_ := Aside0.mk ((by rw [hg]; exact Nat.ne_of_lt (blk_lt (g := gb222) (o := q0 a0_0 a0_1 a0_2 A0_3 l0_3 c0_3) (by (with_reducible repeat (first | refine kc ?_ _ | refine kb ?_ | refine ka ?_ _)); exact BK222.out)) : gb222 ≠ gb239))
           have n10_ := Aside0.mk ((by rw [hg]; exact Nat.ne_of_gt (blk_lt (g := gb222) (o := q0 a0_0 a0_1 a0_2 A0_3 l0_3 c0_3) (by (with_reducible repeat (first | refine kc ?_ _ | refine kb ?_ | refine ka ?_ _)); exact BK222.out)) : gb239 ≠ gb222))
           have n11_ := Aside0.mk ((by rw [hg]; exact Nat.ne_of_lt (blk_lt (g := gb223) (o := q0 a1_0 a1_1 a1_2 A1_3 l1_3 c1_3) (by (with_reducible repeat (first | refine kc ?_ _ | refine kb ?_ | refine ka ?_ _)); exact BK223.out)) : gb223 ≠ gb239))
           have n12_ := Aside0.mk ((by rw [hg]; exact Nat.ne_of_gt (blk_lt (g := gb223) (o := q0 a1_0 a1_1 a1_2 A1_3 l1_3 c1_3) (by (with_reducible repeat (first | refine kc ?_ _ | refine kb ?_ | refine ka ?_ _)); exact BK223.out)) : gb239 ≠ gb223))
           have n13_ := Aside0.mk ((by rw [hg]; exact Nat.ne_of_lt (blk_lt (g := gb224) (o := q1 a2_0 a2_1 a2_2 a2_3) (by (with_reducible repeat (first | refine kc ?_ _ | refine kb ?_ | refine ka ?_ _)); exact BK224.out)) : gb224 ≠ gb239))
           have n14_ := Aside0.mk ((by rw [hg]; exact Nat.ne_of_gt (blk_lt (g := gb224) (o := q1 a2_0 a2_1 a2_2 a2_3) (by (with_reducible repeat (first | refine kc ?_ _ | refine kb ?_ | refine ka ?_ _)); exact BK224.out)) : gb239 ≠ gb224))
           have n15_ := Aside0.mk ((by rw [hg]; exact Nat.ne_of_lt (blk_lt (g := gb225) (o := q1 a3_0 a3_1 a3_2 a3_3) (by (with_reducible repeat (first | refine kc ?_ _ | refine kb ?_ | refine ka ?_ _)); exact BK225.out)) : gb225 ≠ gb239))
           have n16_ := Aside0.mk ((by rw [hg]; exact Nat.ne_of_gt (blk_lt (g := gb225) (o := q1 a3_0 a3_1 a3_2 a3_3) (by (with_reducible repeat (first | refine kc ?_ _ | refine kb ?_ | refine ka ?_ _)); exact BK225.out)) : gb239 ≠ gb225))
           clear HO231
           clear BK222
           clear BK223
           clear BK224
           clear BK225
           clear HB
           have HO231 := n0_
           have BK222 := n1_
           have BK223 := n2_
           have BK224 := n3_
           have BK225 := n4_
           have HB := n5_
           have BK239 := n6_
           have GW239 := n7_
           have GE239 := n8_
           have NB222_239 := n9_
           have NB239_222 := n10_
           have NB223_239 := n11_
           have NB239_223 := n12_
           have NB224_239 := n13_
           have NB239_224 := n14_
           have NB225_239 := n15_
           have NB239_225 := n16_
           clear n0_ n1_ n2_ n3_ n4_ n5_ n6_ n7_ n8_ n9_ n10_ n11_ n12_ n13_ n14_ n15_ n16_
           clear hb hbox hg
           refine hK.out _ _ ⟨(blk_cell BK222.out 0).trans rfl, (blk_cell BK222.out 1).trans rfl, (blk_cell BK222.out 2).trans rfl, (blk_cell BK222.out 3).trans rfl, (blk_cell BK223.out 0).trans rfl, (blk_cell BK223.out 1).trans rfl, (blk_cell BK223.out 2).trans rfl, (blk_cell BK223.out 3).trans rfl⟩ (fun hHeld => ?_)
           clear hK K
           refine norm_ (a' := ?_) ?_ ?_
           rotate_left
           ·show Act.put _ (some 10) _ = _
            simp only [Act.put, List.setIfInBounds_toArray, List.set_cons_zero, List.set_cons_succ, i64_w, i32_w]
            rfl
           exact norm_ (by first | (simp only [putAll, Act.put, List.setIfInBounds_toArray, List.set_cons_zero, List.set_cons_succ]; done) | (simp only [putAll, Act.put, List.setIfInBounds_toArray, List.set_cons_zero, List.set_cons_succ]; rfl)) (hJ1_5 (v230, gb239) _ ⟨hHeld, (by (with_reducible repeat (first | apply va | apply vb | apply vc)); exact Kd.V_mono HO231.out (fun _ hk => ⟨hk.1.1, ⟨hk.1.2.1, ⟨hk.1.2.2.1, ⟨hk.1.2.2.2, hk.2⟩⟩⟩⟩)), (by (with_reducible repeat (first | refine kc ?_ _ | refine kb ?_ | refine ka ?_ _)); exact BK222.out), (by (with_reducible repeat (first | refine kc ?_ _ | refine kb ?_ | refine ka ?_ _)); exact BK223.out), (by (with_reducible repeat (first | refine kc ?_ _ | refine kb ?_ | refine ka ?_ _)); exact BK224.out), (by (with_reducible repeat (first | refine kc ?_ _ | refine kb ?_ | refine ka ?_ _)); exact BK225.out), (by (with_reducible repeat (first | refine kc ?_ _ | refine kb ?_ | refine ka ?_ _)); exact BK239.out), GW239.out, GE239.out, NB222_239.out, NB239_222.out, NB223_239.out, NB239_223.out, NB224_239.out, NB239_224.out, NB225_239.out, NB239_225.out, (by repeat (first | (with_reducible first | exact HB.out | apply below_alloc | apply pw_below_drewN | apply below_drew1 | refine below_set ?_ GE222.out | refine below_set ?_ GE223.out | refine below_set ?_ GE224.out | refine below_set ?_ GE225.out | refine below_set ?_ GE239.out) | exact HB.out))⟩)
        ·skip
         rintro ⟨gb238, gb239⟩ w17 ⟨hS_, h0_, h1_, h2_, h3_, h4_, h5_, h6_, h7_, h8_, h9_, h10_, h11_, h12_, h13_, h14_, h15_, h16_, h17_, h18_, h19_, h20_, h21_, h22_, h23_, h24_, h25_, h26_, h27_, h28_⟩
         have n0_ : Aside0 (w17.heap[gb222]? = some (.cells #[.int .i64 a0_0, .string a0_1, .string a0_2, .slice A0_3 l0_3.length c0_3] 24 (0, 0))) := ⟨h0_⟩
         have n1_ : Aside0 (w17.heap[gb223]? = some (.cells #[.int .i64 a1_0, .string a1_1, .string a1_2, .slice A1_3 l1_3.length c1_3] 24 (0, 0))) := ⟨h1_⟩
         have n2_ : Aside0 (w17.heap[gb224]? = some (.cells #[.int .i64 a2_0, .int .i64 a2_1, .int .i64 a2_2, .int .i64 a2_3] 27 (0, 0))) := ⟨h2_⟩
         have n3_ : Aside0 (w17.heap[gb225]? = some (.cells #[.int .i64 a3_0, .int .i64 a3_1, .int .i64 a3_2, .int .i64 a3_3] 27 (0, 0))) := ⟨h3_⟩
         have n4_ : Aside0 (w17.heap[gb238]? = some (.cells #[.int .i64 0, .string (⟨#[]⟩ : ByteArray), .string (⟨#[]⟩ : ByteArray), .slice none 0 0] 24 (0, 0))) := ⟨h4_⟩
         have n5_ : Aside0 (w17.heap[gb239]? = some (.cells #[.int .i64 0, .string (⟨#[]⟩ : ByteArray), .string (⟨#[]⟩ : ByteArray), .slice none 0 0] 24 (0, 0))) := ⟨h5_⟩
         have n6_ : Aside0 (w.heap.size ≤ gb238) := ⟨h6_⟩
         have n7_ : Aside0 (w.heap.size ≤ gb238) := ⟨h7_⟩
         have n8_ : Aside0 (gb222 ≠ gb238) := ⟨h8_⟩
         have n9_ : Aside0 (gb238 ≠ gb222) := ⟨h9_⟩
         have n10_ : Aside0 (gb223 ≠ gb238) := ⟨h10_⟩
         have n11_ : Aside0 (gb238 ≠ gb223) := ⟨h11_⟩
         have n12_ : Aside0 (gb224 ≠ gb238) := ⟨h12_⟩
         have n13_ : Aside0 (gb238 ≠ gb224) := ⟨h13_⟩
         have n14_ : Aside0 (gb225 ≠ gb238) := ⟨h14_⟩
         have n15_ : Aside0 (gb238 ≠ gb225) := ⟨h15_⟩
         have n16_ : Aside0 (gb239 ≠ gb238) := ⟨h16_⟩
         have n17_ : Aside0 (gb238 ≠ gb239) := ⟨h17_⟩
         have n18_ : Aside0 (w.heap.size ≤ gb239) := ⟨h18_⟩
         have n19_ : Aside0 (w.heap.size ≤ gb239) := ⟨h19_⟩
         have n20_ : Aside0 (gb222 ≠ gb239) := ⟨h20_⟩
         have n21_ : Aside0 (gb239 ≠ gb222) := ⟨h21_⟩
         have n22_ : Aside0 (gb223 ≠ gb239) := ⟨h22_⟩
         have n23_ : Aside0 (gb239 ≠ gb223) := ⟨h23_⟩
         have n24_ : Aside0 (gb224 ≠ gb239) := ⟨h24_⟩
         have n25_ : Aside0 (gb239 ≠ gb224) := ⟨h25_⟩
         have n26_ : Aside0 (gb225 ≠ gb239) := ⟨h26_⟩
         have n27_ : Aside0 (gb239 ≠ gb225) := ⟨h27_⟩
         have n28_ : Aside0 (Below w.heap.size w w17) := ⟨h28_⟩
         clear BK222
         clear BK223
         clear BK224
         clear BK225
         clear HB
         clear h0_ h1_ h2_ h3_ h4_ h5_ h6_ h7_ h8_ h9_ h10_ h11_ h12_ h13_ h14_ h15_ h16_ h17_ h18_ h19_ h20_ h21_ h22_ h23_ h24_ h25_ h26_ h27_ h28_
         have BK222 := n0_
         have BK223 := n1_
         have BK224 := n2_
         have BK225 := n3_
         have BK238 := n4_
         have BK239 := n5_
         have GW238 := n6_
         have GE238 := n7_
         have NB222_238 := n8_
         have NB238_222 := n9_
         have NB223_238 := n10_
         have NB238_223 := n11_
         have NB224_238 := n12_
         have NB238_224 := n13_
         have NB225_238 := n14_
         have NB238_225 := n15_
         have NB239_238 := n16_
         have NB238_239 := n17_
         have GW239 := n18_
         have GE239 := n19_
         have NB222_239 := n20_
         have NB239_222 := n21_
         have NB223_239 := n22_
         have NB239_223 := n23_
         have NB224_239 := n24_
         have NB239_224 := n25_
         have NB225_239 := n26_
         have NB239_225 := n27_
         have HB := n28_
         clear n0_ n1_ n2_ n3_ n4_ n5_ n6_ n7_ n8_ n9_ n10_ n11_ n12_ n13_ n14_ n15_ n16_ n17_ n18_ n19_ n20_ n21_ n22_ n23_ n24_ n25_ n26_ n27_ n28_
         have hHeld : w17.cell? ⟨gb222, 0, none⟩ = some (.int .i64 a0_0) ∧ w17.cell? ⟨gb222, 1, none⟩ = some (.string a0_1) ∧ w17.cell? ⟨gb222, 2, none⟩ = some (.string a0_2) ∧ w17.cell? ⟨gb222, 3, none⟩ = some (.slice A0_3 l0_3.length c0_3) ∧ w17.cell? ⟨gb223, 0, none⟩ = some (.int .i64 a1_0) ∧ w17.cell? ⟨gb223, 1, none⟩ = some (.string a1_1) ∧ w17.cell? ⟨gb223, 2, none⟩ = some (.string a1_2) ∧ w17.cell? ⟨gb223, 3, none⟩ = some (.slice A1_3 l1_3.length c1_3) := hS_
         refine norm_ (a' := ?_) ?_ ?_
         rotate_left
         ·simp only [putAll, Act.put, List.setIfInBounds_toArray, List.set_cons_zero, List.set_cons_succ]
          rfl
         refine one_ (i := 1) (N := some 16) #[true, true, true, false, true, true, false, false] rfl rfl (one_of HT_.out (by kernel_rfl)) (by decide) (fun K hK => ?_)
         refine goes_ Tryd.func13 (by kernel_rfl) rfl #[.agg #[.int .i64 a0_0, .string a0_1, .string a0_2, .slice A0_3 l0_3.length c0_3]] (by rfl) rfl rfl (by (try simp only [List.map_toArray, List.map_cons, List.map_nil]); first | done | rfl) ?_
         with_reducible refine (prebendlaw27_small.calls a0_0 a0_1 a0_2 (fun k_ => k_ < w.heap.size) _ _ l0_3 t226 t227 t228 t229 _ ?side1 A5.out).mono ?_
         (case side1 => exact Kd.V_mk HC0_3.out (Kd.F_below (Kd.C_F (Kd.heap_int .i64) HR0_3.out) (by repeat (first | (with_reducible first | exact HB.out | apply below_alloc | apply pw_below_drewN | apply below_drew1 | refine below_set ?_ GE222.out | refine below_set ?_ GE223.out | refine below_set ?_ GE224.out | refine below_set ?_ GE225.out | refine below_set ?_ GE238.out | refine below_set ?_ GE239.out) | exact HB.out))))
         rintro e w18 ⟨v230, rfl, ho0, hb⟩
         refine ⟨_, rfl, ?_⟩
         have n0_ := Aside0.mk (Kd.V_lower (Kd.V_mono (ok' := fun k_ => k_ ≠ gb222 ∧ k_ ≠ gb223 ∧ k_ ≠ gb224 ∧ k_ ≠ gb225 ∧ k_ ≠ gb238 ∧ k_ ≠ gb239) ho0 (fun k_ hk_ => ⟨Or.elim hk_ (fun hs_ => fun e_ => Nat.not_le.2 hs_ (by rw [e_]; exact GW222.out)) (fun hn_ => (Kd.freshB (g := gb222) (o := q0 a0_0 a0_1 a0_2 A0_3 l0_3 c0_3) (by (with_reducible repeat (first | refine kc ?_ _ | refine kb ?_ | refine ka ?_ _)); exact BK222.out) k_ hn_)), Or.elim hk_ (fun hs_ => fun e_ => Nat.not_le.2 hs_ (by rw [e_]; exact GW223.out)) (fun hn_ => (Kd.freshB (g := gb223) (o := q0 a1_0 a1_1 a1_2 A1_3 l1_3 c1_3) (by (with_reducible repeat (first | refine kc ?_ _ | refine kb ?_ | refine ka ?_ _)); exact BK223.out) k_ hn_)), Or.elim hk_ (fun hs_ => fun e_ => Nat.not_le.2 hs_ (by rw [e_]; exact GW224.out)) (fun hn_ => (Kd.freshB (g := gb224) (o := q1 a2_0 a2_1 a2_2 a2_3) (by (with_reducible repeat (first | refine kc ?_ _ | refine kb ?_ | refine ka ?_ _)); exact BK224.out) k_ hn_)), Or.elim hk_ (fun hs_ => fun e_ => Nat.not_le.2 hs_ (by rw [e_]; exact GW225.out)) (fun hn_ => (Kd.freshB (g := gb225) (o := q1 a3_0 a3_1 a3_2 a3_3) (by (with_reducible repeat (first | refine kc ?_ _ | refine kb ?_ | refine ka ?_ _)); exact BK225.out) k_ hn_)), Or.elim hk_ (fun hs_ => fun e_ => Nat.not_le.2 hs_ (by rw [e_]; exact GW238.out)) (fun hn_ => (Kd.freshB (g := gb238) (o := .cells #[.int .i64 0, .string (⟨#[]⟩ : ByteArray), .string (⟨#[]⟩ : ByteArray), .slice none 0 0] 24 (0, 0)) (by (with_reducible repeat (first | refine kc ?_ _ | refine kb ?_ | refine ka ?_ _)); exact BK238.out) k_ hn_)), Or.elim hk_ (fun hs_ => fun e_ => Nat.not_le.2 hs_ (by rw [e_]; exact GW239.out)) (fun hn_ => (Kd.freshB (g := gb239) (o := .cells #[.int .i64 0, .string (⟨#[]⟩ : ByteArray), .string (⟨#[]⟩ : ByteArray), .slice none 0 0] 24 (0, 0)) (by (with_reducible repeat (first | refine kc ?_ _ | refine kb ?_ | refine ka ?_ _)); exact BK239.out) k_ hn_))⟩)) (below_size (by repeat (first | (with_reducible first | exact HB.out | apply below_alloc | apply pw_below_drewN | apply below_drew1 | refine below_set ?_ GE222.out | refine below_set ?_ GE223.out | refine below_set ?_ GE224.out | refine below_set ?_ GE225.out | refine below_set ?_ GE238.out | refine below_set ?_ GE239.out) | exact HB.out))))
         have n1_ := Aside0.mk (blk_below (g := gb222) (o := q0 a0_0 a0_1 a0_2 A0_3 l0_3 c0_3) (by (with_reducible repeat (first | refine kc ?_ _ | refine kb ?_ | refine ka ?_ _)); exact BK222.out) hb)
         have n2_ := Aside0.mk (blk_below (g := gb223) (o := q0 a1_0 a1_1 a1_2 A1_3 l1_3 c1_3) (by (with_reducible repeat (first | refine kc ?_ _ | refine kb ?_ | refine ka ?_ _)); exact BK223.out) hb)
         have n3_ := Aside0.mk (blk_below (g := gb224) (o := q1 a2_0 a2_1 a2_2 a2_3) (by (with_reducible repeat (first | refine kc ?_ _ | refine kb ?_ | refine ka ?_ _)); exact BK224.out) hb)
         have n4_ := Aside0.mk (blk_below (g := gb225) (o := q1 a3_0 a3_1 a3_2 a3_3) (by (with_reducible repeat (first | refine kc ?_ _ | refine kb ?_ | refine ka ?_ _)); exact BK225.out) hb)
         have n5_ := Aside0.mk (blk_below (g := gb238) (o := .cells #[.int .i64 0, .string (⟨#[]⟩ : ByteArray), .string (⟨#[]⟩ : ByteArray), .slice none 0 0] 24 (0, 0)) (by (with_reducible repeat (first | refine kc ?_ _ | refine kb ?_ | refine ka ?_ _)); exact BK238.out) hb)
         have n6_ := Aside0.mk (blk_below (g := gb239) (o := .cells #[.int .i64 0, .string (⟨#[]⟩ : ByteArray), .string (⟨#[]⟩ : ByteArray), .slice none 0 0] 24 (0, 0)) (by (with_reducible repeat (first | refine kc ?_ _ | refine kb ?_ | refine ka ?_ _)); exact BK239.out) hb)
         have n7_ := Aside0.mk (below_step (by repeat (first | (with_reducible first | exact HB.out | apply below_alloc | apply pw_below_drewN | apply below_drew1 | refine below_set ?_ GE222.out | refine below_set ?_ GE223.out | refine below_set ?_ GE224.out | refine below_set ?_ GE225.out | refine below_set ?_ GE238.out | refine below_set ?_ GE239.out) | exact HB.out)) hb)
         clear BK222
         clear BK223
         clear BK224
         clear BK225
         clear BK238
         clear BK239
         clear HB
         have HO231 := n0_
         have BK222 := n1_
         have BK223 := n2_
         have BK224 := n3_
         have BK225 := n4_
         have BK238 := n5_
         have BK239 := n6_
         have HB := n7_
         clear n0_ n1_ n2_ n3_ n4_ n5_ n6_ n7_
         (try clear hb)
         (try clear hb2)
         (try clear hk)
         (try clear hi)
         (try clear ho0)
         refine hK.out _ _ ⟨(blk_cell BK222.out 0).trans rfl, (blk_cell BK222.out 1).trans rfl, (blk_cell BK222.out 2).trans rfl, (blk_cell BK222.out 3).trans rfl, (blk_cell BK223.out 0).trans rfl, (blk_cell BK223.out 1).trans rfl, (blk_cell BK223.out 2).trans rfl, (blk_cell BK223.out 3).trans rfl⟩ (fun hHeld => ?_)
         clear hK K
         refine norm_ (a' := ?_) ?_ ?_
         rotate_left
         ·show Act.put _ (some 16) _ = _
          simp only [Act.put, List.setIfInBounds_toArray, List.set_cons_zero, List.set_cons_succ, i64_w, i32_w]
          rfl
         exact norm_ (by first | (simp only [putAll, Act.put, List.setIfInBounds_toArray, List.set_cons_zero, List.set_cons_succ]; done) | (simp only [putAll, Act.put, List.setIfInBounds_toArray, List.set_cons_zero, List.set_cons_succ]; rfl)) (hJ1_4_5 (v230, gb238, gb239) _ ⟨hHeld, (by (with_reducible repeat (first | apply va | apply vb | apply vc)); exact HO231.out), (by (with_reducible repeat (first | refine kc ?_ _ | refine kb ?_ | refine ka ?_ _)); exact BK222.out), (by (with_reducible repeat (first | refine kc ?_ _ | refine kb ?_ | refine ka ?_ _)); exact BK223.out), (by (with_reducible repeat (first | refine kc ?_ _ | refine kb ?_ | refine ka ?_ _)); exact BK224.out), (by (with_reducible repeat (first | refine kc ?_ _ | refine kb ?_ | refine ka ?_ _)); exact BK225.out), (by (with_reducible repeat (first | refine kc ?_ _ | refine kb ?_ | refine ka ?_ _)); exact BK238.out), (by (with_reducible repeat (first | refine kc ?_ _ | refine kb ?_ | refine ka ?_ _)); exact BK239.out), GW238.out, GE238.out, NB222_238.out, NB238_222.out, NB223_238.out, NB238_223.out, NB224_238.out, NB238_224.out, NB225_238.out, NB238_225.out, NB239_238.out, NB238_239.out, GW239.out, GE239.out, NB222_239.out, NB239_222.out, NB223_239.out, NB239_223.out, NB224_239.out, NB239_224.out, NB225_239.out, NB239_225.out, (by repeat (first | (with_reducible first | exact HB.out | apply below_alloc | apply pw_below_drewN | apply below_drew1 | refine below_set ?_ GE222.out | refine below_set ?_ GE223.out | refine below_set ?_ GE224.out | refine below_set ?_ GE225.out | refine below_set ?_ GE238.out | refine below_set ?_ GE239.out) | exact HB.out))⟩)
       ·skip
        rintro ⟨v230, gb239⟩ w17 ⟨hS_, h0_, h1_, h2_, h3_, h4_, h5_, h6_, h7_, h8_, h9_, h10_, h11_, h12_, h13_, h14_, h15_, h16_⟩
        have n0_ : Aside0 (Kd.V (Kd.int .i64) 3 w17 w.heap.size (fun k_ => k_ ≠ gb222 ∧ k_ ≠ gb223 ∧ k_ ≠ gb224 ∧ k_ ≠ gb225 ∧ k_ ≠ gb239) v230 t229) := ⟨h0_⟩
        have n1_ : Aside0 (w17.heap[gb222]? = some (.cells #[.int .i64 a0_0, .string a0_1, .string a0_2, .slice A0_3 l0_3.length c0_3] 24 (0, 0))) := ⟨h1_⟩
        have n2_ : Aside0 (w17.heap[gb223]? = some (.cells #[.int .i64 a1_0, .string a1_1, .string a1_2, .slice A1_3 l1_3.length c1_3] 24 (0, 0))) := ⟨h2_⟩
        have n3_ : Aside0 (w17.heap[gb224]? = some (.cells #[.int .i64 a2_0, .int .i64 a2_1, .int .i64 a2_2, .int .i64 a2_3] 27 (0, 0))) := ⟨h3_⟩
        have n4_ : Aside0 (w17.heap[gb225]? = some (.cells #[.int .i64 a3_0, .int .i64 a3_1, .int .i64 a3_2, .int .i64 a3_3] 27 (0, 0))) := ⟨h4_⟩
        have n5_ : Aside0 (w17.heap[gb239]? = some (.cells #[.int .i64 0, .string (⟨#[]⟩ : ByteArray), .string (⟨#[]⟩ : ByteArray), .slice none 0 0] 24 (0, 0))) := ⟨h5_⟩
        have n6_ : Aside0 (w.heap.size ≤ gb239) := ⟨h6_⟩
        have n7_ : Aside0 (w.heap.size ≤ gb239) := ⟨h7_⟩
        have n8_ : Aside0 (gb222 ≠ gb239) := ⟨h8_⟩
        have n9_ : Aside0 (gb239 ≠ gb222) := ⟨h9_⟩
        have n10_ : Aside0 (gb223 ≠ gb239) := ⟨h10_⟩
        have n11_ : Aside0 (gb239 ≠ gb223) := ⟨h11_⟩
        have n12_ : Aside0 (gb224 ≠ gb239) := ⟨h12_⟩
        have n13_ : Aside0 (gb239 ≠ gb224) := ⟨h13_⟩
        have n14_ : Aside0 (gb225 ≠ gb239) := ⟨h14_⟩
        have n15_ : Aside0 (gb239 ≠ gb225) := ⟨h15_⟩
        have n16_ : Aside0 (Below w.heap.size w w17) := ⟨h16_⟩
        clear BK222
        clear BK223
        clear BK224
        clear BK225
        clear HB
        clear h0_ h1_ h2_ h3_ h4_ h5_ h6_ h7_ h8_ h9_ h10_ h11_ h12_ h13_ h14_ h15_ h16_
        have HO231 := n0_
        have BK222 := n1_
        have BK223 := n2_
        have BK224 := n3_
        have BK225 := n4_
        have BK239 := n5_
        have GW239 := n6_
        have GE239 := n7_
        have NB222_239 := n8_
        have NB239_222 := n9_
        have NB223_239 := n10_
        have NB239_223 := n11_
        have NB224_239 := n12_
        have NB239_224 := n13_
        have NB225_239 := n14_
        have NB239_225 := n15_
        have HB := n16_
        clear n0_ n1_ n2_ n3_ n4_ n5_ n6_ n7_ n8_ n9_ n10_ n11_ n12_ n13_ n14_ n15_ n16_
        have hHeld : w17.cell? ⟨gb222, 0, none⟩ = some (.int .i64 a0_0) ∧ w17.cell? ⟨gb222, 1, none⟩ = some (.string a0_1) ∧ w17.cell? ⟨gb222, 2, none⟩ = some (.string a0_2) ∧ w17.cell? ⟨gb222, 3, none⟩ = some (.slice A0_3 l0_3.length c0_3) ∧ w17.cell? ⟨gb223, 0, none⟩ = some (.int .i64 a1_0) ∧ w17.cell? ⟨gb223, 1, none⟩ = some (.string a1_1) ∧ w17.cell? ⟨gb223, 2, none⟩ = some (.string a1_2) ∧ w17.cell? ⟨gb223, 3, none⟩ = some (.slice A1_3 l1_3.length c1_3) := hS_
        refine norm_ (a' := ?_) ?_ ?_
        rotate_left
        ·simp only [putAll, Act.put, List.setIfInBounds_toArray, List.set_cons_zero, List.set_cons_succ]
         rfl
        refine two_ (i := 3) (j := 4) (Ni := some 18) (Nj := some 9) #[true, true, true, true, false, true, false, false] #[true, true, true, false, true, true, false, false] rfl rfl rfl rfl (two_of HT_.out (by kernel_rfl)) (by decide) (by decide) (fun K hK => ?_) (fun K hK => ?_)
        ·skip
         refine goes_ Tryd.func13 (by kernel_rfl) rfl #[.agg #[.int .i64 a1_0, .string a1_1, .string a1_2, .slice A1_3 l1_3.length c1_3]] (by rfl) rfl rfl (by (try simp only [List.map_toArray, List.map_cons, List.map_nil]); first | done | rfl) ?_
         with_reducible refine (prebendlaw27_small.calls a1_0 a1_1 a1_2 (fun k_ => k_ < w.heap.size) _ _ l1_3 t232 t233 t234 t235 _ ?side1 A6.out).mono ?_
         (case side1 => exact Kd.V_mk HC1_3.out (Kd.F_below (Kd.C_F (Kd.heap_int .i64) HR1_3.out) (by repeat (first | (with_reducible first | exact HB.out | apply below_alloc | apply pw_below_drewN | apply below_drew1 | refine below_set ?_ GE222.out | refine below_set ?_ GE223.out | refine below_set ?_ GE224.out | refine below_set ?_ GE225.out | refine below_set ?_ GE239.out) | exact HB.out))))
         rintro e w18 ⟨v236, rfl, ho0, hb⟩
         refine ⟨_, rfl, ?_⟩
         have n0_ := Aside0.mk (Kd.V_below (by (with_reducible repeat (first | apply va | apply vb | apply vc)); exact HO231.out) hb)
         have n1_ := Aside0.mk (Kd.V_lower (Kd.V_mono (ok' := fun k_ => k_ ≠ gb222 ∧ k_ ≠ gb223 ∧ k_ ≠ gb224 ∧ k_ ≠ gb225 ∧ k_ ≠ gb239) ho0 (fun k_ hk_ => ⟨Or.elim hk_ (fun hs_ => fun e_ => Nat.not_le.2 hs_ (by rw [e_]; exact GW222.out)) (fun hn_ => (Kd.freshB (g := gb222) (o := q0 a0_0 a0_1 a0_2 A0_3 l0_3 c0_3) (by (with_reducible repeat (first | refine kc ?_ _ | refine kb ?_ | refine ka ?_ _)); exact BK222.out) k_ hn_)), Or.elim hk_ (fun hs_ => fun e_ => Nat.not_le.2 hs_ (by rw [e_]; exact GW223.out)) (fun hn_ => (Kd.freshB (g := gb223) (o := q0 a1_0 a1_1 a1_2 A1_3 l1_3 c1_3) (by (with_reducible repeat (first | refine kc ?_ _ | refine kb ?_ | refine ka ?_ _)); exact BK223.out) k_ hn_)), Or.elim hk_ (fun hs_ => fun e_ => Nat.not_le.2 hs_ (by rw [e_]; exact GW224.out)) (fun hn_ => (Kd.freshB (g := gb224) (o := q1 a2_0 a2_1 a2_2 a2_3) (by (with_reducible repeat (first | refine kc ?_ _ | refine kb ?_ | refine ka ?_ _)); exact BK224.out) k_ hn_)), Or.elim hk_ (fun hs_ => fun e_ => Nat.not_le.2 hs_ (by rw [e_]; exact GW225.out)) (fun hn_ => (Kd.freshB (g := gb225) (o := q1 a3_0 a3_1 a3_2 a3_3) (by (with_reducible repeat (first | refine kc ?_ _ | refine kb ?_ | refine ka ?_ _)); exact BK225.out) k_ hn_)), Or.elim hk_ (fun hs_ => fun e_ => Nat.not_le.2 hs_ (by rw [e_]; exact GW239.out)) (fun hn_ => (Kd.freshB (g := gb239) (o := .cells #[.int .i64 0, .string (⟨#[]⟩ : ByteArray), .string (⟨#[]⟩ : ByteArray), .slice none 0 0] 24 (0, 0)) (by (with_reducible repeat (first | refine kc ?_ _ | refine kb ?_ | refine ka ?_ _)); exact BK239.out) k_ hn_))⟩)) (below_size (by repeat (first | (with_reducible first | exact HB.out | apply below_alloc | apply pw_below_drewN | apply below_drew1 | refine below_set ?_ GE222.out | refine below_set ?_ GE223.out | refine below_set ?_ GE224.out | refine below_set ?_ GE225.out | refine below_set ?_ GE239.out) | exact HB.out))))
         have n2_ := Aside0.mk (blk_below (g := gb222) (o := q0 a0_0 a0_1 a0_2 A0_3 l0_3 c0_3) (by (with_reducible repeat (first | refine kc ?_ _ | refine kb ?_ | refine ka ?_ _)); exact BK222.out) hb)
         have n3_ := Aside0.mk (blk_below (g := gb223) (o := q0 a1_0 a1_1 a1_2 A1_3 l1_3 c1_3) (by (with_reducible repeat (first | refine kc ?_ _ | refine kb ?_ | refine ka ?_ _)); exact BK223.out) hb)
         have n4_ := Aside0.mk (blk_below (g := gb224) (o := q1 a2_0 a2_1 a2_2 a2_3) (by (with_reducible repeat (first | refine kc ?_ _ | refine kb ?_ | refine ka ?_ _)); exact BK224.out) hb)
         have n5_ := Aside0.mk (blk_below (g := gb225) (o := q1 a3_0 a3_1 a3_2 a3_3) (by (with_reducible repeat (first | refine kc ?_ _ | refine kb ?_ | refine ka ?_ _)); exact BK225.out) hb)
         have n6_ := Aside0.mk (blk_below (g := gb239) (o := .cells #[.int .i64 0, .string (⟨#[]⟩ : ByteArray), .string (⟨#[]⟩ : ByteArray), .slice none 0 0] 24 (0, 0)) (by (with_reducible repeat (first | refine kc ?_ _ | refine kb ?_ | refine ka ?_ _)); exact BK239.out) hb)
         have n7_ := Aside0.mk (below_step (by repeat (first | (with_reducible first | exact HB.out | apply below_alloc | apply pw_below_drewN | apply below_drew1 | refine below_set ?_ GE222.out | refine below_set ?_ GE223.out | refine below_set ?_ GE224.out | refine below_set ?_ GE225.out | refine below_set ?_ GE239.out) | exact HB.out)) hb)
         clear HO231
         clear BK222
         clear BK223
         clear BK224
         clear BK225
         clear BK239
         clear HB
         have HO231 := n0_
         have HO237 := n1_
         have BK222 := n2_
         have BK223 := n3_
         have BK224 := n4_
         have BK225 := n5_
         have BK239 := n6_
         have HB := n7_
         clear n0_ n1_ n2_ n3_ n4_ n5_ n6_ n7_
         (try clear hb)
         (try clear hb2)
         (try clear hk)
         (try clear hi)
         (try clear ho0)
         refine hK.out _ _ ⟨(blk_cell BK222.out 0).trans rfl, (blk_cell BK222.out 1).trans rfl, (blk_cell BK222.out 2).trans rfl, (blk_cell BK222.out 3).trans rfl, (blk_cell BK223.out 0).trans rfl, (blk_cell BK223.out 1).trans rfl, (blk_cell BK223.out 2).trans rfl, (blk_cell BK223.out 3).trans rfl⟩ (fun hHeld => ?_)
         clear hK K
         refine norm_ (a' := ?_) ?_ ?_
         rotate_left
         ·show Act.put _ (some 18) _ = _
          simp only [Act.put, List.setIfInBounds_toArray, List.set_cons_zero, List.set_cons_succ, i64_w, i32_w]
          rfl
         exact norm_ (by first | (simp only [putAll, Act.put, List.setIfInBounds_toArray, List.set_cons_zero, List.set_cons_succ]; done) | (simp only [putAll, Act.put, List.setIfInBounds_toArray, List.set_cons_zero, List.set_cons_succ]; rfl)) (hJ1_3_5 (v230, v236, gb239) _ ⟨hHeld, (by (with_reducible repeat (first | apply va | apply vb | apply vc)); exact HO231.out), (by (with_reducible repeat (first | apply va | apply vb | apply vc)); exact HO237.out), (by (with_reducible repeat (first | refine kc ?_ _ | refine kb ?_ | refine ka ?_ _)); exact BK222.out), (by (with_reducible repeat (first | refine kc ?_ _ | refine kb ?_ | refine ka ?_ _)); exact BK223.out), (by (with_reducible repeat (first | refine kc ?_ _ | refine kb ?_ | refine ka ?_ _)); exact BK224.out), (by (with_reducible repeat (first | refine kc ?_ _ | refine kb ?_ | refine ka ?_ _)); exact BK225.out), (by (with_reducible repeat (first | refine kc ?_ _ | refine kb ?_ | refine ka ?_ _)); exact BK239.out), GW239.out, GE239.out, NB222_239.out, NB239_222.out, NB223_239.out, NB239_223.out, NB224_239.out, NB239_224.out, NB225_239.out, NB239_225.out, (by repeat (first | (with_reducible first | exact HB.out | apply below_alloc | apply pw_below_drewN | apply below_drew1 | refine below_set ?_ GE222.out | refine below_set ?_ GE223.out | refine below_set ?_ GE224.out | refine below_set ?_ GE225.out | refine below_set ?_ GE239.out) | exact HB.out))⟩)
        ·skip
         refine box_step ?hg (N := 9) ?hd (cs := #[.int .i64 0, .string (⟨#[]⟩ : ByteArray), .string (⟨#[]⟩ : ByteArray), .slice none 0 0]) (t := 24) ?hr ?_; (case hd => rfl); (case hg => rfl); (case hr => first | (go_simp; done) | (go_simp; rfl))
         intro gb238 hg w18 hbox hb
         have n0_ := Aside0.mk (Kd.V_below (Kd.V_elderB (by (with_reducible repeat (first | apply va | apply vb | apply vc)); exact HO231.out) gb238 (Nat.le_of_eq hg.symm)) hb)
         have n1_ := Aside0.mk (blk_below (g := gb222) (o := q0 a0_0 a0_1 a0_2 A0_3 l0_3 c0_3) (by (with_reducible repeat (first | refine kc ?_ _ | refine kb ?_ | refine ka ?_ _)); exact BK222.out) hb)
         have n2_ := Aside0.mk (blk_below (g := gb223) (o := q0 a1_0 a1_1 a1_2 A1_3 l1_3 c1_3) (by (with_reducible repeat (first | refine kc ?_ _ | refine kb ?_ | refine ka ?_ _)); exact BK223.out) hb)
         have n3_ := Aside0.mk (blk_below (g := gb224) (o := q1 a2_0 a2_1 a2_2 a2_3) (by (with_reducible repeat (first | refine kc ?_ _ | refine kb ?_ | refine ka ?_ _)); exact BK224.out) hb)
         have n4_ := Aside0.mk (blk_below (g := gb225) (o := q1 a3_0 a3_1 a3_2 a3_3) (by (with_reducible repeat (first | refine kc ?_ _ | refine kb ?_ | refine ka ?_ _)); exact BK225.out) hb)
         have n5_ := Aside0.mk (blk_below (g := gb239) (o := .cells #[.int .i64 0, .string (⟨#[]⟩ : ByteArray), .string (⟨#[]⟩ : ByteArray), .slice none 0 0] 24 (0, 0)) (by (with_reducible repeat (first | refine kc ?_ _ | refine kb ?_ | refine ka ?_ _)); exact BK239.out) hb)
         have n6_ := Aside0.mk (below_step (by repeat (first | (with_reducible first | exact HB.out | apply below_alloc | apply pw_below_drewN | apply below_drew1 | refine below_set ?_ GE222.out | refine below_set ?_ GE223.out | refine below_set ?_ GE224.out | refine below_set ?_ GE225.out | refine below_set ?_ GE239.out) | exact HB.out)) hb)
         have n7_ := Aside0.mk (hbox)
         have n8_ := Aside0.mk ((by rw [hg]; exact (below_size (by repeat (first | (with_reducible first | exact HB.out | apply below_alloc | apply pw_below_drewN | apply below_drew1 | refine below_set ?_ GE222.out | refine below_set ?_ GE223.out | refine below_set ?_ GE224.out | refine below_set ?_ GE225.out | refine below_set ?_ GE239.out) | exact HB.out))) : w.heap.size ≤ gb238))
         have n9_ := Aside0.mk ((by rw [hg]; exact (below_size (by repeat (first | (with_reducible first | exact HB.out | apply below_alloc | apply pw_below_drewN | apply below_drew1 | refine below_set ?_ GE222.out | refine below_set ?_ GE223.out | refine below_set ?_ GE224.out | refine below_set ?_ GE225.out | refine below_set ?_ GE239.out) | exact HB.out))) : w.heap.size ≤ gb238))
         have n10_ := Aside0.mk ((by rw [hg]; exact Nat.ne_of_lt (blk_lt (g := gb222) (o := q0 a0_0 a0_1 a0_2 A0_3 l0_3 c0_3) (by (with_reducible repeat (first | refine kc ?_ _ | refine kb ?_ | refine ka ?_ _)); exact BK222.out)) : gb222 ≠ gb238))
         have n11_ := Aside0.mk ((by rw [hg]; exact Nat.ne_of_gt (blk_lt (g := gb222) (o := q0 a0_0 a0_1 a0_2 A0_3 l0_3 c0_3) (by (with_reducible repeat (first | refine kc ?_ _ | refine kb ?_ | refine ka ?_ _)); exact BK222.out)) : gb238 ≠ gb222))
         have n12_ := Aside0.mk ((by rw [hg]; exact Nat.ne_of_lt (blk_lt (g := gb223) (o := q0 a1_0 a1_1 a1_2 A1_3 l1_3 c1_3) (by (with_reducible repeat (first | refine kc ?_ _ | refine kb ?_ | refine ka ?_ _)); exact BK223.out)) : gb223 ≠ gb238))
         have n13_ := Aside0.mk ((by rw [hg]; exact Nat.ne_of_gt (blk_lt (g := gb223) (o := q0 a1_0 a1_1 a1_2 A1_3 l1_3 c1_3) (by (with_reducible repeat (first | refine kc ?_ _ | refine kb ?_ | refine ka ?_ _)); exact BK223.out)) : gb238 ≠ gb223))
         have n14_ := Aside0.mk ((by rw [hg]; exact Nat.ne_of_lt (blk_lt (g := gb224) (o := q1 a2_0 a2_1 a2_2 a2_3) (by (with_reducible repeat (first | refine kc ?_ _ | refine kb ?_ | refine ka ?_ _)); exact BK224.out)) : gb224 ≠ gb238))
         have n15_ := Aside0.mk ((by rw [hg]; exact Nat.ne_of_gt (blk_lt (g := gb224) (o := q1 a2_0 a2_1 a2_2 a2_3) (by (with_reducible repeat (first | refine kc ?_ _ | refine kb ?_ | refine ka ?_ _)); exact BK224.out)) : gb238 ≠ gb224))
         have n16_ := Aside0.mk ((by rw [hg]; exact Nat.ne_of_lt (blk_lt (g := gb225) (o := q1 a3_0 a3_1 a3_2 a3_3) (by (with_reducible repeat (first | refine kc ?_ _ | refine kb ?_ | refine ka ?_ _)); exact BK225.out)) : gb225 ≠ gb238))
         have n17_ := Aside0.mk ((by rw [hg]; exact Nat.ne_of_gt (blk_lt (g := gb225) (o := q1 a3_0 a3_1 a3_2 a3_3) (by (with_reducible repeat (first | refine kc ?_ _ | refine kb ?_ | refine ka ?_ _)); exact BK225.out)) : gb238 ≠ gb225))
         have n18_ := Aside0.mk ((by rw [hg]; exact Nat.ne_of_lt (blk_lt (g := gb239) (o := .cells #[.int .i64 0, .string (⟨#[]⟩ : ByteArray), .string (⟨#[]⟩ : ByteArray), .slice none 0 0] 24 (0, 0)) (by (with_reducible repeat (first | refine kc ?_ _ | refine kb ?_ | refine ka ?_ _)); exact BK239.out)) : gb239 ≠ gb238))
         have n19_ := Aside0.mk ((by rw [hg]; exact Nat.ne_of_gt (blk_lt (g := gb239) (o := .cells #[.int .i64 0, .string (⟨#[]⟩ : ByteArray), .string (⟨#[]⟩ : ByteArray), .slice none 0 0] 24 (0, 0)) (by (with_reducible repeat (first | refine kc ?_ _ | refine kb ?_ | refine ka ?_ _)); exact BK239.out)) : gb238 ≠ gb239))
         clear HO231
         clear BK222
         clear BK223
         clear BK224
         clear BK225
         clear BK239
         clear HB
         have HO231 := n0_
         have BK222 := n1_
         have BK223 := n2_
         have BK224 := n3_
         have BK225 := n4_
         have BK239 := n5_
         have HB := n6_
         have BK238 := n7_
         have GW238 := n8_
         have GE238 := n9_
         have NB222_238 := n10_
         have NB238_222 := n11_
         have NB223_238 := n12_
         have NB238_223 := n13_
         have NB224_238 := n14_
         have NB238_224 := n15_
         have NB225_238 := n16_
         have NB238_225 := n17_
         have NB239_238 := n18_
         have NB238_239 := n19_
         clear n0_ n1_ n2_ n3_ n4_ n5_ n6_ n7_ n8_ n9_ n10_ n11_ n12_ n13_ n14_ n15_ n16_ n17_ n18_ n19_
         clear hb hbox hg
         refine hK.out _ _ ⟨(blk_cell BK222.out 0).trans rfl, (blk_cell BK222.out 1).trans rfl, (blk_cell BK222.out 2).trans rfl, (blk_cell BK222.out 3).trans rfl, (blk_cell BK223.out 0).trans rfl, (blk_cell BK223.out 1).trans rfl, (blk_cell BK223.out 2).trans rfl, (blk_cell BK223.out 3).trans rfl⟩ (fun hHeld => ?_)
         clear hK K
         refine norm_ (a' := ?_) ?_ ?_
         rotate_left
         ·show Act.put _ (some 9) _ = _
          simp only [Act.put, List.setIfInBounds_toArray, List.set_cons_zero, List.set_cons_succ, i64_w, i32_w]
          rfl
         exact norm_ (by first | (simp only [putAll, Act.put, List.setIfInBounds_toArray, List.set_cons_zero, List.set_cons_succ]; done) | (simp only [putAll, Act.put, List.setIfInBounds_toArray, List.set_cons_zero, List.set_cons_succ]; rfl)) (hJ1_4_5 (v230, gb238, gb239) _ ⟨hHeld, (by (with_reducible repeat (first | apply va | apply vb | apply vc)); exact Kd.V_mono HO231.out (fun _ hk => ⟨hk.1.1, ⟨hk.1.2.1, ⟨hk.1.2.2.1, ⟨hk.1.2.2.2.1, ⟨hk.2, hk.1.2.2.2.2⟩⟩⟩⟩⟩)), (by (with_reducible repeat (first | refine kc ?_ _ | refine kb ?_ | refine ka ?_ _)); exact BK222.out), (by (with_reducible repeat (first | refine kc ?_ _ | refine kb ?_ | refine ka ?_ _)); exact BK223.out), (by (with_reducible repeat (first | refine kc ?_ _ | refine kb ?_ | refine ka ?_ _)); exact BK224.out), (by (with_reducible repeat (first | refine kc ?_ _ | refine kb ?_ | refine ka ?_ _)); exact BK225.out), (by (with_reducible repeat (first | refine kc ?_ _ | refine kb ?_ | refine ka ?_ _)); exact BK238.out), (by (with_reducible repeat (first | refine kc ?_ _ | refine kb ?_ | refine ka ?_ _)); exact BK239.out), GW238.out, GE238.out, NB222_238.out, NB238_222.out, NB223_238.out, NB238_223.out, NB224_238.out, NB238_224.out, NB225_238.out, NB238_225.out, NB239_238.out, NB238_239.out, GW239.out, GE239.out, NB222_239.out, NB239_222.out, NB223_239.out, NB239_223.out, NB224_239.out, NB239_224.out, NB225_239.out, NB239_225.out, (by repeat (first | (with_reducible first | exact HB.out | apply below_alloc | apply pw_below_drewN | apply below_drew1 | refine below_set ?_ GE222.out | refine below_set ?_ GE223.out | refine below_set ?_ GE224.out | refine below_set ?_ GE225.out | refine below_set ?_ GE239.out | refine below_set ?_ GE238.out) | exact HB.out))⟩)
      ·skip
       rintro ⟨v230, gb238⟩ w17 ⟨hS_, h0_, h1_, h2_, h3_, h4_, h5_, h6_, h7_, h8_, h9_, h10_, h11_, h12_, h13_, h14_, h15_, h16_⟩
       have n0_ : Aside0 (Kd.V (Kd.int .i64) 3 w17 w.heap.size (fun k_ => k_ ≠ gb222 ∧ k_ ≠ gb223 ∧ k_ ≠ gb224 ∧ k_ ≠ gb225 ∧ k_ ≠ gb238) v230 t229) := ⟨h0_⟩
       have n1_ : Aside0 (w17.heap[gb222]? = some (.cells #[.int .i64 a0_0, .string a0_1, .string a0_2, .slice A0_3 l0_3.length c0_3] 24 (0, 0))) := ⟨h1_⟩
       have n2_ : Aside0 (w17.heap[gb223]? = some (.cells #[.int .i64 a1_0, .string a1_1, .string a1_2, .slice A1_3 l1_3.length c1_3] 24 (0, 0))) := ⟨h2_⟩
       have n3_ : Aside0 (w17.heap[gb224]? = some (.cells #[.int .i64 a2_0, .int .i64 a2_1, .int .i64 a2_2, .int .i64 a2_3] 27 (0, 0))) := ⟨h3_⟩
       have n4_ : Aside0 (w17.heap[gb225]? = some (.cells #[.int .i64 a3_0, .int .i64 a3_1, .int .i64 a3_2, .int .i64 a3_3] 27 (0, 0))) := ⟨h4_⟩
       have n5_ : Aside0 (w17.heap[gb238]? = some (.cells #[.int .i64 0, .string (⟨#[]⟩ : ByteArray), .string (⟨#[]⟩ : ByteArray), .slice none 0 0] 24 (0, 0))) := ⟨h5_⟩
       have n6_ : Aside0 (w.heap.size ≤ gb238) := ⟨h6_⟩
       have n7_ : Aside0 (w.heap.size ≤ gb238) := ⟨h7_⟩
       have n8_ : Aside0 (gb222 ≠ gb238) := ⟨h8_⟩
       have n9_ : Aside0 (gb238 ≠ gb222) := ⟨h9_⟩
       have n10_ : Aside0 (gb223 ≠ gb238) := ⟨h10_⟩
       have n11_ : Aside0 (gb238 ≠ gb223) := ⟨h11_⟩
       have n12_ : Aside0 (gb224 ≠ gb238) := ⟨h12_⟩
       have n13_ : Aside0 (gb238 ≠ gb224) := ⟨h13_⟩
       have n14_ : Aside0 (gb225 ≠ gb238) := ⟨h14_⟩
       have n15_ : Aside0 (gb238 ≠ gb225) := ⟨h15_⟩
       have n16_ : Aside0 (Below w.heap.size w w17) := ⟨h16_⟩
       clear BK222
       clear BK223
       clear BK224
       clear BK225
       clear HB
       clear h0_ h1_ h2_ h3_ h4_ h5_ h6_ h7_ h8_ h9_ h10_ h11_ h12_ h13_ h14_ h15_ h16_
       have HO231 := n0_
       have BK222 := n1_
       have BK223 := n2_
       have BK224 := n3_
       have BK225 := n4_
       have BK238 := n5_
       have GW238 := n6_
       have GE238 := n7_
       have NB222_238 := n8_
       have NB238_222 := n9_
       have NB223_238 := n10_
       have NB238_223 := n11_
       have NB224_238 := n12_
       have NB238_224 := n13_
       have NB225_238 := n14_
       have NB238_225 := n15_
       have HB := n16_
       clear n0_ n1_ n2_ n3_ n4_ n5_ n6_ n7_ n8_ n9_ n10_ n11_ n12_ n13_ n14_ n15_ n16_
       have hHeld : w17.cell? ⟨gb222, 0, none⟩ = some (.int .i64 a0_0) ∧ w17.cell? ⟨gb222, 1, none⟩ = some (.string a0_1) ∧ w17.cell? ⟨gb222, 2, none⟩ = some (.string a0_2) ∧ w17.cell? ⟨gb222, 3, none⟩ = some (.slice A0_3 l0_3.length c0_3) ∧ w17.cell? ⟨gb223, 0, none⟩ = some (.int .i64 a1_0) ∧ w17.cell? ⟨gb223, 1, none⟩ = some (.string a1_1) ∧ w17.cell? ⟨gb223, 2, none⟩ = some (.string a1_2) ∧ w17.cell? ⟨gb223, 3, none⟩ = some (.slice A1_3 l1_3.length c1_3) := hS_
       refine norm_ (a' := ?_) ?_ ?_
       rotate_left
       ·simp only [putAll, Act.put, List.setIfInBounds_toArray, List.set_cons_zero, List.set_cons_succ]
        rfl
       refine two_ (i := 3) (j := 5) (Ni := some 18) (Nj := some 10) #[true, true, true, true, true, false, false, false] #[true, true, true, false, true, true, false, false] rfl rfl rfl rfl (two_of HT_.out (by kernel_rfl)) (by decide) (by decide) (fun K hK => ?_) (fun K hK => ?_)
       ·skip
        refine goes_ Tryd.func13 (by kernel_rfl) rfl #[.agg #[.int .i64 a1_0, .string a1_1, .string a1_2, .slice A1_3 l1_3.length c1_3]] (by rfl) rfl rfl (by (try simp only [List.map_toArray, List.map_cons, List.map_nil]); first | done | rfl) ?_
        with_reducible refine (prebendlaw27_small.calls a1_0 a1_1 a1_2 (fun k_ => k_ < w.heap.size) _ _ l1_3 t232 t233 t234 t235 _ ?side1 A6.out).mono ?_
        (case side1 => exact Kd.V_mk HC1_3.out (Kd.F_below (Kd.C_F (Kd.heap_int .i64) HR1_3.out) (by repeat (first | (with_reducible first | exact HB.out | apply below_alloc | apply pw_below_drewN | apply below_drew1 | refine below_set ?_ GE222.out | refine below_set ?_ GE223.out | refine below_set ?_ GE224.out | refine below_set ?_ GE225.out | refine below_set ?_ GE238.out) | exact HB.out))))
        rintro e w18 ⟨v236, rfl, ho0, hb⟩
        refine ⟨_, rfl, ?_⟩
        have n0_ := Aside0.mk (Kd.V_below (by (with_reducible repeat (first | apply va | apply vb | apply vc)); exact HO231.out) hb)
        have n1_ := Aside0.mk (Kd.V_lower (Kd.V_mono (ok' := fun k_ => k_ ≠ gb222 ∧ k_ ≠ gb223 ∧ k_ ≠ gb224 ∧ k_ ≠ gb225 ∧ k_ ≠ gb238) ho0 (fun k_ hk_ => ⟨Or.elim hk_ (fun hs_ => fun e_ => Nat.not_le.2 hs_ (by rw [e_]; exact GW222.out)) (fun hn_ => (Kd.freshB (g := gb222) (o := q0 a0_0 a0_1 a0_2 A0_3 l0_3 c0_3) (by (with_reducible repeat (first | refine kc ?_ _ | refine kb ?_ | refine ka ?_ _)); exact BK222.out) k_ hn_)), Or.elim hk_ (fun hs_ => fun e_ => Nat.not_le.2 hs_ (by rw [e_]; exact GW223.out)) (fun hn_ => (Kd.freshB (g := gb223) (o := q0 a1_0 a1_1 a1_2 A1_3 l1_3 c1_3) (by (with_reducible repeat (first | refine kc ?_ _ | refine kb ?_ | refine ka ?_ _)); exact BK223.out) k_ hn_)), Or.elim hk_ (fun hs_ => fun e_ => Nat.not_le.2 hs_ (by rw [e_]; exact GW224.out)) (fun hn_ => (Kd.freshB (g := gb224) (o := q1 a2_0 a2_1 a2_2 a2_3) (by (with_reducible repeat (first | refine kc ?_ _ | refine kb ?_ | refine ka ?_ _)); exact BK224.out) k_ hn_)), Or.elim hk_ (fun hs_ => fun e_ => Nat.not_le.2 hs_ (by rw [e_]; exact GW225.out)) (fun hn_ => (Kd.freshB (g := gb225) (o := q1 a3_0 a3_1 a3_2 a3_3) (by (with_reducible repeat (first | refine kc ?_ _ | refine kb ?_ | refine ka ?_ _)); exact BK225.out) k_ hn_)), Or.elim hk_ (fun hs_ => fun e_ => Nat.not_le.2 hs_ (by rw [e_]; exact GW238.out)) (fun hn_ => (Kd.freshB (g := gb238) (o := .cells #[.int .i64 0, .string (⟨#[]⟩ : ByteArray), .string (⟨#[]⟩ : ByteArray), .slice none 0 0] 24 (0, 0)) (by (with_reducible repeat (first | refine kc ?_ _ | refine kb ?_ | refine ka ?_ _)); exact BK238.out) k_ hn_))⟩)) (below_size (by repeat (first | (with_reducible first | exact HB.out | apply below_alloc | apply pw_below_drewN | apply below_drew1 | refine below_set ?_ GE222.out | refine below_set ?_ GE223.out | refine below_set ?_ GE224.out | refine below_set ?_ GE225.out | refine below_set ?_ GE238.out) | exact HB.out))))
        have n2_ := Aside0.mk (blk_below (g := gb222) (o := q0 a0_0 a0_1 a0_2 A0_3 l0_3 c0_3) (by (with_reducible repeat (first | refine kc ?_ _ | refine kb ?_ | refine ka ?_ _)); exact BK222.out) hb)
        have n3_ := Aside0.mk (blk_below (g := gb223) (o := q0 a1_0 a1_1 a1_2 A1_3 l1_3 c1_3) (by (with_reducible repeat (first | refine kc ?_ _ | refine kb ?_ | refine ka ?_ _)); exact BK223.out) hb)
        have n4_ := Aside0.mk (blk_below (g := gb224) (o := q1 a2_0 a2_1 a2_2 a2_3) (by (with_reducible repeat (first | refine kc ?_ _ | refine kb ?_ | refine ka ?_ _)); exact BK224.out) hb)
        have n5_ := Aside0.mk (blk_below (g := gb225) (o := q1 a3_0 a3_1 a3_2 a3_3) (by (with_reducible repeat (first | refine kc ?_ _ | refine kb ?_ | refine ka ?_ _)); exact BK225.out) hb)
        have n6_ := Aside0.mk (blk_below (g := gb238) (o := .cells #[.int .i64 0, .string (⟨#[]⟩ : ByteArray), .string (⟨#[]⟩ : ByteArray), .slice none 0 0] 24 (0, 0)) (by (with_reducible repeat (first | refine kc ?_ _ | refine kb ?_ | refine ka ?_ _)); exact BK238.out) hb)
        have n7_ := Aside0.mk (below_step (by repeat (first | (with_reducible first | exact HB.out | apply below_alloc | apply pw_below_drewN | apply below_drew1 | refine below_set ?_ GE222.out | refine below_set ?_ GE223.out | refine below_set ?_ GE224.out | refine below_set ?_ GE225.out | refine below_set ?_ GE238.out) | exact HB.out)) hb)
        clear HO231
        clear BK222
        clear BK223
        clear BK224
        clear BK225
        clear BK238
        clear HB
        have HO231 := n0_
        have HO237 := n1_
        have BK222 := n2_
        have BK223 := n3_
        have BK224 := n4_
        have BK225 := n5_
        have BK238 := n6_
        have HB := n7_
        clear n0_ n1_ n2_ n3_ n4_ n5_ n6_ n7_
        (try clear hb)
        (try clear hb2)
        (try clear hk)
        (try clear hi)
        (try clear ho0)
        refine hK.out _ _ ⟨(blk_cell BK222.out 0).trans rfl, (blk_cell BK222.out 1).trans rfl, (blk_cell BK222.out 2).trans rfl, (blk_cell BK222.out 3).trans rfl, (blk_cell BK223.out 0).trans rfl, (blk_cell BK223.out 1).trans rfl, (blk_cell BK223.out 2).trans rfl, (blk_cell BK223.out 3).trans rfl⟩ (fun hHeld => ?_)
        clear hK K
        refine norm_ (a' := ?_) ?_ ?_
        rotate_left
        ·show Act.put _ (some 18) _ = _
         simp only [Act.put, List.setIfInBounds_toArray, List.set_cons_zero, List.set_cons_succ, i64_w, i32_w]
         rfl
        exact norm_ (by first | (simp only [putAll, Act.put, List.setIfInBounds_toArray, List.set_cons_zero, List.set_cons_succ]; done) | (simp only [putAll, Act.put, List.setIfInBounds_toArray, List.set_cons_zero, List.set_cons_succ]; rfl)) (hJ1_3_4 (v230, v236, gb238) _ ⟨hHeld, (by (with_reducible repeat (first | apply va | apply vb | apply vc)); exact HO231.out), (by (with_reducible repeat (first | apply va | apply vb | apply vc)); exact HO237.out), (by (with_reducible repeat (first | refine kc ?_ _ | refine kb ?_ | refine ka ?_ _)); exact BK222.out), (by (with_reducible repeat (first | refine kc ?_ _ | refine kb ?_ | refine ka ?_ _)); exact BK223.out), (by (with_reducible repeat (first | refine kc ?_ _ | refine kb ?_ | refine ka ?_ _)); exact BK224.out), (by (with_reducible repeat (first | refine kc ?_ _ | refine kb ?_ | refine ka ?_ _)); exact BK225.out), (by (with_reducible repeat (first | refine kc ?_ _ | refine kb ?_ | refine ka ?_ _)); exact BK238.out), GW238.out, GE238.out, NB222_238.out, NB238_222.out, NB223_238.out, NB238_223.out, NB224_238.out, NB238_224.out, NB225_238.out, NB238_225.out, (by repeat (first | (with_reducible first | exact HB.out | apply below_alloc | apply pw_below_drewN | apply below_drew1 | refine below_set ?_ GE222.out | refine below_set ?_ GE223.out | refine below_set ?_ GE224.out | refine below_set ?_ GE225.out | refine below_set ?_ GE238.out) | exact HB.out))⟩)
       ·skip
        refine box_step ?hg (N := 10) ?hd (cs := #[.int .i64 0, .string (⟨#[]⟩ : ByteArray), .string (⟨#[]⟩ : ByteArray), .slice none 0 0]) (t := 24) ?hr ?_; (case hd => rfl); (case hg => rfl); (case hr => first | (go_simp; done) | (go_simp; rfl))
        intro gb239 hg w18 hbox hb
        have n0_ := Aside0.mk (Kd.V_below (Kd.V_elderB (by (with_reducible repeat (first | apply va | apply vb | apply vc)); exact HO231.out) gb239 (Nat.le_of_eq hg.symm)) hb)
        have n1_ := Aside0.mk (blk_below (g := gb222) (o := q0 a0_0 a0_1 a0_2 A0_3 l0_3 c0_3) (by (with_reducible repeat (first | refine kc ?_ _ | refine kb ?_ | refine ka ?_ _)); exact BK222.out) hb)
        have n2_ := Aside0.mk (blk_below (g := gb223) (o := q0 a1_0 a1_1 a1_2 A1_3 l1_3 c1_3) (by (with_reducible repeat (first | refine kc ?_ _ | refine kb ?_ | refine ka ?_ _)); exact BK223.out) hb)
        have n3_ := Aside0.mk (blk_below (g := gb224) (o := q1 a2_0 a2_1 a2_2 a2_3) (by (with_reducible repeat (first | refine kc ?_ _ | refine kb ?_ | refine ka ?_ _)); exact BK224.out) hb)
        have n4_ := Aside0.mk (blk_below (g := gb225) (o := q1 a3_0 a3_1 a3_2 a3_3) (by (with_reducible repeat (first | refine kc ?_ _ | refine kb ?_ | refine ka ?_ _)); exact BK225.out) hb)
        have n5_ := Aside0.mk (blk_below (g := gb238) (o := .cells #[.int .i64 0, .string (⟨#[]⟩ : ByteArray), .string (⟨#[]⟩ : ByteArray), .slice none 0 0] 24 (0, 0)) (by (with_reducible repeat (first | refine kc ?_ _ | refine kb ?_ | refine ka ?_ _)); exact BK238.out) hb)
        have n6_ := Aside0.mk (below_step (by repeat (first | (with_reducible first | exact HB.out | apply below_alloc | apply pw_below_drewN | apply below_drew1 | refine below_set ?_ GE222.out | refine below_set ?_ GE223.out | refine below_set ?_ GE224.out | refine below_set ?_ GE225.out | refine below_set ?_ GE238.out) | exact HB.out)) hb)
        have n7_ := Aside0.mk (hbox)
        have n8_ := Aside0.mk ((by rw [hg]; exact (below_size (by repeat (first | (with_reducible first | exact HB.out | apply below_alloc | apply pw_below_drewN | apply below_drew1 | refine below_set ?_ GE222.out | refine below_set ?_ GE223.out | refine below_set ?_ GE224.out | refine below_set ?_ GE225.out | refine below_set ?_ GE238.out) | exact HB.out))) : w.heap.size ≤ gb239))
        have n9_ := Aside0.mk ((by rw [hg]; exact (below_size (by repeat (first | (with_reducible first | exact HB.out | apply below_alloc | apply pw_below_drewN | apply below_drew1 | refine below_set ?_ GE222.out | refine below_set ?_ GE223.out | refine below_set ?_ GE224.out | refine below_set ?_ GE225.out | refine below_set ?_ GE238.out) | exact HB.out))) : w.heap.size ≤ gb239))
        have n10_ := Aside0.mk ((by rw [hg]; exact Nat.ne_of_lt (blk_lt (g := gb222) (o := q0 a0_0 a0_1 a0_2 A0_3 l0_3 c0_3) (by (with_reducible repeat (first | refine kc ?_ _ | refine kb ?_ | refine ka ?_ _)); exact BK222.out)) : gb222 ≠ gb239))
        have n11_ := Aside0.mk ((by rw [hg]; exact Nat.ne_of_gt (blk_lt (g := gb222) (o := q0 a0_0 a0_1 a0_2 A0_3 l0_3 c0_3) (by (with_reducible repeat (first | refine kc ?_ _ | refine kb ?_ | refine ka ?_ _)); exact BK222.out)) : gb239 ≠ gb222))
        have n12_ := Aside0.mk ((by rw [hg]; exact Nat.ne_of_lt (blk_lt (g := gb223) (o := q0 a1_0 a1_1 a1_2 A1_3 l1_3 c1_3) (by (with_reducible repeat (first | refine kc ?_ _ | refine kb ?_ | refine ka ?_ _)); exact BK223.out)) : gb223 ≠ gb239))
        have n13_ := Aside0.mk ((by rw [hg]; exact Nat.ne_of_gt (blk_lt (g := gb223) (o := q0 a1_0 a1_1 a1_2 A1_3 l1_3 c1_3) (by (with_reducible repeat (first | refine kc ?_ _ | refine kb ?_ | refine ka ?_ _)); exact BK223.out)) : gb239 ≠ gb223))
        have n14_ := Aside0.mk ((by rw [hg]; exact Nat.ne_of_lt (blk_lt (g := gb224) (o := q1 a2_0 a2_1 a2_2 a2_3) (by (with_reducible repeat (first | refine kc ?_ _ | refine kb ?_ | refine ka ?_ _)); exact BK224.out)) : gb224 ≠ gb239))
        have n15_ := Aside0.mk ((by rw [hg]; exact Nat.ne_of_gt (blk_lt (g := gb224) (o := q1 a2_0 a2_1 a2_2 a2_3) (by (with_reducible repeat (first | refine kc ?_ _ | refine kb ?_ | refine ka ?_ _)); exact BK224.out)) : gb239 ≠ gb224))
        have n16_ := Aside0.mk ((by rw [hg]; exact Nat.ne_of_lt (blk_lt (g := gb225) (o := q1 a3_0 a3_1 a3_2 a3_3) (by (with_reducible repeat (first | refine kc ?_ _ | refine kb ?_ | refine ka ?_ _)); exact BK225.out)) : gb225 ≠ gb239))
        have n17_ := Aside0.mk ((by rw [hg]; exact Nat.ne_of_gt (blk_lt (g := gb225) (o := q1 a3_0 a3_1 a3_2 a3_3) (by (with_reducible repeat (first | refine kc ?_ _ | refine kb ?_ | refine ka ?_ _)); exact BK225.out)) : gb239 ≠ gb225))
        have n18_ := Aside0.mk ((by rw [hg]; exact Nat.ne_of_lt (blk_lt (g := gb238) (o := .cells #[.int .i64 0, .string (⟨#[]⟩ : ByteArray), .string (⟨#[]⟩ : ByteArray), .slice none 0 0] 24 (0, 0)) (by (with_reducible repeat (first | refine kc ?_ _ | refine kb ?_ | refine ka ?_ _)); exact BK238.out)) : gb238 ≠ gb239))
        have n19_ := Aside0.mk ((by rw [hg]; exact Nat.ne_of_gt (blk_lt (g := gb238) (o := .cells #[.int .i64 0, .string (⟨#[]⟩ : ByteArray), .string (⟨#[]⟩ : ByteArray), .slice none 0 0] 24 (0, 0)) (by (with_reducible repeat (first | refine kc ?_ _ | refine kb ?_ | refine ka ?_ _)); exact BK238.out)) : gb239 ≠ gb238))
        clear HO231
        clear BK222
        clear BK223
        clear BK224
        clear BK225
        clear BK238
        clear HB
        have HO231 := n0_
        have BK222 := n1_
        have BK223 := n2_
        have BK224 := n3_
        have BK225 := n4_
        have BK238 := n5_
        have HB := n6_
        have BK239 := n7_
        have GW239 := n8_
        have GE239 := n9_
        have NB222_239 := n10_
        have NB239_222 := n11_
        have NB223_239 := n12_
        have NB239_223 := n13_
        have NB224_239 := n14_
        have NB239_224 := n15_
        have NB225_239 := n16_
        have NB239_225 := n17_
        have NB238_239 := n18_
        have NB239_238 := n19_
        clear n0_ n1_ n2_ n3_ n4_ n5_ n6_ n7_ n8_ n9_ n10_ n11_ n12_ n13_ n14_ n15_ n16_ n17_ n18_ n19_
        clear hb hbox hg
        refine hK.out _ _ ⟨(blk_cell BK222.out 0).trans rfl, (blk_cell BK222.out 1).trans rfl, (blk_cell BK222.out 2).trans rfl, (blk_cell BK222.out 3).trans rfl, (blk_cell BK223.out 0).trans rfl, (blk_cell BK223.out 1).trans rfl, (blk_cell BK223.out 2).trans rfl, (blk_cell BK223.out 3).trans rfl⟩ (fun hHeld => ?_)
        clear hK K
        refine norm_ (a' := ?_) ?_ ?_
        rotate_left
        ·show Act.put _ (some 10) _ = _
         simp only [Act.put, List.setIfInBounds_toArray, List.set_cons_zero, List.set_cons_succ, i64_w, i32_w]
         rfl
        exact norm_ (by first | (simp only [putAll, Act.put, List.setIfInBounds_toArray, List.set_cons_zero, List.set_cons_succ]; done) | (simp only [putAll, Act.put, List.setIfInBounds_toArray, List.set_cons_zero, List.set_cons_succ]; rfl)) (hJ1_4_5 (v230, gb238, gb239) _ ⟨hHeld, (by (with_reducible repeat (first | apply va | apply vb | apply vc)); exact Kd.V_mono HO231.out (fun _ hk => ⟨hk.1.1, ⟨hk.1.2.1, ⟨hk.1.2.2.1, ⟨hk.1.2.2.2.1, ⟨hk.1.2.2.2.2, hk.2⟩⟩⟩⟩⟩)), (by (with_reducible repeat (first | refine kc ?_ _ | refine kb ?_ | refine ka ?_ _)); exact BK222.out), (by (with_reducible repeat (first | refine kc ?_ _ | refine kb ?_ | refine ka ?_ _)); exact BK223.out), (by (with_reducible repeat (first | refine kc ?_ _ | refine kb ?_ | refine ka ?_ _)); exact BK224.out), (by (with_reducible repeat (first | refine kc ?_ _ | refine kb ?_ | refine ka ?_ _)); exact BK225.out), (by (with_reducible repeat (first | refine kc ?_ _ | refine kb ?_ | refine ka ?_ _)); exact BK238.out), (by (with_reducible repeat (first | refine kc ?_ _ | refine kb ?_ | refine ka ?_ _)); exact BK239.out), GW238.out, GE238.out, NB222_238.out, NB238_222.out, NB223_238.out, NB238_223.out, NB224_238.out, NB238_224.out, NB225_238.out, NB238_225.out, NB239_238.out, NB238_239.out, GW239.out, GE239.out, NB222_239.out, NB239_222.out, NB223_239.out, NB239_223.out, NB224_239.out, NB239_224.out, NB225_239.out, NB239_225.out, (by repeat (first | (with_reducible first | exact HB.out | apply below_alloc | apply pw_below_drewN | apply below_drew1 | refine below_set ?_ GE222.out | refine below_set ?_ GE223.out | refine below_set ?_ GE224.out | refine below_set ?_ GE225.out | refine below_set ?_ GE238.out | refine below_set ?_ GE239.out) | exact HB.out))⟩)
     ·skip
      rintro ⟨v230, v236⟩ w17 ⟨hS_, h0_, h1_, h2_, h3_, h4_, h5_, h6_⟩
      have n0_ : Aside0 (Kd.V (Kd.int .i64) 3 w17 w.heap.size (fun k_ => k_ ≠ gb222 ∧ k_ ≠ gb223 ∧ k_ ≠ gb224 ∧ k_ ≠ gb225) v230 t229) := ⟨h0_⟩
      have n1_ : Aside0 (Kd.V (Kd.int .i64) 3 w17 w.heap.size (fun k_ => k_ ≠ gb222 ∧ k_ ≠ gb223 ∧ k_ ≠ gb224 ∧ k_ ≠ gb225) v236 t235) := ⟨h1_⟩
      have n2_ : Aside0 (w17.heap[gb222]? = some (.cells #[.int .i64 a0_0, .string a0_1, .string a0_2, .slice A0_3 l0_3.length c0_3] 24 (0, 0))) := ⟨h2_⟩
      have n3_ : Aside0 (w17.heap[gb223]? = some (.cells #[.int .i64 a1_0, .string a1_1, .string a1_2, .slice A1_3 l1_3.length c1_3] 24 (0, 0))) := ⟨h3_⟩
      have n4_ : Aside0 (w17.heap[gb224]? = some (.cells #[.int .i64 a2_0, .int .i64 a2_1, .int .i64 a2_2, .int .i64 a2_3] 27 (0, 0))) := ⟨h4_⟩
      have n5_ : Aside0 (w17.heap[gb225]? = some (.cells #[.int .i64 a3_0, .int .i64 a3_1, .int .i64 a3_2, .int .i64 a3_3] 27 (0, 0))) := ⟨h5_⟩
      have n6_ : Aside0 (Below w.heap.size w w17) := ⟨h6_⟩
      clear BK222
      clear BK223
      clear BK224
      clear BK225
      clear HB
      clear h0_ h1_ h2_ h3_ h4_ h5_ h6_
      have HO231 := n0_
      have HO237 := n1_
      have BK222 := n2_
      have BK223 := n3_
      have BK224 := n4_
      have BK225 := n5_
      have HB := n6_
      clear n0_ n1_ n2_ n3_ n4_ n5_ n6_
      have hHeld : w17.cell? ⟨gb222, 0, none⟩ = some (.int .i64 a0_0) ∧ w17.cell? ⟨gb222, 1, none⟩ = some (.string a0_1) ∧ w17.cell? ⟨gb222, 2, none⟩ = some (.string a0_2) ∧ w17.cell? ⟨gb222, 3, none⟩ = some (.slice A0_3 l0_3.length c0_3) ∧ w17.cell? ⟨gb223, 0, none⟩ = some (.int .i64 a1_0) ∧ w17.cell? ⟨gb223, 1, none⟩ = some (.string a1_1) ∧ w17.cell? ⟨gb223, 2, none⟩ = some (.string a1_2) ∧ w17.cell? ⟨gb223, 3, none⟩ = some (.slice A1_3 l1_3.length c1_3) := hS_
      refine norm_ (a' := ?_) ?_ ?_
      rotate_left
      ·simp only [putAll, Act.put, List.setIfInBounds_toArray, List.set_cons_zero, List.set_cons_succ]
       rfl
      refine two_ (i := 4) (j := 5) (Ni := some 9) (Nj := some 10) #[true, true, true, true, true, false, false, false] #[true, true, true, true, false, true, false, false] rfl rfl rfl rfl (two_of HT_.out (by kernel_rfl)) (by decide) (by decide) (fun K hK => ?_) (fun K hK => ?_)
      ·skip
       refine box_step ?hg (N := 9) ?hd (cs := #[.int .i64 0, .string (⟨#[]⟩ : ByteArray), .string (⟨#[]⟩ : ByteArray), .slice none 0 0]) (t := 24) ?hr ?_; (case hd => rfl); (case hg => rfl); (case hr => first | (go_simp; done) | (go_simp; rfl))
       intro gb238 hg w18 hbox hb
       have n0_ := Aside0.mk (Kd.V_below (Kd.V_elderB (by (with_reducible repeat (first | apply va | apply vb | apply vc)); exact HO231.out) gb238 (Nat.le_of_eq hg.symm)) hb)
       have n1_ := Aside0.mk (Kd.V_below (Kd.V_elderB (by (with_reducible repeat (first | apply va | apply vb | apply vc)); exact HO237.out) gb238 (Nat.le_of_eq hg.symm)) hb)
       have n2_ := Aside0.mk (blk_below (g := gb222) (o := q0 a0_0 a0_1 a0_2 A0_3 l0_3 c0_3) (by (with_reducible repeat (first | refine kc ?_ _ | refine kb ?_ | refine ka ?_ _)); exact BK222.out) hb)
       have n3_ := Aside0.mk (blk_below (g := gb223) (o := q0 a1_0 a1_1 a1_2 A1_3 l1_3 c1_3) (by (with_reducible repeat (first | refine kc ?_ _ | refine kb ?_ | refine ka ?_ _)); exact BK223.out) hb)
       have n4_ := Aside0.mk (blk_below (g := gb224) (o := q1 a2_0 a2_1 a2_2 a2_3) (by (with_reducible repeat (first | refine kc ?_ _ | refine kb ?_ | refine ka ?_ _)); exact BK224.out) hb)
       have n5_ := Aside0.mk (blk_below (g := gb225) (o := q1 a3_0 a3_1 a3_2 a3_3) (by (with_reducible repeat (first | refine kc ?_ _ | refine kb ?_ | refine ka ?_ _)); exact BK225.out) hb)
       have n6_ := Aside0.mk (below_step (by repeat (first | (with_reducible first | exact HB.out | apply below_alloc | apply pw_below_drewN | apply below_drew1 | refine below_set ?_ GE222.out | refine below_set ?_ GE223.out | refine below_set ?_ GE224.out | refine below_set ?_ GE225.out) | exact HB.out)) hb)
       have n7_ := Aside0.mk (hbox)
       have n8_ := Aside0.mk ((by rw [hg]; exact (below_size (by repeat (first | (with_reducible first | exact HB.out | apply below_alloc | apply pw_below_drewN | apply below_drew1 | refine below_set ?_ GE222.out | refine below_set ?_ GE223.out | refine below_set ?_ GE224.out | refine below_set ?_ GE225.out) | exact HB.out))) : w.heap.size ≤ gb238))
       have n9_ := Aside0.mk ((by rw [hg]; exact (below_size (by repeat (first | (with_reducible first | exact HB.out | apply below_alloc | apply pw_below_drewN | apply below_drew1 | refine below_set ?_ GE222.out | refine below_set ?_ GE223.out | refine below_set ?_ GE224.out | refine below_set ?_ GE225.out) | exact HB.out))) : w.heap.size ≤ gb238))
       have n10_ := Aside0.mk ((by rw [hg]; exact Nat.ne_of_lt (blk_lt (g := gb222) (o := q0 a0_0 a0_1 a0_2 A0_3 l0_3 c0_3) (by (with_reducible repeat (first | refine kc ?_ _ | refine kb ?_ | refine ka ?_ _)); exact BK222.out)) : gb222 ≠ gb238))
       have n11_ := Aside0.mk ((by rw [hg]; exact Nat.ne_of_gt (blk_lt (g := gb222) (o := q0 a0_0 a0_1 a0_2 A0_3 l0_3 c0_3) (by (with_reducible repeat (first | refine kc ?_ _ | refine kb ?_ | refine ka ?_ _)); exact BK222.out)) : gb238 ≠ gb222))
       have n12_ := Aside0.mk ((by rw [hg]; exact Nat.ne_of_lt (blk_lt (g := gb223) (o := q0 a1_0 a1_1 a1_2 A1_3 l1_3 c1_3) (by (with_reducible repeat (first | refine kc ?_ _ | refine kb ?_ | refine ka ?_ _)); exact BK223.out)) : gb223 ≠ gb238))
       have n13_ := Aside0.mk ((by rw [hg]; exact Nat.ne_of_gt (blk_lt (g := gb223) (o := q0 a1_0 a1_1 a1_2 A1_3 l1_3 c1_3) (by (with_reducible repeat (first | refine kc ?_ _ | refine kb ?_ | refine ka ?_ _)); exact BK223.out)) : gb238 ≠ gb223))
       have n14_ := Aside0.mk ((by rw [hg]; exact Nat.ne_of_lt (blk_lt (g := gb224) (o := q1 a2_0 a2_1 a2_2 a2_3) (by (with_reducible repeat (first | refine kc ?_ _ | refine kb ?_ | refine ka ?_ _)); exact BK224.out)) : gb224 ≠ gb238))
       have n15_ := Aside0.mk ((by rw [hg]; exact Nat.ne_of_gt (blk_lt (g := gb224) (o := q1 a2_0 a2_1 a2_2 a2_3) (by (with_reducible repeat (first | refine kc ?_ _ | refine kb ?_ | refine ka ?_ _)); exact BK224.out)) : gb238 ≠ gb224))
       have n16_ := Aside0.mk ((by rw [hg]; exact Nat.ne_of_lt (blk_lt (g := gb225) (o := q1 a3_0 a3_1 a3_2 a3_3) (by (with_reducible repeat (first | refine kc ?_ _ | refine kb ?_ | refine ka ?_ _)); exact BK225.out)) : gb225 ≠ gb238))
       have n17_ := Aside0.mk ((by rw [hg]; exact Nat.ne_of_gt (blk_lt (g := gb225) (o := q1 a3_0 a3_1 a3_2 a3_3) (by (with_reducible repeat (first | refine kc ?_ _ | refine kb ?_ | refine ka ?_ _)); exact BK225.out)) : gb238 ≠ gb225))
       clear HO231
       clear HO237
       clear BK222
       clear BK223
       clear BK224
       clear BK225
       clear HB
       have HO231 := n0_
       have HO237 := n1_
       have BK222 := n2_
       have BK223 := n3_
       have BK224 := n4_
       have BK225 := n5_
       have HB := n6_
       have BK238 := n7_
       have GW238 := n8_
       have GE238 := n9_
       have NB222_238 := n10_
       have NB238_222 := n11_
       have NB223_238 := n12_
       have NB238_223 := n13_
       have NB224_238 := n14_
       have NB238_224 := n15_
       have NB225_238 := n16_
       have NB238_225 := n17_
       clear n0_ n1_ n2_ n3_ n4_ n5_ n6_ n7_ n8_ n9_ n10_ n11_ n12_ n13_ n14_ n15_ n16_ n17_
       clear hb hbox hg
       refine hK.out _ _ ⟨(blk_cell BK222.out 0).trans rfl, (blk_cell BK222.out 1).trans rfl, (blk_cell BK222.out 2).trans rfl, (blk_cell BK222.out 3).trans rfl, (blk_cell BK223.out 0).trans rfl, (blk_cell BK223.out 1).trans rfl, (blk_cell BK223.out 2).trans rfl, (blk_cell BK223.out 3).trans rfl⟩ (fun hHeld => ?_)
       clear hK K
       refine norm_ (a' := ?_) ?_ ?_
       rotate_left
       ·show Act.put _ (some 9) _ = _
        simp only [Act.put, List.setIfInBounds_toArray, List.set_cons_zero, List.set_cons_succ, i64_w, i32_w]
        rfl
       exact norm_ (by first | (simp only [putAll, Act.put, List.setIfInBounds_toArray, List.set_cons_zero, List.set_cons_succ]; done) | (simp only [putAll, Act.put, List.setIfInBounds_toArray, List.set_cons_zero, List.set_cons_succ]; rfl)) (hJ1_3_4 (v230, v236, gb238) _ ⟨hHeld, (by (with_reducible repeat (first | apply va | apply vb | apply vc)); exact Kd.V_mono HO231.out (fun _ hk => ⟨hk.1.1, ⟨hk.1.2.1, ⟨hk.1.2.2.1, ⟨hk.1.2.2.2, hk.2⟩⟩⟩⟩)), (by (with_reducible repeat (first | apply va | apply vb | apply vc)); exact Kd.V_mono HO237.out (fun _ hk => ⟨hk.1.1, ⟨hk.1.2.1, ⟨hk.1.2.2.1, ⟨hk.1.2.2.2, hk.2⟩⟩⟩⟩)), (by (with_reducible repeat (first | refine kc ?_ _ | refine kb ?_ | refine ka ?_ _)); exact BK222.out), (by (with_reducible repeat (first | refine kc ?_ _ | refine kb ?_ | refine ka ?_ _)); exact BK223.out), (by (with_reducible repeat (first | refine kc ?_ _ | refine kb ?_ | refine ka ?_ _)); exact BK224.out), (by (with_reducible repeat (first | refine kc ?_ _ | refine kb ?_ | refine ka ?_ _)); exact BK225.out), (by (with_reducible repeat (first | refine kc ?_ _ | refine kb ?_ | refine ka ?_ _)); exact BK238.out), GW238.out, GE238.out, NB222_238.out, NB238_222.out, NB223_238.out, NB238_223.out, NB224_238.out, NB238_224.out, NB225_238.out, NB238_225.out, (by repeat (first | (with_reducible first | exact HB.out | apply below_alloc | apply pw_below_drewN | apply below_drew1 | refine below_set ?_ GE222.out | refine below_set ?_ GE223.out | refine below_set ?_ GE224.out | refine below_set ?_ GE225.out | refine below_set ?_ GE238.out) | exact HB.out))⟩)
      ·skip
       refine box_step ?hg (N := 10) ?hd (cs := #[.int .i64 0, .string (⟨#[]⟩ : ByteArray), .string (⟨#[]⟩ : ByteArray), .slice none 0 0]) (t := 24) ?hr ?_; (case hd => rfl); (case hg => rfl); (case hr => first | (go_simp; done) | (go_simp; rfl))
       intro gb239 hg w18 hbox hb
       have n0_ := Aside0.mk (Kd.V_below (Kd.V_elderB (by (with_reducible repeat (first | apply va | apply vb | apply vc)); exact HO231.out) gb239 (Nat.le_of_eq hg.symm)) hb)
       have n1_ := Aside0.mk (Kd.V_below (Kd.V_elderB (by (with_reducible repeat (first | apply va | apply vb | apply vc)); exact HO237.out) gb239 (Nat.le_of_eq hg.symm)) hb)
       have n2_ := Aside0.mk (blk_below (g := gb222) (o := q0 a0_0 a0_1 a0_2 A0_3 l0_3 c0_3) (by (with_reducible repeat (first | refine kc ?_ _ | refine kb ?_ | refine ka ?_ _)); exact BK222.out) hb)
       have n3_ := Aside0.mk (blk_below (g := gb223) (o := q0 a1_0 a1_1 a1_2 A1_3 l1_3 c1_3) (by (with_reducible repeat (first | refine kc ?_ _ | refine kb ?_ | refine ka ?_ _)); exact BK223.out) hb)
       have n4_ := Aside0.mk (blk_below (g := gb224) (o := q1 a2_0 a2_1 a2_2 a2_3) (by (with_reducible repeat (first | refine kc ?_ _ | refine kb ?_ | refine ka ?_ _)); exact BK224.out) hb)
       have n5_ := Aside0.mk (blk_below (g := gb225) (o := q1 a3_0 a3_1 a3_2 a3_3) (by (with_reducible repeat (first | refine kc ?_ _ | refine kb ?_ | refine ka ?_ _)); exact BK225.out) hb)
       have n6_ := Aside0.mk (below_step (by repeat (first | (with_reducible first | exact HB.out | apply below_alloc | apply pw_below_drewN | apply below_drew1 | refine below_set ?_ GE222.out | refine below_set ?_ GE223.out | refine below_set ?_ GE224.out | refine below_set ?_ GE225.out) | exact HB.out)) hb)
       have n7_ := Aside0.mk (hbox)
       have n8_ := Aside0.mk ((by rw [hg]; exact (below_size (by repeat (first | (with_reducible first | exact HB.out | apply below_alloc | apply pw_below_drewN | apply below_drew1 | refine below_set ?_ GE222.out | refine below_set ?_ GE223.out | refine below_set ?_ GE224.out | refine below_set ?_ GE225.out) | exact HB.out))) : w.heap.size ≤ gb239))
       have n9_ := Aside0.mk ((by rw [hg]; exact (below_size (by repeat (first | (with_reducible first | exact HB.out | apply below_alloc | apply pw_below_drewN | apply below_drew1 | refine below_set ?_ GE222.out | refine below_set ?_ GE223.out | refine below_set ?_ GE224.out | refine below_set ?_ GE225.out) | exact HB.out))) : w.heap.size ≤ gb239))
       have n10_ := Aside0.mk ((by rw [hg]; exact Nat.ne_of_lt (blk_lt (g := gb222) (o := q0 a0_0 a0_1 a0_2 A0_3 l0_3 c0_3) (by (with_reducible repeat (first | refine kc ?_ _ | refine kb ?_ | refine ka ?_ _)); exact BK222.out)) : gb222 ≠ gb239))
       have n11_ := Aside0.mk ((by rw [hg]; exact Nat.ne_of_gt (blk_lt (g := gb222) (o := q0 a0_0 a0_1 a0_2 A0_3 l0_3 c0_3) (by (with_reducible repeat (first | refine kc ?_ _ | refine kb ?_ | refine ka ?_ _)); exact BK222.out)) : gb239 ≠ gb222))
       have n12_ := Aside0.mk ((by rw [hg]; exact Nat.ne_of_lt (blk_lt (g := gb223) (o := q0 a1_0 a1_1 a1_2 A1_3 l1_3 c1_3) (by (with_reducible repeat (first | refine kc ?_ _ | refine kb ?_ | refine ka ?_ _)); exact BK223.out)) : gb223 ≠ gb239))
       have n13_ := Aside0.mk ((by rw [hg]; exact Nat.ne_of_gt (blk_lt (g := gb223) (o := q0 a1_0 a1_1 a1_2 A1_3 l1_3 c1_3) (by (with_reducible repeat (first | refine kc ?_ _ | refine kb ?_ | refine ka ?_ _)); exact BK223.out)) : gb239 ≠ gb223))
       have n14_ := Aside0.mk ((by rw [hg]; exact Nat.ne_of_lt (blk_lt (g := gb224) (o := q1 a2_0 a2_1 a2_2 a2_3) (by (with_reducible repeat (first | refine kc ?_ _ | refine kb ?_ | refine ka ?_ _)); exact BK224.out)) : gb224 ≠ gb239))
       have n15_ := Aside0.mk ((by rw [hg]; exact Nat.ne_of_gt (blk_lt (g := gb224) (o := q1 a2_0 a2_1 a2_2 a2_3) (by (with_reducible repeat (first | refine kc ?_ _ | refine kb ?_ | refine ka ?_ _)); exact BK224.out)) : gb239 ≠ gb224))
       have n16_ := Aside0.mk ((by rw [hg]; exact Nat.ne_of_lt (blk_lt (g := gb225) (o := q1 a3_0 a3_1 a3_2 a3_3) (by (with_reducible repeat (first | refine kc ?_ _ | refine kb ?_ | refine ka ?_ _)); exact BK225.out)) : gb225 ≠ gb239))
       have n17_ := Aside0.mk ((by rw [hg]; exact Nat.ne_of_gt (blk_lt (g := gb225) (o := q1 a3_0 a3_1 a3_2 a3_3) (by (with_reducible repeat (first | refine kc ?_ _ | refine kb ?_ | refine ka ?_ _)); exact BK225.out)) : gb239 ≠ gb225))
       clear HO231
       clear HO237
       clear BK222
       clear BK223
       clear BK224
       clear BK225
       clear HB
       have HO231 := n0_
       have HO237 := n1_
       have BK222 := n2_
       have BK223 := n3_
       have BK224 := n4_
       have BK225 := n5_
       have HB := n6_
       have BK239 := n7_
       have GW239 := n8_
       have GE239 := n9_
       have NB222_239 := n10_
       have NB239_222 := n11_
       have NB223_239 := n12_
       have NB239_223 := n13_
       have NB224_239 := n14_
       have NB239_224 := n15_
       have NB225_239 := n16_
       have NB239_225 := n17_
       clear n0_ n1_ n2_ n3_ n4_ n5_ n6_ n7_ n8_ n9_ n10_ n11_ n12_ n13_ n14_ n15_ n16_ n17_
       clear hb hbox hg
       refine hK.out _ _ ⟨(blk_cell BK222.out 0).trans rfl, (blk_cell BK222.out 1).trans rfl, (blk_cell BK222.out 2).trans rfl, (blk_cell BK222.out 3).trans rfl, (blk_cell BK223.out 0).trans rfl, (blk_cell BK223.out 1).trans rfl, (blk_cell BK223.out 2).trans rfl, (blk_cell BK223.out 3).trans rfl⟩ (fun hHeld => ?_)
       clear hK K
       refine norm_ (a' := ?_) ?_ ?_
       rotate_left
       ·show Act.put _ (some 10) _ = _
        simp only [Act.put, List.setIfInBounds_toArray, List.set_cons_zero, List.set_cons_succ, i64_w, i32_w]
        rfl
       exact norm_ (by first | (simp only [putAll, Act.put, List.setIfInBounds_toArray, List.set_cons_zero, List.set_cons_succ]; done) | (simp only [putAll, Act.put, List.setIfInBounds_toArray, List.set_cons_zero, List.set_cons_succ]; rfl)) (hJ1_3_5 (v230, v236, gb239) _ ⟨hHeld, (by (with_reducible repeat (first | apply va | apply vb | apply vc)); exact Kd.V_mono HO231.out (fun _ hk => ⟨hk.1.1, ⟨hk.1.2.1, ⟨hk.1.2.2.1, ⟨hk.1.2.2.2, hk.2⟩⟩⟩⟩)), (by (with_reducible repeat (first | apply va | apply vb | apply vc)); exact Kd.V_mono HO237.out (fun _ hk => ⟨hk.1.1, ⟨hk.1.2.1, ⟨hk.1.2.2.1, ⟨hk.1.2.2.2, hk.2⟩⟩⟩⟩)), (by (with_reducible repeat (first | refine kc ?_ _ | refine kb ?_ | refine ka ?_ _)); exact BK222.out), (by (with_reducible repeat (first | refine kc ?_ _ | refine kb ?_ | refine ka ?_ _)); exact BK223.out), (by (with_reducible repeat (first | refine kc ?_ _ | refine kb ?_ | refine ka ?_ _)); exact BK224.out), (by (with_reducible repeat (first | refine kc ?_ _ | refine kb ?_ | refine ka ?_ _)); exact BK225.out), (by (with_reducible repeat (first | refine kc ?_ _ | refine kb ?_ | refine ka ?_ _)); exact BK239.out), GW239.out, GE239.out, NB222_239.out, NB239_222.out, NB223_239.out, NB239_223.out, NB224_239.out, NB239_224.out, NB225_239.out, NB239_225.out, (by repeat (first | (with_reducible first | exact HB.out | apply below_alloc | apply pw_below_drewN | apply below_drew1 | refine below_set ?_ GE222.out | refine below_set ?_ GE223.out | refine below_set ?_ GE224.out | refine below_set ?_ GE225.out | refine below_set ?_ GE239.out) | exact HB.out))⟩)
    ·skip
     rintro ⟨v230, gb238, gb239⟩ w18 ⟨hS_, h0_, h1_, h2_, h3_, h4_, h5_, h6_, h7_, h8_, h9_, h10_, h11_, h12_, h13_, h14_, h15_, h16_, h17_, h18_, h19_, h20_, h21_, h22_, h23_, h24_, h25_, h26_, h27_, h28_, h29_⟩
     have n0_ : Aside0 (Kd.V (Kd.int .i64) 3 w18 w.heap.size (fun k_ => k_ ≠ gb222 ∧ k_ ≠ gb223 ∧ k_ ≠ gb224 ∧ k_ ≠ gb225 ∧ k_ ≠ gb238 ∧ k_ ≠ gb239) v230 t229) := ⟨h0_⟩
     have n1_ : Aside0 (w18.heap[gb222]? = some (.cells #[.int .i64 a0_0, .string a0_1, .string a0_2, .slice A0_3 l0_3.length c0_3] 24 (0, 0))) := ⟨h1_⟩
     have n2_ : Aside0 (w18.heap[gb223]? = some (.cells #[.int .i64 a1_0, .string a1_1, .string a1_2, .slice A1_3 l1_3.length c1_3] 24 (0, 0))) := ⟨h2_⟩
     have n3_ : Aside0 (w18.heap[gb224]? = some (.cells #[.int .i64 a2_0, .int .i64 a2_1, .int .i64 a2_2, .int .i64 a2_3] 27 (0, 0))) := ⟨h3_⟩
     have n4_ : Aside0 (w18.heap[gb225]? = some (.cells #[.int .i64 a3_0, .int .i64 a3_1, .int .i64 a3_2, .int .i64 a3_3] 27 (0, 0))) := ⟨h4_⟩
     have n5_ : Aside0 (w18.heap[gb238]? = some (.cells #[.int .i64 0, .string (⟨#[]⟩ : ByteArray), .string (⟨#[]⟩ : ByteArray), .slice none 0 0] 24 (0, 0))) := ⟨h5_⟩
     have n6_ : Aside0 (w18.heap[gb239]? = some (.cells #[.int .i64 0, .string (⟨#[]⟩ : ByteArray), .string (⟨#[]⟩ : ByteArray), .slice none 0 0] 24 (0, 0))) := ⟨h6_⟩
     have n7_ : Aside0 (w.heap.size ≤ gb238) := ⟨h7_⟩
     have n8_ : Aside0 (w.heap.size ≤ gb238) := ⟨h8_⟩
     have n9_ : Aside0 (gb222 ≠ gb238) := ⟨h9_⟩
     have n10_ : Aside0 (gb238 ≠ gb222) := ⟨h10_⟩
     have n11_ : Aside0 (gb223 ≠ gb238) := ⟨h11_⟩
     have n12_ : Aside0 (gb238 ≠ gb223) := ⟨h12_⟩
     have n13_ : Aside0 (gb224 ≠ gb238) := ⟨h13_⟩
     have n14_ : Aside0 (gb238 ≠ gb224) := ⟨h14_⟩
     have n15_ : Aside0 (gb225 ≠ gb238) := ⟨h15_⟩
     have n16_ : Aside0 (gb238 ≠ gb225) := ⟨h16_⟩
     have n17_ : Aside0 (gb239 ≠ gb238) := ⟨h17_⟩
     have n18_ : Aside0 (gb238 ≠ gb239) := ⟨h18_⟩
     have n19_ : Aside0 (w.heap.size ≤ gb239) := ⟨h19_⟩
     have n20_ : Aside0 (w.heap.size ≤ gb239) := ⟨h20_⟩
     have n21_ : Aside0 (gb222 ≠ gb239) := ⟨h21_⟩
     have n22_ : Aside0 (gb239 ≠ gb222) := ⟨h22_⟩
     have n23_ : Aside0 (gb223 ≠ gb239) := ⟨h23_⟩
     have n24_ : Aside0 (gb239 ≠ gb223) := ⟨h24_⟩
     have n25_ : Aside0 (gb224 ≠ gb239) := ⟨h25_⟩
     have n26_ : Aside0 (gb239 ≠ gb224) := ⟨h26_⟩
     have n27_ : Aside0 (gb225 ≠ gb239) := ⟨h27_⟩
     have n28_ : Aside0 (gb239 ≠ gb225) := ⟨h28_⟩
     have n29_ : Aside0 (Below w.heap.size w w18) := ⟨h29_⟩
     clear BK222
     clear BK223
     clear BK224
     clear BK225
     clear HB
     clear h0_ h1_ h2_ h3_ h4_ h5_ h6_ h7_ h8_ h9_ h10_ h11_ h12_ h13_ h14_ h15_ h16_ h17_ h18_ h19_ h20_ h21_ h22_ h23_ h24_ h25_ h26_ h27_ h28_ h29_
     have HO231 := n0_
     have BK222 := n1_
     have BK223 := n2_
     have BK224 := n3_
     have BK225 := n4_
     have BK238 := n5_
     have BK239 := n6_
     have GW238 := n7_
     have GE238 := n8_
     have NB222_238 := n9_
     have NB238_222 := n10_
     have NB223_238 := n11_
     have NB238_223 := n12_
     have NB224_238 := n13_
     have NB238_224 := n14_
     have NB225_238 := n15_
     have NB238_225 := n16_
     have NB239_238 := n17_
     have NB238_239 := n18_
     have GW239 := n19_
     have GE239 := n20_
     have NB222_239 := n21_
     have NB239_222 := n22_
     have NB223_239 := n23_
     have NB239_223 := n24_
     have NB224_239 := n25_
     have NB239_224 := n26_
     have NB225_239 := n27_
     have NB239_225 := n28_
     have HB := n29_
     clear n0_ n1_ n2_ n3_ n4_ n5_ n6_ n7_ n8_ n9_ n10_ n11_ n12_ n13_ n14_ n15_ n16_ n17_ n18_ n19_ n20_ n21_ n22_ n23_ n24_ n25_ n26_ n27_ n28_ n29_
     have hHeld : w18.cell? ⟨gb222, 0, none⟩ = some (.int .i64 a0_0) ∧ w18.cell? ⟨gb222, 1, none⟩ = some (.string a0_1) ∧ w18.cell? ⟨gb222, 2, none⟩ = some (.string a0_2) ∧ w18.cell? ⟨gb222, 3, none⟩ = some (.slice A0_3 l0_3.length c0_3) ∧ w18.cell? ⟨gb223, 0, none⟩ = some (.int .i64 a1_0) ∧ w18.cell? ⟨gb223, 1, none⟩ = some (.string a1_1) ∧ w18.cell? ⟨gb223, 2, none⟩ = some (.string a1_2) ∧ w18.cell? ⟨gb223, 3, none⟩ = some (.slice A1_3 l1_3.length c1_3) := hS_
     refine norm_ (a' := ?_) ?_ ?_
     rotate_left
     ·simp only [putAll, Act.put, List.setIfInBounds_toArray, List.set_cons_zero, List.set_cons_succ]
      rfl
     refine one_ (i := 3) (N := some 18) #[true, true, true, true, true, true, false, false] rfl rfl (one_of HT_.out (by kernel_rfl)) (by decide) (fun K hK => ?_)
     refine goes_ Tryd.func13 (by kernel_rfl) rfl #[.agg #[.int .i64 a1_0, .string a1_1, .string a1_2, .slice A1_3 l1_3.length c1_3]] (by rfl) rfl rfl (by (try simp only [List.map_toArray, List.map_cons, List.map_nil]); first | done | rfl) ?_
     with_reducible refine (prebendlaw27_small.calls a1_0 a1_1 a1_2 (fun k_ => k_ < w.heap.size) _ _ l1_3 t232 t233 t234 t235 _ ?side1 A6.out).mono ?_
     (case side1 => exact Kd.V_mk HC1_3.out (Kd.F_below (Kd.C_F (Kd.heap_int .i64) HR1_3.out) (by repeat (first | (with_reducible first | exact HB.out | apply below_alloc | apply pw_below_drewN | apply below_drew1 | refine below_set ?_ GE222.out | refine below_set ?_ GE223.out | refine below_set ?_ GE224.out | refine below_set ?_ GE225.out | refine below_set ?_ GE238.out | refine below_set ?_ GE239.out) | exact HB.out))))
     rintro e w19 ⟨v236, rfl, ho0, hb⟩
     refine ⟨_, rfl, ?_⟩
     have n0_ := Aside0.mk (Kd.V_below (by (with_reducible repeat (first | apply va | apply vb | apply vc)); exact HO231.out) hb)
     have n1_ := Aside0.mk (Kd.V_lower (Kd.V_mono (ok' := fun k_ => k_ ≠ gb222 ∧ k_ ≠ gb223 ∧ k_ ≠ gb224 ∧ k_ ≠ gb225 ∧ k_ ≠ gb238 ∧ k_ ≠ gb239) ho0 (fun k_ hk_ => ⟨Or.elim hk_ (fun hs_ => fun e_ => Nat.not_le.2 hs_ (by rw [e_]; exact GW222.out)) (fun hn_ => (Kd.freshB (g := gb222) (o := q0 a0_0 a0_1 a0_2 A0_3 l0_3 c0_3) (by (with_reducible repeat (first | refine kc ?_ _ | refine kb ?_ | refine ka ?_ _)); exact BK222.out) k_ hn_)), Or.elim hk_ (fun hs_ => fun e_ => Nat.not_le.2 hs_ (by rw [e_]; exact GW223.out)) (fun hn_ => (Kd.freshB (g := gb223) (o := q0 a1_0 a1_1 a1_2 A1_3 l1_3 c1_3) (by (with_reducible repeat (first | refine kc ?_ _ | refine kb ?_ | refine ka ?_ _)); exact BK223.out) k_ hn_)), Or.elim hk_ (fun hs_ => fun e_ => Nat.not_le.2 hs_ (by rw [e_]; exact GW224.out)) (fun hn_ => (Kd.freshB (g := gb224) (o := q1 a2_0 a2_1 a2_2 a2_3) (by (with_reducible repeat (first | refine kc ?_ _ | refine kb ?_ | refine ka ?_ _)); exact BK224.out) k_ hn_)), Or.elim hk_ (fun hs_ => fun e_ => Nat.not_le.2 hs_ (by rw [e_]; exact GW225.out)) (fun hn_ => (Kd.freshB (g := gb225) (o := q1 a3_0 a3_1 a3_2 a3_3) (by (with_reducible repeat (first | refine kc ?_ _ | refine kb ?_ | refine ka ?_ _)); exact BK225.out) k_ hn_)), Or.elim hk_ (fun hs_ => fun e_ => Nat.not_le.2 hs_ (by rw [e_]; exact GW238.out)) (fun hn_ => (Kd.freshB (g := gb238) (o := .cells #[.int .i64 0, .string (⟨#[]⟩ : ByteArray), .string (⟨#[]⟩ : ByteArray), .slice none 0 0] 24 (0, 0)) (by (with_reducible repeat (first | refine kc ?_ _ | refine kb ?_ | refine ka ?_ _)); exact BK238.out) k_ hn_)), Or.elim hk_ (fun hs_ => fun e_ => Nat.not_le.2 hs_ (by rw [e_]; exact GW239.out)) (fun hn_ => (Kd.freshB (g := gb239) (o := .cells #[.int .i64 0, .string (⟨#[]⟩ : ByteArray), .string (⟨#[]⟩ : ByteArray), .slice none 0 0] 24 (0, 0)) (by (with_reducible repeat (first | refine kc ?_ _ | refine kb ?_ | refine ka ?_ _)); exact BK239.out) k_ hn_))⟩)) (below_size (by repeat (first | (with_reducible first | exact HB.out | apply below_alloc | apply pw_below_drewN | apply below_drew1 | refine below_set ?_ GE222.out | refine below_set ?_ GE223.out | refine below_set ?_ GE224.out | refine below_set ?_ GE225.out | refine below_set ?_ GE238.out | refine below_set ?_ GE239.out) | exact HB.out))))
     have n2_ := Aside0.mk (blk_below (g := gb222) (o := q0 a0_0 a0_1 a0_2 A0_3 l0_3 c0_3) (by (with_reducible repeat (first | refine kc ?_ _ | refine kb ?_ | refine ka ?_ _)); exact BK222.out) hb)
     have n3_ := Aside0.mk (blk_below (g := gb223) (o := q0 a1_0 a1_1 a1_2 A1_3 l1_3 c1_3) (by (with_reducible repeat (first | refine kc ?_ _ | refine kb ?_ | refine ka ?_ _)); exact BK223.out) hb)
     have n4_ := Aside0.mk (blk_below (g := gb224) (o := q1 a2_0 a2_1 a2_2 a2_3) (by (with_reducible repeat (first | refine kc ?_ _ | refine kb ?_ | refine ka ?_ _)); exact BK224.out) hb)
     have n5_ := Aside0.mk (blk_below (g := gb225) (o := q1 a3_0 a3_1 a3_2 a3_3) (by (with_reducible repeat (first | refine kc ?_ _ | refine kb ?_ | refine ka ?_ _)); exact BK225.out) hb)
     have n6_ := Aside0.mk (blk_below (g := gb238) (o := .cells #[.int .i64 0, .string (⟨#[]⟩ : ByteArray), .string (⟨#[]⟩ : ByteArray), .slice none 0 0] 24 (0, 0)) (by (with_reducible repeat (first | refine kc ?_ _ | refine kb ?_ | refine ka ?_ _)); exact BK238.out) hb)
     have n7_ := Aside0.mk (blk_below (g := gb239) (o := .cells #[.int .i64 0, .string (⟨#[]⟩ : ByteArray), .string (⟨#[]⟩ : ByteArray), .slice none 0 0] 24 (0, 0)) (by (with_reducible repeat (first | refine kc ?_ _ | refine kb ?_ | refine ka ?_ _)); exact BK239.out) hb)
     have n8_ := Aside0.mk (below_step (by repeat (first | (with_reducible first | exact HB.out | apply below_alloc | apply pw_below_drewN | apply below_drew1 | refine below_set ?_ GE222.out | refine below_set ?_ GE223.out | refine below_set ?_ GE224.out | refine below_set ?_ GE225.out | refine below_set ?_ GE238.out | refine below_set ?_ GE239.out) | exact HB.out)) hb)
     clear HO231
     clear BK222
     clear BK223
     clear BK224
     clear BK225
     clear BK238
     clear BK239
     clear HB
     have HO231 := n0_
     have HO237 := n1_
     have BK222 := n2_
     have BK223 := n3_
     have BK224 := n4_
     have BK225 := n5_
     have BK238 := n6_
     have BK239 := n7_
     have HB := n8_
     clear n0_ n1_ n2_ n3_ n4_ n5_ n6_ n7_ n8_
     (try clear hb)
     (try clear hb2)
     (try clear hk)
     (try clear hi)
     (try clear ho0)
     refine hK.out _ _ ⟨(blk_cell BK222.out 0).trans rfl, (blk_cell BK222.out 1).trans rfl, (blk_cell BK222.out 2).trans rfl, (blk_cell BK222.out 3).trans rfl, (blk_cell BK223.out 0).trans rfl, (blk_cell BK223.out 1).trans rfl, (blk_cell BK223.out 2).trans rfl, (blk_cell BK223.out 3).trans rfl⟩ (fun hHeld => ?_)
     clear hK K
     refine norm_ (a' := ?_) ?_ ?_
     rotate_left
     ·show Act.put _ (some 18) _ = _
      simp only [Act.put, List.setIfInBounds_toArray, List.set_cons_zero, List.set_cons_succ, i64_w, i32_w]
      rfl
     exact norm_ (by first | (simp only [putAll, Act.put, List.setIfInBounds_toArray, List.set_cons_zero, List.set_cons_succ]; done) | (simp only [putAll, Act.put, List.setIfInBounds_toArray, List.set_cons_zero, List.set_cons_succ]; rfl)) (hJ1_3_4_5 (v230, v236, gb238, gb239) _ ⟨hHeld, (by (with_reducible repeat (first | apply va | apply vb | apply vc)); exact HO231.out), (by (with_reducible repeat (first | apply va | apply vb | apply vc)); exact HO237.out), (by (with_reducible repeat (first | refine kc ?_ _ | refine kb ?_ | refine ka ?_ _)); exact BK222.out), (by (with_reducible repeat (first | refine kc ?_ _ | refine kb ?_ | refine ka ?_ _)); exact BK223.out), (by (with_reducible repeat (first | refine kc ?_ _ | refine kb ?_ | refine ka ?_ _)); exact BK224.out), (by (with_reducible repeat (first | refine kc ?_ _ | refine kb ?_ | refine ka ?_ _)); exact BK225.out), (by (with_reducible repeat (first | refine kc ?_ _ | refine kb ?_ | refine ka ?_ _)); exact BK238.out), (by (with_reducible repeat (first | refine kc ?_ _ | refine kb ?_ | refine ka ?_ _)); exact BK239.out), GW238.out, GE238.out, NB222_238.out, NB238_222.out, NB223_238.out, NB238_223.out, NB224_238.out, NB238_224.out, NB225_238.out, NB238_225.out, NB239_238.out, NB238_239.out, GW239.out, GE239.out, NB222_239.out, NB239_222.out, NB223_239.out, NB239_223.out, NB224_239.out, NB239_224.out, NB225_239.out, NB239_225.out, (by repeat (first | (with_reducible first | exact HB.out | apply below_alloc | apply pw_below_drewN | apply below_drew1 | refine below_set ?_ GE222.out | refine below_set ?_ GE223.out | refine below_set ?_ GE224.out | refine below_set ?_ GE225.out | refine below_set ?_ GE238.out | refine below_set ?_ GE239.out) | exact HB.out))⟩)
   ·skip
    rintro ⟨v230, v236, gb239⟩ w18 ⟨hS_, h0_, h1_, h2_, h3_, h4_, h5_, h6_, h7_, h8_, h9_, h10_, h11_, h12_, h13_, h14_, h15_, h16_, h17_⟩
    have n0_ : Aside0 (Kd.V (Kd.int .i64) 3 w18 w.heap.size (fun k_ => k_ ≠ gb222 ∧ k_ ≠ gb223 ∧ k_ ≠ gb224 ∧ k_ ≠ gb225 ∧ k_ ≠ gb239) v230 t229) := ⟨h0_⟩
    have n1_ : Aside0 (Kd.V (Kd.int .i64) 3 w18 w.heap.size (fun k_ => k_ ≠ gb222 ∧ k_ ≠ gb223 ∧ k_ ≠ gb224 ∧ k_ ≠ gb225 ∧ k_ ≠ gb239) v236 t235) := ⟨h1_⟩
    have n2_ : Aside0 (w18.heap[gb222]? = some (.cells #[.int .i64 a0_0, .string a0_1, .string a0_2, .slice A0_3 l0_3.length c0_3] 24 (0, 0))) := ⟨h2_⟩
    have n3_ : Aside0 (w18.heap[gb223]? = some (.cells #[.int .i64 a1_0, .string a1_1, .string a1_2, .slice A1_3 l1_3.length c1_3] 24 (0, 0))) := ⟨h3_⟩
    have n4_ : Aside0 (w18.heap[gb224]? = some (.cells #[.int .i64 a2_0, .int .i64 a2_1, .int .i64 a2_2, .int .i64 a2_3] 27 (0, 0))) := ⟨h4_⟩
    have n5_ : Aside0 (w18.heap[gb225]? = some (.cells #[.int .i64 a3_0, .int .i64 a3_1, .int .i64 a3_2, .int .i64 a3_3] 27 (0, 0))) := ⟨h5_⟩
    have n6_ : Aside0 (w18.heap[gb239]? = some (.cells #[.int .i64 0, .string (⟨#[]⟩ : ByteArray), .string (⟨#[]⟩ : ByteArray), .slice none 0 0] 24 (0, 0))) := ⟨h6_⟩
    have n7_ : Aside0 (w.heap.size ≤ gb239) := ⟨h7_⟩
    have n8_ : Aside0 (w.heap.size ≤ gb239) := ⟨h8_⟩
    have n9_ : Aside0 (gb222 ≠ gb239) := ⟨h9_⟩
    have n10_ : Aside0 (gb239 ≠ gb222) := ⟨h10_⟩
    have n11_ : Aside0 (gb223 ≠ gb239) := ⟨h11_⟩
    have n12_ : Aside0 (gb239 ≠ gb223) := ⟨h12_⟩
    have n13_ : Aside0 (gb224 ≠ gb239) := ⟨h13_⟩
    have n14_ : Aside0 (gb239 ≠ gb224) := ⟨h14_⟩
    have n15_ : Aside0 (gb225 ≠ gb239) := ⟨h15_⟩
    have n16_ : Aside0 (gb239 ≠ gb225) := ⟨h16_⟩
    have n17_ : Aside0 (Below w.heap.size w w18) := ⟨h17_⟩
    clear BK222
    clear BK223
    clear BK224
    clear BK225
    clear HB
    clear h0_ h1_ h2_ h3_ h4_ h5_ h6_ h7_ h8_ h9_ h10_ h11_ h12_ h13_ h14_ h15_ h16_ h17_
    have HO231 := n0_
    have HO237 := n1_
    have BK222 := n2_
    have BK223 := n3_
    have BK224 := n4_
    have BK225 := n5_
    have BK239 := n6_
    have GW239 := n7_
    have GE239 := n8_
    have NB222_239 := n9_
    have NB239_222 := n10_
    have NB223_239 := n11_
    have NB239_223 := n12_
    have NB224_239 := n13_
    have NB239_224 := n14_
    have NB225_239 := n15_
    have NB239_225 := n16_
    have HB := n17_
    clear n0_ n1_ n2_ n3_ n4_ n5_ n6_ n7_ n8_ n9_ n10_ n11_ n12_ n13_ n14_ n15_ n16_ n17_
    have hHeld : w18.cell? ⟨gb222, 0, none⟩ = some (.int .i64 a0_0) ∧ w18.cell? ⟨gb222, 1, none⟩ = some (.string a0_1) ∧ w18.cell? ⟨gb222, 2, none⟩ = some (.string a0_2) ∧ w18.cell? ⟨gb222, 3, none⟩ = some (.slice A0_3 l0_3.length c0_3) ∧ w18.cell? ⟨gb223, 0, none⟩ = some (.int .i64 a1_0) ∧ w18.cell? ⟨gb223, 1, none⟩ = some (.string a1_1) ∧ w18.cell? ⟨gb223, 2, none⟩ = some (.string a1_2) ∧ w18.cell? ⟨gb223, 3, none⟩ = some (.slice A1_3 l1_3.length c1_3) := hS_
    refine norm_ (a' := ?_) ?_ ?_
    rotate_left
    ·simp only [putAll, Act.put, List.setIfInBounds_toArray, List.set_cons_zero, List.set_cons_succ]
     rfl
    refine one_ (i := 4) (N := some 9) #[true, true, true, true, true, true, false, false] rfl rfl (one_of HT_.out (by kernel_rfl)) (by decide) (fun K hK => ?_)
    refine box_step ?hg (N := 9) ?hd (cs := #[.int .i64 0, .string (⟨#[]⟩ : ByteArray), .string (⟨#[]⟩ : ByteArray), .slice none 0 0]) (t := 24) ?hr ?_; (case hd => rfl); (case hg => rfl); (case hr => first | (go_simp; done) | (go_simp; rfl))
    intro gb238 hg w19 hbox hb
    have n0_ := Aside0.mk (Kd.V_below (Kd.V_elderB (by (with_reducible repeat (first | apply va | apply vb | apply vc)); exact HO231.out) gb238 (Nat.le_of_eq hg.symm)) hb)
    have n1_ := Aside0.mk (Kd.V_below (Kd.V_elderB (by (with_reducible repeat (first | apply va | apply vb | apply vc)); exact HO237.out) gb238 (Nat.le_of_eq hg.symm)) hb)
    have n2_ := Aside0.mk (blk_below (g := gb222) (o := q0 a0_0 a0_1 a0_2 A0_3 l0_3 c0_3) (by (with_reducible repeat (first | refine kc ?_ _ | refine kb ?_ | refine ka ?_ _)); exact BK222.out) hb)
    have n3_ := Aside0.mk (blk_below (g := gb223) (o := q0 a1_0 a1_1 a1_2 A1_3 l1_3 c1_3) (by (with_reducible repeat (first | refine kc ?_ _ | refine kb ?_ | refine ka ?_ _)); exact BK223.out) hb)
    have n4_ := Aside0.mk (blk_below (g := gb224) (o := q1 a2_0 a2_1 a2_2 a2_3) (by (with_reducible repeat (first | refine kc ?_ _ | refine kb ?_ | refine ka ?_ _)); exact BK224.out) hb)
    have n5_ := Aside0.mk (blk_below (g := gb225) (o := q1 a3_0 a3_1 a3_2 a3_3) (by (with_reducible repeat (first | refine kc ?_ _ | refine kb ?_ | refine ka ?_ _)); exact BK225.out) hb)
    have n6_ := Aside0.mk (blk_below (g := gb239) (o := .cells #[.int .i64 0, .string (⟨#[]⟩ : ByteArray), .string (⟨#[]⟩ : ByteArray), .slice none 0 0] 24 (0, 0)) (by (with_reducible repeat (first | refine kc ?_ _ | refine kb ?_ | refine ka ?_ _)); exact BK239.out) hb)
    have n7_ := Aside0.mk (below_step (by repeat (first | (with_reducible first | exact HB.out | apply below_alloc | apply pw_below_drewN | apply below_drew1 | refine below_set ?_ GE222.out | refine below_set ?_ GE223.out | refine below_set ?_ GE224.out | refine below_set ?_ GE225.out | refine below_set ?_ GE239.out) | exact HB.out)) hb)
    have n8_ := Aside0.mk (hbox)
    have n9_ := Aside0.mk ((by rw [hg]; exact (below_size (by repeat (first | (with_reducible first | exact HB.out | apply below_alloc | apply pw_below_drewN | apply below_drew1 | refine below_set ?_ GE222.out | refine below_set ?_ GE223.out | refine below_set ?_ GE224.out | refine below_set ?_ GE225.out | refine below_set ?_ GE239.out) | exact HB.out))) : w.heap.size ≤ gb238))
    have n10_ := Aside0.mk ((by rw [hg]; exact (below_size (by repeat (first | (with_reducible first | exact HB.out | apply below_alloc | apply pw_below_drewN | apply below_drew1 | refine below_set ?_ GE222.out | refine below_set ?_ GE223.out | refine below_set ?_ GE224.out | refine below_set ?_ GE225.out | refine below_set ?_ GE239.out) | exact HB.out))) : w.heap.size ≤ gb238))
    have n11_ := Aside0.mk ((by rw [hg]; exact Nat.ne_of_lt (blk_lt (g := gb222) (o := q0 a0_0 a0_1 a0_2 A0_3 l0_3 c0_3) (by (with_reducible repeat (first | refine kc ?_ _ | refine kb ?_ | refine ka ?_ _)); exact BK222.out)) : gb222 ≠ gb238))
    have n12_ := Aside0.mk ((by rw [hg]; exact Nat.ne_of_gt (blk_lt (g := gb222) (o := q0 a0_0 a0_1 a0_2 A0_3 l0_3 c0_3) (by (with_reducible repeat (first | refine kc ?_ _ | refine kb ?_ | refine ka ?_ _)); exact BK222.out)) : gb238 ≠ gb222))
    have n13_ := Aside0.mk ((by rw [hg]; exact Nat.ne_of_lt (blk_lt (g := gb223) (o := q0 a1_0 a1_1 a1_2 A1_3 l1_3 c1_3) (by (with_reducible repeat (first | refine kc ?_ _ | refine kb ?_ | refine ka ?_ _)); exact BK223.out)) : gb223 ≠ gb238))
    have n14_ := Aside0.mk ((by rw [hg]; exact Nat.ne_of_gt (blk_lt (g := gb223) (o := q0 a1_0 a1_1 a1_2 A1_3 l1_3 c1_3) (by (with_reducible repeat (first | refine kc ?_ _ | refine kb ?_ | refine ka ?_ _)); exact BK223.out)) : gb238 ≠ gb223))
    have n15_ := Aside0.mk ((by rw [hg]; exact Nat.ne_of_lt (blk_lt (g := gb224) (o := q1 a2_0 a2_1 a2_2 a2_3) (by (with_reducible repeat (first | refine kc ?_ _ | refine kb ?_ | refine ka ?_ _)); exact BK224.out)) : gb224 ≠ gb238))
    have n16_ := Aside0.mk ((by rw [hg]; exact Nat.ne_of_gt (blk_lt (g := gb224) (o := q1 a2_0 a2_1 a2_2 a2_3) (by (with_reducible repeat (first | refine kc ?_ _ | refine kb ?_ | refine ka ?_ _)); exact BK224.out)) : gb238 ≠ gb224))
    have n17_ := Aside0.mk ((by rw [hg]; exact Nat.ne_of_lt (blk_lt (g := gb225) (o := q1 a3_0 a3_1 a3_2 a3_3) (by (with_reducible repeat (first | refine kc ?_ _ | refine kb ?_ | refine ka ?_ _)); exact BK225.out)) : gb225 ≠ gb238))
    have n18_ := Aside0.mk ((by rw [hg]; exact Nat.ne_of_gt (blk_lt (g := gb225) (o := q1 a3_0 a3_1 a3_2 a3_3) (by (with_reducible repeat (first | refine kc ?_ _ | refine kb ?_ | refine ka ?_ _)); exact BK225.out)) : gb238 ≠ gb225))
    have n19_ := Aside0.mk ((by rw [hg]; exact Nat.ne_of_lt (blk_lt (g := gb239) (o := .cells #[.int .i64 0, .string (⟨#[]⟩ : ByteArray), .string (⟨#[]⟩ : ByteArray), .slice none 0 0] 24 (0, 0)) (by (with_reducible repeat (first | refine kc ?_ _ | refine kb ?_ | refine ka ?_ _)); exact BK239.out)) : gb239 ≠ gb238))
    have n20_ := Aside0.mk ((by rw [hg]; exact Nat.ne_of_gt (blk_lt (g := gb239) (o := .cells #[.int .i64 0, .string (⟨#[]⟩ : ByteArray), .string (⟨#[]⟩ : ByteArray), .slice none 0 0] 24 (0, 0)) (by (with_reducible repeat (first | refine kc ?_ _ | refine kb ?_ | refine ka ?_ _)); exact BK239.out)) : gb238 ≠ gb239))
    clear HO231
    clear HO237
    clear BK222
    clear BK223
    clear BK224
    clear BK225
    clear BK239
    clear HB
    have HO231 := n0_
    have HO237 := n1_
    have BK222 := n2_
    have BK223 := n3_
    have BK224 := n4_
    have BK225 := n5_
    have BK239 := n6_
    have HB := n7_
    have BK238 := n8_
    have GW238 := n9_
    have GE238 := n10_
    have NB222_238 := n11_
    have NB238_222 := n12_
    have NB223_238 := n13_
    have NB238_223 := n14_
    have NB224_238 := n15_
    have NB238_224 := n16_
    have NB225_238 := n17_
    have NB238_225 := n18_
    have NB239_238 := n19_
    have NB238_239 := n20_
    clear n0_ n1_ n2_ n3_ n4_ n5_ n6_ n7_ n8_ n9_ n10_ n11_ n12_ n13_ n14_ n15_ n16_ n17_ n18_ n19_ n20_
    clear hb hbox hg
    refine hK.out _ _ ⟨(blk_cell BK222.out 0).trans rfl, (blk_cell BK222.out 1).trans rfl, (blk_cell BK222.out 2).trans rfl, (blk_cell BK222.out 3).trans rfl, (blk_cell BK223.out 0).trans rfl, (blk_cell BK223.out 1).trans rfl, (blk_cell BK223.out 2).trans rfl, (blk_cell BK223.out 3).trans rfl⟩ (fun hHeld => ?_)
    clear hK K
    refine norm_ (a' := ?_) ?_ ?_
    rotate_left
    ·show Act.put _ (some 9) _ = _
     simp only [Act.put, List.setIfInBounds_toArray, List.set_cons_zero, List.set_cons_succ, i64_w, i32_w]
     rfl
    exact norm_ (by first | (simp only [putAll, Act.put, List.setIfInBounds_toArray, List.set_cons_zero, List.set_cons_succ]; done) | (simp only [putAll, Act.put, List.setIfInBounds_toArray, List.set_cons_zero, List.set_cons_succ]; rfl)) (hJ1_3_4_5 (v230, v236, gb238, gb239) _ ⟨hHeld, (by (with_reducible repeat (first | apply va | apply vb | apply vc)); exact Kd.V_mono HO231.out (fun _ hk => ⟨hk.1.1, ⟨hk.1.2.1, ⟨hk.1.2.2.1, ⟨hk.1.2.2.2.1, ⟨hk.2, hk.1.2.2.2.2⟩⟩⟩⟩⟩)), (by (with_reducible repeat (first | apply va | apply vb | apply vc)); exact Kd.V_mono HO237.out (fun _ hk => ⟨hk.1.1, ⟨hk.1.2.1, ⟨hk.1.2.2.1, ⟨hk.1.2.2.2.1, ⟨hk.2, hk.1.2.2.2.2⟩⟩⟩⟩⟩)), (by (with_reducible repeat (first | refine kc ?_ _ | refine kb ?_ | refine ka ?_ _)); exact BK222.out), (by (with_reducible repeat (first | refine kc ?_ _ | refine kb ?_ | refine ka ?_ _)); exact BK223.out), (by (with_reducible repeat (first | refine kc ?_ _ | refine kb ?_ | refine ka ?_ _)); exact BK224.out), (by (with_reducible repeat (first | refine kc ?_ _ | refine kb ?_ | refine ka ?_ _)); exact BK225.out), (by (with_reducible repeat (first | refine kc ?_ _ | refine kb ?_ | refine ka ?_ _)); exact BK238.out), (by (with_reducible repeat (first | refine kc ?_ _ | refine kb ?_ | refine ka ?_ _)); exact BK239.out), GW238.out, GE238.out, NB222_238.out, NB238_222.out, NB223_238.out, NB238_223.out, NB224_238.out, NB238_224.out, NB225_238.out, NB238_225.out, NB239_238.out, NB238_239.out, GW239.out, GE239.out, NB222_239.out, NB239_222.out, NB223_239.out, NB239_223.out, NB224_239.out, NB239_224.out, NB225_239.out, NB239_225.out, (by repeat (first | (with_reducible first | exact HB.out | apply below_alloc | apply pw_below_drewN | apply below_drew1 | refine below_set ?_ GE222.out | refine below_set ?_ GE223.out | refine below_set ?_ GE224.out | refine below_set ?_ GE225.out | refine below_set ?_ GE239.out | refine below_set ?_ GE238.out) | exact HB.out))⟩)
  ·skip
   rintro ⟨v230, v236, gb238⟩ w18 ⟨hS_, h0_, h1_, h2_, h3_, h4_, h5_, h6_, h7_, h8_, h9_, h10_, h11_, h12_, h13_, h14_, h15_, h16_, h17_⟩
   have n0_ : Aside0 (Kd.V (Kd.int .i64) 3 w18 w.heap.size (fun k_ => k_ ≠ gb222 ∧ k_ ≠ gb223 ∧ k_ ≠ gb224 ∧ k_ ≠ gb225 ∧ k_ ≠ gb238) v230 t229) := ⟨h0_⟩
   have n1_ : Aside0 (Kd.V (Kd.int .i64) 3 w18 w.heap.size (fun k_ => k_ ≠ gb222 ∧ k_ ≠ gb223 ∧ k_ ≠ gb224 ∧ k_ ≠ gb225 ∧ k_ ≠ gb238) v236 t235) := ⟨h1_⟩
   have n2_ : Aside0 (w18.heap[gb222]? = some (.cells #[.int .i64 a0_0, .string a0_1, .string a0_2, .slice A0_3 l0_3.length c0_3] 24 (0, 0))) := ⟨h2_⟩
   have n3_ : Aside0 (w18.heap[gb223]? = some (.cells #[.int .i64 a1_0, .string a1_1, .string a1_2, .slice A1_3 l1_3.length c1_3] 24 (0, 0))) := ⟨h3_⟩
   have n4_ : Aside0 (w18.heap[gb224]? = some (.cells #[.int .i64 a2_0, .int .i64 a2_1, .int .i64 a2_2, .int .i64 a2_3] 27 (0, 0))) := ⟨h4_⟩
   have n5_ : Aside0 (w18.heap[gb225]? = some (.cells #[.int .i64 a3_0, .int .i64 a3_1, .int .i64 a3_2, .int .i64 a3_3] 27 (0, 0))) := ⟨h5_⟩
   have n6_ : Aside0 (w18.heap[gb238]? = some (.cells #[.int .i64 0, .string (⟨#[]⟩ : ByteArray), .string (⟨#[]⟩ : ByteArray), .slice none 0 0] 24 (0, 0))) := ⟨h6_⟩
   have n7_ : Aside0 (w.heap.size ≤ gb238) := ⟨h7_⟩
   have n8_ : Aside0 (w.heap.size ≤ gb238) := ⟨h8_⟩
   have n9_ : Aside0 (gb222 ≠ gb238) := ⟨h9_⟩
   have n10_ : Aside0 (gb238 ≠ gb222) := ⟨h10_⟩
   have n11_ : Aside0 (gb223 ≠ gb238) := ⟨h11_⟩
   have n12_ : Aside0 (gb238 ≠ gb223) := ⟨h12_⟩
   have n13_ : Aside0 (gb224 ≠ gb238) := ⟨h13_⟩
   have n14_ : Aside0 (gb238 ≠ gb224) := ⟨h14_⟩
   have n15_ : Aside0 (gb225 ≠ gb238) := ⟨h15_⟩
   have n16_ : Aside0 (gb238 ≠ gb225) := ⟨h16_⟩
   have n17_ : Aside0 (Below w.heap.size w w18) := ⟨h17_⟩
   clear BK222
   clear BK223
   clear BK224
   clear BK225
   clear HB
   clear h0_ h1_ h2_ h3_ h4_ h5_ h6_ h7_ h8_ h9_ h10_ h11_ h12_ h13_ h14_ h15_ h16_ h17_
   have HO231 := n0_
   have HO237 := n1_
   have BK222 := n2_
   have BK223 := n3_
   have BK224 := n4_
   have BK225 := n5_
   have BK238 := n6_
   have GW238 := n7_
   have GE238 := n8_
   have NB222_238 := n9_
   have NB238_222 := n10_
   have NB223_238 := n11_
   have NB238_223 := n12_
   have NB224_238 := n13_
   have NB238_224 := n14_
   have NB225_238 := n15_
   have NB238_225 := n16_
   have HB := n17_
   clear n0_ n1_ n2_ n3_ n4_ n5_ n6_ n7_ n8_ n9_ n10_ n11_ n12_ n13_ n14_ n15_ n16_ n17_
   have hHeld : w18.cell? ⟨gb222, 0, none⟩ = some (.int .i64 a0_0) ∧ w18.cell? ⟨gb222, 1, none⟩ = some (.string a0_1) ∧ w18.cell? ⟨gb222, 2, none⟩ = some (.string a0_2) ∧ w18.cell? ⟨gb222, 3, none⟩ = some (.slice A0_3 l0_3.length c0_3) ∧ w18.cell? ⟨gb223, 0, none⟩ = some (.int .i64 a1_0) ∧ w18.cell? ⟨gb223, 1, none⟩ = some (.string a1_1) ∧ w18.cell? ⟨gb223, 2, none⟩ = some (.string a1_2) ∧ w18.cell? ⟨gb223, 3, none⟩ = some (.slice A1_3 l1_3.length c1_3) := hS_
   refine norm_ (a' := ?_) ?_ ?_
   rotate_left
   ·simp only [putAll, Act.put, List.setIfInBounds_toArray, List.set_cons_zero, List.set_cons_succ]
    rfl
   refine one_ (i := 5) (N := some 10) #[true, true, true, true, true, true, false, false] rfl rfl (one_of HT_.out (by kernel_rfl)) (by decide) (fun K hK => ?_)
   refine box_step ?hg (N := 10) ?hd (cs := #[.int .i64 0, .string (⟨#[]⟩ : ByteArray), .string (⟨#[]⟩ : ByteArray), .slice none 0 0]) (t := 24) ?hr ?_; (case hd => rfl); (case hg => rfl); (case hr => first | (go_simp; done) | (go_simp; rfl))
   intro gb239 hg w19 hbox hb
   have n0_ := Aside0.mk (Kd.V_below (Kd.V_elderB (by (with_reducible repeat (first | apply va | apply vb | apply vc)); exact HO231.out) gb239 (Nat.le_of_eq hg.symm)) hb)
   have n1_ := Aside0.mk (Kd.V_below (Kd.V_elderB (by (with_reducible repeat (first | apply va | apply vb | apply vc)); exact HO237.out) gb239 (Nat.le_of_eq hg.symm)) hb)
   have n2_ := Aside0.mk (blk_below (g := gb222) (o := q0 a0_0 a0_1 a0_2 A0_3 l0_3 c0_3) (by (with_reducible repeat (first | refine kc ?_ _ | refine kb ?_ | refine ka ?_ _)); exact BK222.out) hb)
   have n3_ := Aside0.mk (blk_below (g := gb223) (o := q0 a1_0 a1_1 a1_2 A1_3 l1_3 c1_3) (by (with_reducible repeat (first | refine kc ?_ _ | refine kb ?_ | refine ka ?_ _)); exact BK223.out) hb)
   have n4_ := Aside0.mk (blk_below (g := gb224) (o := q1 a2_0 a2_1 a2_2 a2_3) (by (with_reducible repeat (first | refine kc ?_ _ | refine kb ?_ | refine ka ?_ _)); exact BK224.out) hb)
   have n5_ := Aside0.mk (blk_below (g := gb225) (o := q1 a3_0 a3_1 a3_2 a3_3) (by (with_reducible repeat (first | refine kc ?_ _ | refine kb ?_ | refine ka ?_ _)); exact BK225.out) hb)
   have n6_ := Aside0.mk (blk_below (g := gb238) (o := .cells #[.int .i64 0, .string (⟨#[]⟩ : ByteArray), .string (⟨#[]⟩ : ByteArray), .slice none 0 0] 24 (0, 0)) (by (with_reducible repeat (first | refine kc ?_ _ | refine kb ?_ | refine ka ?_ _)); exact BK238.out) hb)
   have n7_ := Aside0.mk (below_step (by repeat (first | (with_reducible first | exact HB.out | apply below_alloc | apply pw_below_drewN | apply below_drew1 | refine below_set ?_ GE222.out | refine below_set ?_ GE223.out | refine below_set ?_ GE224.out | refine below_set ?_ GE225.out | refine below_set ?_ GE238.out) | exact HB.out)) hb)
   have n8_ := Aside0.mk (hbox)
   have n9_ := Aside0.mk ((by rw [hg]; exact (below_size (by repeat (first | (with_reducible first | exact HB.out | apply below_alloc | apply pw_below_drewN | apply below_drew1 | refine below_set ?_ GE222.out | refine below_set ?_ GE223.out | refine below_set ?_ GE224.out | refine below_set ?_ GE225.out | refine below_set ?_ GE238.out) | exact HB.out))) : w.heap.size ≤ gb239))
   have n10_ := Aside0.mk ((by rw [hg]; exact (below_size (by repeat (first | (with_reducible first | exact HB.out | apply below_alloc | apply pw_below_drewN | apply below_drew1 | refine below_set ?_ GE222.out | refine below_set ?_ GE223.out | refine below_set ?_ GE224.out | refine below_set ?_ GE225.out | refine below_set ?_ GE238.out) | exact HB.out))) : w.heap.size ≤ gb239))
   have n11_ := Aside0.mk ((by rw [hg]; exact Nat.ne_of_lt (blk_lt (g := gb222) (o := q0 a0_0 a0_1 a0_2 A0_3 l0_3 c0_3) (by (with_reducible repeat (first | refine kc ?_ _ | refine kb ?_ | refine ka ?_ _)); exact BK222.out)) : gb222 ≠ gb239))
   have n12_ := Aside0.mk ((by rw [hg]; exact Nat.ne_of_gt (blk_lt (g := gb222) (o := q0 a0_0 a0_1 a0_2 A0_3 l0_3 c0_3) (by (with_reducible repeat (first | refine kc ?_ _ | refine kb ?_ | refine ka ?_ _)); exact BK222.out)) : gb239 ≠ gb222))
   have n13_ := Aside0.mk ((by rw [hg]; exact Nat.ne_of_lt (blk_lt (g := gb223) (o := q0 a1_0 a1_1 a1_2 A1_3 l1_3 c1_3) (by (with_reducible repeat (first | refine kc ?_ _ | refine kb ?_ | refine ka ?_ _)); exact BK223.out)) : gb223 ≠ gb239))
   have n14_ := Aside0.mk ((by rw [hg]; exact Nat.ne_of_gt (blk_lt (g := gb223) (o := q0 a1_0 a1_1 a1_2 A1_3 l1_3 c1_3) (by (with_reducible repeat (first | refine kc ?_ _ | refine kb ?_ | refine ka ?_ _)); exact BK223.out)) : gb239 ≠ gb223))
   have n15_ := Aside0.mk ((by rw [hg]; exact Nat.ne_of_lt (blk_lt (g := gb224) (o := q1 a2_0 a2_1 a2_2 a2_3) (by (with_reducible repeat (first | refine kc ?_ _ | refine kb ?_ | refine ka ?_ _)); exact BK224.out)) : gb224 ≠ gb239))
   have n16_ := Aside0.mk ((by rw [hg]; exact Nat.ne_of_gt (blk_lt (g := gb224) (o := q1 a2_0 a2_1 a2_2 a2_3) (by (with_reducible repeat (first | refine kc ?_ _ | refine kb ?_ | refine ka ?_ _)); exact BK224.out)) : gb239 ≠ gb224))
   have n17_ := Aside0.mk ((by rw [hg]; exact Nat.ne_of_lt (blk_lt (g := gb225) (o := q1 a3_0 a3_1 a3_2 a3_3) (by (with_reducible repeat (first | refine kc ?_ _ | refine kb ?_ | refine ka ?_ _)); exact BK225.out)) : gb225 ≠ gb239))
   have n18_ := Aside0.mk ((by rw [hg]; exact Nat.ne_of_gt (blk_lt (g := gb225) (o := q1 a3_0 a3_1 a3_2 a3_3) (by (with_reducible repeat (first | refine kc ?_ _ | refine kb ?_ | refine ka ?_ _)); exact BK225.out)) : gb239 ≠ gb225))
   have n19_ := Aside0.mk ((by rw [hg]; exact Nat.ne_of_lt (blk_lt (g := gb238) (o := .cells #[.int .i64 0, .string (⟨#[]⟩ : ByteArray), .string (⟨#[]⟩ : ByteArray), .slice none 0 0] 24 (0, 0)) (by (with_reducible repeat (first | refine kc ?_ _ | refine kb ?_ | refine ka ?_ _)); exact BK238.out)) : gb238 ≠ gb239))
   have n20_ := Aside0.mk ((by rw [hg]; exact Nat.ne_of_gt (blk_lt (g := gb238) (o := .cells #[.int .i64 0, .string (⟨#[]⟩ : ByteArray), .string (⟨#[]⟩ : ByteArray), .slice none 0 0] 24 (0, 0)) (by (with_reducible repeat (first | refine kc ?_ _ | refine kb ?_ | refine ka ?_ _)); exact BK238.out)) : gb239 ≠ gb238))
   clear HO231
   clear HO237
   clear BK222
   clear BK223
   clear BK224
   clear BK225
   clear BK238
   clear HB
   have HO231 := n0_
   have HO237 := n1_
   have BK222 := n2_
   have BK223 := n3_
   have BK224 := n4_
   have BK225 := n5_
   have BK238 := n6_
   have HB := n7_
   have BK239 := n8_
   have GW239 := n9_
   have GE239 := n10_
   have NB222_239 := n11_
   have NB239_222 := n12_
   have NB223_239 := n13_
   have NB239_223 := n14_
   have NB224_239 := n15_
   have NB239_224 := n16_
   have NB225_239 := n17_
   have NB239_225 := n18_
   have NB238_239 := n19_
   have NB239_238 := n20_
   clear n0_ n1_ n2_ n3_ n4_ n5_ n6_ n7_ n8_ n9_ n10_ n11_ n12_ n13_ n14_ n15_ n16_ n17_ n18_ n19_ n20_
   clear hb hbox hg
   refine hK.out _ _ ⟨(blk_cell BK222.out 0).trans rfl, (blk_cell BK222.out 1).trans rfl, (blk_cell BK222.out 2).trans rfl, (blk_cell BK222.out 3).trans rfl, (blk_cell BK223.out 0).trans rfl, (blk_cell BK223.out 1).trans rfl, (blk_cell BK223.out 2).trans rfl, (blk_cell BK223.out 3).trans rfl⟩ (fun hHeld => ?_)
   clear hK K
   refine norm_ (a' := ?_) ?_ ?_
   rotate_left
   ·show Act.put _ (some 10) _ = _
    simp only [Act.put, List.setIfInBounds_toArray, List.set_cons_zero, List.set_cons_succ, i64_w, i32_w]
    rfl
   exact norm_ (by first | (simp only [putAll, Act.put, List.setIfInBounds_toArray, List.set_cons_zero, List.set_cons_succ]; done) | (simp only [putAll, Act.put, List.setIfInBounds_toArray, List.set_cons_zero, List.set_cons_succ]; rfl)) (hJ1_3_4_5 (v230, v236, gb238, gb239) _ ⟨hHeld, (by (with_reducible repeat (first | apply va | apply vb | apply vc)); exact Kd.V_mono HO231.out (fun _ hk => ⟨hk.1.1, ⟨hk.1.2.1, ⟨hk.1.2.2.1, ⟨hk.1.2.2.2.1, ⟨hk.1.2.2.2.2, hk.2⟩⟩⟩⟩⟩)), (by (with_reducible repeat (first | apply va | apply vb | apply vc)); exact Kd.V_mono HO237.out (fun _ hk => ⟨hk.1.1, ⟨hk.1.2.1, ⟨hk.1.2.2.1, ⟨hk.1.2.2.2.1, ⟨hk.1.2.2.2.2, hk.2⟩⟩⟩⟩⟩)), (by (with_reducible repeat (first | refine kc ?_ _ | refine kb ?_ | refine ka ?_ _)); exact BK222.out), (by (with_reducible repeat (first | refine kc ?_ _ | refine kb ?_ | refine ka ?_ _)); exact BK223.out), (by (with_reducible repeat (first | refine kc ?_ _ | refine kb ?_ | refine ka ?_ _)); exact BK224.out), (by (with_reducible repeat (first | refine kc ?_ _ | refine kb ?_ | refine ka ?_ _)); exact BK225.out), (by (with_reducible repeat (first | refine kc ?_ _ | refine kb ?_ | refine ka ?_ _)); exact BK238.out), (by (with_reducible repeat (first | refine kc ?_ _ | refine kb ?_ | refine ka ?_ _)); exact BK239.out), GW238.out, GE238.out, NB222_238.out, NB238_222.out, NB223_238.out, NB238_223.out, NB224_238.out, NB238_224.out, NB225_238.out, NB238_225.out, NB239_238.out, NB238_239.out, GW239.out, GE239.out, NB222_239.out, NB239_222.out, NB223_239.out, NB239_223.out, NB224_239.out, NB239_224.out, NB225_239.out, NB239_225.out, (by repeat (first | (with_reducible first | exact HB.out | apply below_alloc | apply pw_below_drewN | apply below_drew1 | refine below_set ?_ GE222.out | refine below_set ?_ GE223.out | refine below_set ?_ GE224.out | refine below_set ?_ GE225.out | refine below_set ?_ GE238.out | refine below_set ?_ GE239.out) | exact HB.out))⟩)
 rintro ⟨v230, v236, gb238, gb239⟩ w19 ⟨hS_, h0_, h1_, h2_, h3_, h4_, h5_, h6_, h7_, h8_, h9_, h10_, h11_, h12_, h13_, h14_, h15_, h16_, h17_, h18_, h19_, h20_, h21_, h22_, h23_, h24_, h25_, h26_, h27_, h28_, h29_, h30_⟩
 have n0_ : Aside0 (Kd.V (Kd.int .i64) 3 w19 w.heap.size (fun k_ => k_ ≠ gb222 ∧ k_ ≠ gb223 ∧ k_ ≠ gb224 ∧ k_ ≠ gb225 ∧ k_ ≠ gb238 ∧ k_ ≠ gb239) v230 t229) := ⟨h0_⟩
 have n1_ : Aside0 (Kd.V (Kd.int .i64) 3 w19 w.heap.size (fun k_ => k_ ≠ gb222 ∧ k_ ≠ gb223 ∧ k_ ≠ gb224 ∧ k_ ≠ gb225 ∧ k_ ≠ gb238 ∧ k_ ≠ gb239) v236 t235) := ⟨h1_⟩
 have n2_ : Aside0 (w19.heap[gb222]? = some (.cells #[.int .i64 a0_0, .string a0_1, .string a0_2, .slice A0_3 l0_3.length c0_3] 24 (0, 0))) := ⟨h2_⟩
 have n3_ : Aside0 (w19.heap[gb223]? = some (.cells #[.int .i64 a1_0, .string a1_1, .string a1_2, .slice A1_3 l1_3.length c1_3] 24 (0, 0))) := ⟨h3_⟩
 have n4_ : Aside0 (w19.heap[gb224]? = some (.cells #[.int .i64 a2_0, .int .i64 a2_1, .int .i64 a2_2, .int .i64 a2_3] 27 (0, 0))) := ⟨h4_⟩
 have n5_ : Aside0 (w19.heap[gb225]? = some (.cells #[.int .i64 a3_0, .int .i64 a3_1, .int .i64 a3_2, .int .i64 a3_3] 27 (0, 0))) := ⟨h5_⟩
 have n6_ : Aside0 (w19.heap[gb238]? = some (.cells #[.int .i64 0, .string (⟨#[]⟩ : ByteArray), .string (⟨#[]⟩ : ByteArray), .slice none 0 0] 24 (0, 0))) := ⟨h6_⟩
 have n7_ : Aside0 (w19.heap[gb239]? = some (.cells #[.int .i64 0, .string (⟨#[]⟩ : ByteArray), .string (⟨#[]⟩ : ByteArray), .slice none 0 0] 24 (0, 0))) := ⟨h7_⟩
 have n8_ : Aside0 (w.heap.size ≤ gb238) := ⟨h8_⟩
 have n9_ : Aside0 (w.heap.size ≤ gb238) := ⟨h9_⟩
 have n10_ : Aside0 (gb222 ≠ gb238) := ⟨h10_⟩
 have n11_ : Aside0 (gb238 ≠ gb222) := ⟨h11_⟩
 have n12_ : Aside0 (gb223 ≠ gb238) := ⟨h12_⟩
 have n13_ : Aside0 (gb238 ≠ gb223) := ⟨h13_⟩
 have n14_ : Aside0 (gb224 ≠ gb238) := ⟨h14_⟩
 have n15_ : Aside0 (gb238 ≠ gb224) := ⟨h15_⟩
 have n16_ : Aside0 (gb225 ≠ gb238) := ⟨h16_⟩
 have n17_ : Aside0 (gb238 ≠ gb225) := ⟨h17_⟩
 have n18_ : Aside0 (gb239 ≠ gb238) := ⟨h18_⟩
 have n19_ : Aside0 (gb238 ≠ gb239) := ⟨h19_⟩
 have n20_ : Aside0 (w.heap.size ≤ gb239) := ⟨h20_⟩
 have n21_ : Aside0 (w.heap.size ≤ gb239) := ⟨h21_⟩
 have n22_ : Aside0 (gb222 ≠ gb239) := ⟨h22_⟩
 have n23_ : Aside0 (gb239 ≠ gb222) := ⟨h23_⟩
 have n24_ : Aside0 (gb223 ≠ gb239) := ⟨h24_⟩
 have n25_ : Aside0 (gb239 ≠ gb223) := ⟨h25_⟩
 have n26_ : Aside0 (gb224 ≠ gb239) := ⟨h26_⟩
 have n27_ : Aside0 (gb239 ≠ gb224) := ⟨h27_⟩
 have n28_ : Aside0 (gb225 ≠ gb239) := ⟨h28_⟩
 have n29_ : Aside0 (gb239 ≠ gb225) := ⟨h29_⟩
 have n30_ : Aside0 (Below w.heap.size w w19) := ⟨h30_⟩
 clear BK222
 clear BK223
 clear BK224
 clear BK225
 clear HB
 clear h0_ h1_ h2_ h3_ h4_ h5_ h6_ h7_ h8_ h9_ h10_ h11_ h12_ h13_ h14_ h15_ h16_ h17_ h18_ h19_ h20_ h21_ h22_ h23_ h24_ h25_ h26_ h27_ h28_ h29_ h30_
 have HO231 := n0_
 have HO237 := n1_
 have BK222 := n2_
 have BK223 := n3_
 have BK224 := n4_
 have BK225 := n5_
 have BK238 := n6_
 have BK239 := n7_
 have GW238 := n8_
 have GE238 := n9_
 have NB222_238 := n10_
 have NB238_222 := n11_
 have NB223_238 := n12_
 have NB238_223 := n13_
 have NB224_238 := n14_
 have NB238_224 := n15_
 have NB225_238 := n16_
 have NB238_225 := n17_
 have NB239_238 := n18_
 have NB238_239 := n19_
 have GW239 := n20_
 have GE239 := n21_
 have NB222_239 := n22_
 have NB239_222 := n23_
 have NB223_239 := n24_
 have NB239_223 := n25_
 have NB224_239 := n26_
 have NB239_224 := n27_
 have NB225_239 := n28_
 have NB239_225 := n29_
 have HB := n30_
 clear n0_ n1_ n2_ n3_ n4_ n5_ n6_ n7_ n8_ n9_ n10_ n11_ n12_ n13_ n14_ n15_ n16_ n17_ n18_ n19_ n20_ n21_ n22_ n23_ n24_ n25_ n26_ n27_ n28_ n29_ n30_
 have hHeld : w19.cell? ⟨gb222, 0, none⟩ = some (.int .i64 a0_0) ∧ w19.cell? ⟨gb222, 1, none⟩ = some (.string a0_1) ∧ w19.cell? ⟨gb222, 2, none⟩ = some (.string a0_2) ∧ w19.cell? ⟨gb222, 3, none⟩ = some (.slice A0_3 l0_3.length c0_3) ∧ w19.cell? ⟨gb223, 0, none⟩ = some (.int .i64 a1_0) ∧ w19.cell? ⟨gb223, 1, none⟩ = some (.string a1_1) ∧ w19.cell? ⟨gb223, 2, none⟩ = some (.string a1_2) ∧ w19.cell? ⟨gb223, 3, none⟩ = some (.slice A1_3 l1_3.length c1_3) := hS_
 obtain ⟨Ao23, co23, eo23⟩ := Kd.V_slice HO231.out
 (first | subst eo23 | (injection eo23 with f1_ f2_ f3_; have f4_ := f1_.symm; have f5_ := f3_.symm; clear f1_ f2_ f3_; subst f4_; subst f5_))
 obtain ⟨Ao28, co28, eo28⟩ := Kd.V_slice HO237.out
 (first | subst eo28 | (injection eo28 with f1_ f2_ f3_; have f4_ := f1_.symm; have f5_ := f3_.symm; clear f1_ f2_ f3_; subst f4_; subst f5_))
 refine norm_ (a' := ?_) ?_ ?_
 rotate_left
 ·simp only [putAll, Act.put, List.setIfInBounds_toArray, List.set_cons_zero, List.set_cons_succ]
  rfl
 refine one_ (i := 6) (N := none) #[true, true, true, true, true, true, true, false] rfl rfl (one_of HT_.out (by kernel_rfl)) (by decide) (fun K hK => ?_)
 have hs20 : w19.cell? ⟨gb238, 0, none⟩ = some (.int .i64 0) := (blk_cell BK238.out 0).trans rfl
 have hfs20 := blk_frozen BK238.out 0
 have hns20_0 := NB222_238.out
 have hns20_1 := NB223_238.out
 have hns20_2 := NB224_238.out
 have hns20_3 := NB225_238.out
 have hns20_5 := NB239_238.out
 have hms20_0 := NB238_222.out
 have hms20_1 := NB238_223.out
 have hms20_2 := NB238_224.out
 have hms20_3 := NB238_225.out
 have hms20_5 := NB238_239.out
 have hs21 : w19.cell? ⟨gb238, 1, none⟩ = some (.string (⟨#[]⟩ : ByteArray)) := (blk_cell BK238.out 1).trans rfl
 have hfs21 := blk_frozen BK238.out 1
 have hns21_0 := NB222_238.out
 have hns21_1 := NB223_238.out
 have hns21_2 := NB224_238.out
 have hns21_3 := NB225_238.out
 have hns21_5 := NB239_238.out
 have hms21_0 := NB238_222.out
 have hms21_1 := NB238_223.out
 have hms21_2 := NB238_224.out
 have hms21_3 := NB238_225.out
 have hms21_5 := NB238_239.out
 have hs22 : w19.cell? ⟨gb238, 2, none⟩ = some (.string (⟨#[]⟩ : ByteArray)) := (blk_cell BK238.out 2).trans rfl
 have hfs22 := blk_frozen BK238.out 2
 have hns22_0 := NB222_238.out
 have hns22_1 := NB223_238.out
 have hns22_2 := NB224_238.out
 have hns22_3 := NB225_238.out
 have hns22_5 := NB239_238.out
 have hms22_0 := NB238_222.out
 have hms22_1 := NB238_223.out
 have hms22_2 := NB238_224.out
 have hms22_3 := NB238_225.out
 have hms22_5 := NB238_239.out
 have hs24 : w19.cell? ⟨gb238, 3, none⟩ = some (.slice none 0 0) := (blk_cell BK238.out 3).trans rfl
 have hfs24 := blk_frozen BK238.out 3
 have hns24_0 := NB222_238.out
 have hns24_1 := NB223_238.out
 have hns24_2 := NB224_238.out
 have hns24_3 := NB225_238.out
 have hns24_5 := NB239_238.out
 have hms24_0 := NB238_222.out
 have hms24_1 := NB238_223.out
 have hms24_2 := NB238_224.out
 have hms24_3 := NB238_225.out
 have hms24_5 := NB238_239.out
 refine skip_ (w1 := ?_) (by rfl) rfl ?_ ?_
 rotate_left
 ·go_simp
  rfl
 refine hK.out _ _ ⟨((cell_far (p := ⟨gb238, _, none⟩) NB222_238.out _).trans (((cell_far (p := ⟨gb238, _, none⟩) NB222_238.out _).trans (((cell_far (p := ⟨gb238, _, none⟩) NB222_238.out _).trans (((cell_far (p := ⟨gb238, _, none⟩) NB222_238.out _).trans (hHeld.1)))))))), ((cell_far (p := ⟨gb238, _, none⟩) NB222_238.out _).trans (((cell_far (p := ⟨gb238, _, none⟩) NB222_238.out _).trans (((cell_far (p := ⟨gb238, _, none⟩) NB222_238.out _).trans (((cell_far (p := ⟨gb238, _, none⟩) NB222_238.out _).trans (hHeld.2.1)))))))), ((cell_far (p := ⟨gb238, _, none⟩) NB222_238.out _).trans (((cell_far (p := ⟨gb238, _, none⟩) NB222_238.out _).trans (((cell_far (p := ⟨gb238, _, none⟩) NB222_238.out _).trans (((cell_far (p := ⟨gb238, _, none⟩) NB222_238.out _).trans (hHeld.2.2.1)))))))), ((cell_far (p := ⟨gb238, _, none⟩) NB222_238.out _).trans (((cell_far (p := ⟨gb238, _, none⟩) NB222_238.out _).trans (((cell_far (p := ⟨gb238, _, none⟩) NB222_238.out _).trans (((cell_far (p := ⟨gb238, _, none⟩) NB222_238.out _).trans (hHeld.2.2.2.1)))))))), ((cell_far (p := ⟨gb238, _, none⟩) NB223_238.out _).trans (((cell_far (p := ⟨gb238, _, none⟩) NB223_238.out _).trans (((cell_far (p := ⟨gb238, _, none⟩) NB223_238.out _).trans (((cell_far (p := ⟨gb238, _, none⟩) NB223_238.out _).trans (hHeld.2.2.2.2.1)))))))), ((cell_far (p := ⟨gb238, _, none⟩) NB223_238.out _).trans (((cell_far (p := ⟨gb238, _, none⟩) NB223_238.out _).trans (((cell_far (p := ⟨gb238, _, none⟩) NB223_238.out _).trans (((cell_far (p := ⟨gb238, _, none⟩) NB223_238.out _).trans (hHeld.2.2.2.2.2.1)))))))), ((cell_far (p := ⟨gb238, _, none⟩) NB223_238.out _).trans (((cell_far (p := ⟨gb238, _, none⟩) NB223_238.out _).trans (((cell_far (p := ⟨gb238, _, none⟩) NB223_238.out _).trans (((cell_far (p := ⟨gb238, _, none⟩) NB223_238.out _).trans (hHeld.2.2.2.2.2.2.1)))))))), ((cell_far (p := ⟨gb238, _, none⟩) NB223_238.out _).trans (((cell_far (p := ⟨gb238, _, none⟩) NB223_238.out _).trans (((cell_far (p := ⟨gb238, _, none⟩) NB223_238.out _).trans (((cell_far (p := ⟨gb238, _, none⟩) NB223_238.out _).trans (hHeld.2.2.2.2.2.2.2))))))))⟩ (fun hHeld => ?_)
 clear hK K
 refine one_ (i := 7) (N := none) #[true, true, true, true, true, true, true, true] rfl rfl (one_of HT_.out (by kernel_rfl)) (by decide) (fun K hK => ?_)
 have hs25 : w19.cell? ⟨gb239, 0, none⟩ = some (.int .i64 0) := (blk_cell BK239.out 0).trans rfl
 have hfs25 := blk_frozen BK239.out 0
 have hns25_0 := NB222_239.out
 have hns25_1 := NB223_239.out
 have hns25_2 := NB224_239.out
 have hns25_3 := NB225_239.out
 have hns25_4 := NB238_239.out
 have hms25_0 := NB239_222.out
 have hms25_1 := NB239_223.out
 have hms25_2 := NB239_224.out
 have hms25_3 := NB239_225.out
 have hms25_4 := NB239_238.out
 have hs26 : w19.cell? ⟨gb239, 1, none⟩ = some (.string (⟨#[]⟩ : ByteArray)) := (blk_cell BK239.out 1).trans rfl
 have hfs26 := blk_frozen BK239.out 1
 have hns26_0 := NB222_239.out
 have hns26_1 := NB223_239.out
 have hns26_2 := NB224_239.out
 have hns26_3 := NB225_239.out
 have hns26_4 := NB238_239.out
 have hms26_0 := NB239_222.out
 have hms26_1 := NB239_223.out
 have hms26_2 := NB239_224.out
 have hms26_3 := NB239_225.out
 have hms26_4 := NB239_238.out
 have hs27 : w19.cell? ⟨gb239, 2, none⟩ = some (.string (⟨#[]⟩ : ByteArray)) := (blk_cell BK239.out 2).trans rfl
 have hfs27 := blk_frozen BK239.out 2
 have hns27_0 := NB222_239.out
 have hns27_1 := NB223_239.out
 have hns27_2 := NB224_239.out
 have hns27_3 := NB225_239.out
 have hns27_4 := NB238_239.out
 have hms27_0 := NB239_222.out
 have hms27_1 := NB239_223.out
 have hms27_2 := NB239_224.out
 have hms27_3 := NB239_225.out
 have hms27_4 := NB239_238.out
 have hs29 : w19.cell? ⟨gb239, 3, none⟩ = some (.slice none 0 0) := (blk_cell BK239.out 3).trans rfl
 have hfs29 := blk_frozen BK239.out 3
 have hns29_0 := NB222_239.out
 have hns29_1 := NB223_239.out
 have hns29_2 := NB224_239.out
 have hns29_3 := NB225_239.out
 have hns29_4 := NB238_239.out
 have hms29_0 := NB239_222.out
 have hms29_1 := NB239_223.out
 have hms29_2 := NB239_224.out
 have hms29_3 := NB239_225.out
 have hms29_4 := NB239_238.out
 refine skip_ (w1 := ?_) (by rfl) rfl ?_ ?_
 rotate_left
 ·go_simp
  rfl
 refine hK.out _ _ ⟨((cell_far (p := ⟨gb239, _, none⟩) NB222_239.out _).trans (((cell_far (p := ⟨gb239, _, none⟩) NB222_239.out _).trans (((cell_far (p := ⟨gb239, _, none⟩) NB222_239.out _).trans (((cell_far (p := ⟨gb239, _, none⟩) NB222_239.out _).trans (hHeld.1)))))))), ((cell_far (p := ⟨gb239, _, none⟩) NB222_239.out _).trans (((cell_far (p := ⟨gb239, _, none⟩) NB222_239.out _).trans (((cell_far (p := ⟨gb239, _, none⟩) NB222_239.out _).trans (((cell_far (p := ⟨gb239, _, none⟩) NB222_239.out _).trans (hHeld.2.1)))))))), ((cell_far (p := ⟨gb239, _, none⟩) NB222_239.out _).trans (((cell_far (p := ⟨gb239, _, none⟩) NB222_239.out _).trans (((cell_far (p := ⟨gb239, _, none⟩) NB222_239.out _).trans (((cell_far (p := ⟨gb239, _, none⟩) NB222_239.out _).trans (hHeld.2.2.1)))))))), ((cell_far (p := ⟨gb239, _, none⟩) NB222_239.out _).trans (((cell_far (p := ⟨gb239, _, none⟩) NB222_239.out _).trans (((cell_far (p := ⟨gb239, _, none⟩) NB222_239.out _).trans (((cell_far (p := ⟨gb239, _, none⟩) NB222_239.out _).trans (hHeld.2.2.2.1)))))))), ((cell_far (p := ⟨gb239, _, none⟩) NB223_239.out _).trans (((cell_far (p := ⟨gb239, _, none⟩) NB223_239.out _).trans (((cell_far (p := ⟨gb239, _, none⟩) NB223_239.out _).trans (((cell_far (p := ⟨gb239, _, none⟩) NB223_239.out _).trans (hHeld.2.2.2.2.1)))))))), ((cell_far (p := ⟨gb239, _, none⟩) NB223_239.out _).trans (((cell_far (p := ⟨gb239, _, none⟩) NB223_239.out _).trans (((cell_far (p := ⟨gb239, _, none⟩) NB223_239.out _).trans (((cell_far (p := ⟨gb239, _, none⟩) NB223_239.out _).trans (hHeld.2.2.2.2.2.1)))))))), ((cell_far (p := ⟨gb239, _, none⟩) NB223_239.out _).trans (((cell_far (p := ⟨gb239, _, none⟩) NB223_239.out _).trans (((cell_far (p := ⟨gb239, _, none⟩) NB223_239.out _).trans (((cell_far (p := ⟨gb239, _, none⟩) NB223_239.out _).trans (hHeld.2.2.2.2.2.2.1)))))))), ((cell_far (p := ⟨gb239, _, none⟩) NB223_239.out _).trans (((cell_far (p := ⟨gb239, _, none⟩) NB223_239.out _).trans (((cell_far (p := ⟨gb239, _, none⟩) NB223_239.out _).trans (((cell_far (p := ⟨gb239, _, none⟩) NB223_239.out _).trans (hHeld.2.2.2.2.2.2.2))))))))⟩ (fun hHeld => ?_)
 clear hK K
 refine done_ (done_of HT_.out (by kernel_rfl)) ?_
 have hnb30 := NB238_222.out
 have hnc30 := NB222_238.out
 have hnb31 := NB238_223.out
 have hnc31 := NB223_238.out
 have hnb32 := NB238_224.out
 have hnc32 := NB224_238.out
 have hnb33 := NB238_225.out
 have hnc33 := NB225_238.out
 have hnb34 := NB238_239.out
 have hnc34 := NB239_238.out
 have hcz35_0 : w19.cell? ⟨gb238, 0, none⟩ = some (.int .i64 0) := (blk_cell BK238.out 0).trans rfl
 have hcz35_1 : w19.cell? ⟨gb238, 1, none⟩ = some (.string (⟨#[]⟩ : ByteArray)) := (blk_cell BK238.out 1).trans rfl
 have hcz35_2 : w19.cell? ⟨gb238, 2, none⟩ = some (.string (⟨#[]⟩ : ByteArray)) := (blk_cell BK238.out 2).trans rfl
 have hcz35_3 : w19.cell? ⟨gb238, 3, none⟩ = some (.slice none 0 0) := (blk_cell BK238.out 3).trans rfl
 have hfz35_0 := blk_frozen BK238.out 0
 have hfz35_1 := blk_frozen BK238.out 1
 have hfz35_2 := blk_frozen BK238.out 2
 have hfz35_3 := blk_frozen BK238.out 3
 go_upto_region 4 with (first | ((with_reducible refine gate_callee (f := 12) rfl ?_); refine goesL_ (some 21) rfl rfl Tryd.func12 (by kernel_rfl) rfl #[.agg #[.int .i64 t226, .string t227, .string t228, .slice Ao23 t229.length co23]] rfl (by (try simp only [List.map_toArray, List.map_cons, List.map_nil]); first | done | rfl) ?_; (with_reducible refine (line_Print.calls k t226 t227 t228 _ _ t229 t240 t241 _ ?side1 ?side2 A7.out (XTabs.Tabs.below HT.out (by repeat (first | (with_reducible first | exact HB.out | exact FB.out | exact HB | apply below_alloc | apply pw_below_drewN | apply below_drew1 | refine below_set ?_ (Aside0.out (by assumption))) | exact HB.out | exact FB.out)))).mono ?_); (case side1 => refine (Kd.V_reads' (e := 3) (base := w.heap.size) (ok := fun k_ => (k_ ≠ gb222 ∧ (k_ ≠ gb223 ∧ (k_ ≠ gb224 ∧ (k_ ≠ gb225 ∧ (k_ ≠ gb238 ∧ k_ ≠ gb239)))))) (n := t229.length) (c := co23) ?_).2.2; exact (by (with_reducible repeat (first | apply va | apply vb | apply vc)); exact (Kd.V_mono (Kd.V_mono (Kd.V_far (p := ⟨gb239, 3, none⟩) (Kd.V_far (p := ⟨gb239, 2, none⟩) (Kd.V_far (p := ⟨gb239, 1, none⟩) (Kd.V_far (p := ⟨gb239, 0, none⟩) (Kd.V_far (p := ⟨gb238, 3, none⟩) (Kd.V_far (p := ⟨gb238, 2, none⟩) (Kd.V_far (p := ⟨gb238, 1, none⟩) (Kd.V_far (p := ⟨gb238, 0, none⟩) (Kd.V_mono (Kd.V_mono HO231.out (fun k_ hk => (⟨hk, hk.2.2.2.2.1⟩ : _ ∧ k_ ≠ gb238))) (fun k_ hk => (⟨hk, hk.1.2.2.2.2.2⟩ : _ ∧ k_ ≠ gb239))) (fun _ hk => hk.1.2) (.int .i64 t226)) (fun _ hk => hk.1.2) (.string t227)) (fun _ hk => hk.1.2) (.string t228)) (fun _ hk => hk.1.2) (.slice Ao23 t229.length co23)) (fun _ hk => hk.2) (.int .i64 t232)) (fun _ hk => hk.2) (.string t233)) (fun _ hk => hk.2) (.string t234)) (fun _ hk => hk.2) (.slice Ao28 t235.length co28)) (fun _ h_ => h_.1)) (fun _ h_ => h_.1)))); (case side2 => exact (Kd.V_reads' HO231.out).2.1); rintro e w36 ⟨rfl, hb⟩; refine ⟨_, rfl, ?_⟩; have n0_ := Aside0.mk (Kd.V_below (by (with_reducible repeat (first | apply va | apply vb | apply vc)); exact (Kd.V_mono (Kd.V_mono (Kd.V_far (p := ⟨gb239, 3, none⟩) (Kd.V_far (p := ⟨gb239, 2, none⟩) (Kd.V_far (p := ⟨gb239, 1, none⟩) (Kd.V_far (p := ⟨gb239, 0, none⟩) (Kd.V_far (p := ⟨gb238, 3, none⟩) (Kd.V_far (p := ⟨gb238, 2, none⟩) (Kd.V_far (p := ⟨gb238, 1, none⟩) (Kd.V_far (p := ⟨gb238, 0, none⟩) (Kd.V_mono (Kd.V_mono HO231.out (fun k_ hk => (⟨hk, hk.2.2.2.2.1⟩ : _ ∧ k_ ≠ gb238))) (fun k_ hk => (⟨hk, hk.1.2.2.2.2.2⟩ : _ ∧ k_ ≠ gb239))) (fun _ hk => hk.1.2) (.int .i64 t226)) (fun _ hk => hk.1.2) (.string t227)) (fun _ hk => hk.1.2) (.string t228)) (fun _ hk => hk.1.2) (.slice Ao23 t229.length co23)) (fun _ hk => hk.2) (.int .i64 t232)) (fun _ hk => hk.2) (.string t233)) (fun _ hk => hk.2) (.string t234)) (fun _ hk => hk.2) (.slice Ao28 t235.length co28)) (fun _ h_ => h_.1)) (fun _ h_ => h_.1))) hb); have n1_ := Aside0.mk (Kd.V_below (by (with_reducible repeat (first | apply va | apply vb | apply vc)); exact (Kd.V_mono (Kd.V_mono (Kd.V_far (p := ⟨gb239, 3, none⟩) (Kd.V_far (p := ⟨gb239, 2, none⟩) (Kd.V_far (p := ⟨gb239, 1, none⟩) (Kd.V_far (p := ⟨gb239, 0, none⟩) (Kd.V_far (p := ⟨gb238, 3, none⟩) (Kd.V_far (p := ⟨gb238, 2, none⟩) (Kd.V_far (p := ⟨gb238, 1, none⟩) (Kd.V_far (p := ⟨gb238, 0, none⟩) (Kd.V_mono (Kd.V_mono HO237.out (fun k_ hk => (⟨hk, hk.2.2.2.2.1⟩ : _ ∧ k_ ≠ gb238))) (fun k_ hk => (⟨hk, hk.1.2.2.2.2.2⟩ : _ ∧ k_ ≠ gb239))) (fun _ hk => hk.1.2) (.int .i64 t226)) (fun _ hk => hk.1.2) (.string t227)) (fun _ hk => hk.1.2) (.string t228)) (fun _ hk => hk.1.2) (.slice Ao23 t229.length co23)) (fun _ hk => hk.2) (.int .i64 t232)) (fun _ hk => hk.2) (.string t233)) (fun _ hk => hk.2) (.string t234)) (fun _ hk => hk.2) (.slice Ao28 t235.length co28)) (fun _ h_ => h_.1)) (fun _ h_ => h_.1))) hb); have n2_ := Aside0.mk (blk_below (g := gb222) (o := q0 a0_0 a0_1 a0_2 A0_3 l0_3 c0_3) (by (with_reducible repeat (first | refine kc ?_ _ | refine kb ?_ | refine ka ?_ _)); refine blk_far ?_ NB222_239.out _; (with_reducible repeat (first | refine kc ?_ _ | refine kb ?_ | refine ka ?_ _)); refine blk_far ?_ NB222_239.out _; (with_reducible repeat (first | refine kc ?_ _ | refine kb ?_ | refine ka ?_ _)); refine blk_far ?_ NB222_239.out _; (with_reducible repeat (first | refine kc ?_ _ | refine kb ?_ | refine ka ?_ _)); refine blk_far ?_ NB222_239.out _; (with_reducible repeat (first | refine kc ?_ _ | refine kb ?_ | refine ka ?_ _)); refine blk_far ?_ NB222_238.out _; (with_reducible repeat (first | refine kc ?_ _ | refine kb ?_ | refine ka ?_ _)); refine blk_far ?_ NB222_238.out _; (with_reducible repeat (first | refine kc ?_ _ | refine kb ?_ | refine ka ?_ _)); refine blk_far ?_ NB222_238.out _; (with_reducible repeat (first | refine kc ?_ _ | refine kb ?_ | refine ka ?_ _)); refine blk_far ?_ NB222_238.out _; (with_reducible repeat (first | refine kc ?_ _ | refine kb ?_ | refine ka ?_ _)); exact BK222.out) hb); have n3_ := Aside0.mk (blk_below (g := gb223) (o := q0 a1_0 a1_1 a1_2 A1_3 l1_3 c1_3) (by (with_reducible repeat (first | refine kc ?_ _ | refine kb ?_ | refine ka ?_ _)); refine blk_far ?_ NB223_239.out _; (with_reducible repeat (first | refine kc ?_ _ | refine kb ?_ | refine ka ?_ _)); refine blk_far ?_ NB223_239.out _; (with_reducible repeat (first | refine kc ?_ _ | refine kb ?_ | refine ka ?_ _)); refine blk_far ?_ NB223_239.out _; (with_reducible repeat (first | refine kc ?_ _ | refine kb ?_ | refine ka ?_ _)); refine blk_far ?_ NB223_239.out _; (with_reducible repeat (first | refine kc ?_ _ | refine kb ?_ | refine ka ?_ _)); refine blk_far ?_ NB223_238.out _; (with_reducible repeat (first | refine kc ?_ _ | refine kb ?_ | refine ka ?_ _)); refine blk_far ?_ NB223_238.out _; (with_reducible repeat (first | refine kc ?_ _ | refine kb ?_ | refine ka ?_ _)); refine blk_far ?_ NB223_238.out _; (with_reducible repeat (first | refine kc ?_ _ | refine kb ?_ | refine ka ?_ _)); refine blk_far ?_ NB223_238.out _; (with_reducible repeat (first | refine kc ?_ _ | refine kb ?_ | refine ka ?_ _)); exact BK223.out) hb); have n4_ := Aside0.mk (blk_below (g := gb224) (o := q1 a2_0 a2_1 a2_2 a2_3) (by (with_reducible repeat (first | refine kc ?_ _ | refine kb ?_ | refine ka ?_ _)); refine blk_far ?_ NB224_239.out _; (with_reducible repeat (first | refine kc ?_ _ | refine kb ?_ | refine ka ?_ _)); refine blk_far ?_ NB224_239.out _; (with_reducible repeat (first | refine kc ?_ _ | refine kb ?_ | refine ka ?_ _)); refine blk_far ?_ NB224_239.out _; (with_reducible repeat (first | refine kc ?_ _ | refine kb ?_ | refine ka ?_ _)); refine blk_far ?_ NB224_239.out _; (with_reducible repeat (first | refine kc ?_ _ | refine kb ?_ | refine ka ?_ _)); refine blk_far ?_ NB224_238.out _; (with_reducible repeat (first | refine kc ?_ _ | refine kb ?_ | refine ka ?_ _)); refine blk_far ?_ NB224_238.out _; (with_reducible repeat (first | refine kc ?_ _ | refine kb ?_ | refine ka ?_ _)); refine blk_far ?_ NB224_238.out _; (with_reducible repeat (first | refine kc ?_ _ | refine kb ?_ | refine ka ?_ _)); refine blk_far ?_ NB224_238.out _; (with_reducible repeat (first | refine kc ?_ _ | refine kb ?_ | refine ka ?_ _)); exact BK224.out) hb); have n5_ := Aside0.mk (blk_below (g := gb225) (o := q1 a3_0 a3_1 a3_2 a3_3) (by (with_reducible repeat (first | refine kc ?_ _ | refine kb ?_ | refine ka ?_ _)); refine blk_far ?_ NB225_239.out _; (with_reducible repeat (first | refine kc ?_ _ | refine kb ?_ | refine ka ?_ _)); refine blk_far ?_ NB225_239.out _; (with_reducible repeat (first | refine kc ?_ _ | refine kb ?_ | refine ka ?_ _)); refine blk_far ?_ NB225_239.out _; (with_reducible repeat (first | refine kc ?_ _ | refine kb ?_ | refine ka ?_ _)); refine blk_far ?_ NB225_239.out _; (with_reducible repeat (first | refine kc ?_ _ | refine kb ?_ | refine ka ?_ _)); refine blk_far ?_ NB225_238.out _; (with_reducible repeat (first | refine kc ?_ _ | refine kb ?_ | refine ka ?_ _)); refine blk_far ?_ NB225_238.out _; (with_reducible repeat (first | refine kc ?_ _ | refine kb ?_ | refine ka ?_ _)); refine blk_far ?_ NB225_238.out _; (with_reducible repeat (first | refine kc ?_ _ | refine kb ?_ | refine ka ?_ _)); refine blk_far ?_ NB225_238.out _; (with_reducible repeat (first | refine kc ?_ _ | refine kb ?_ | refine ka ?_ _)); exact BK225.out) hb); have n6_ := Aside0.mk (blk_below (g := gb238) (o := q0 t226 t227 t228 Ao23 t229 co23) (by (with_reducible repeat (first | refine kc ?_ _ | refine kb ?_ | refine ka ?_ _)); refine blk_far ?_ NB238_239.out _; (with_reducible repeat (first | refine kc ?_ _ | refine kb ?_ | refine ka ?_ _)); refine blk_far ?_ NB238_239.out _; (with_reducible repeat (first | refine kc ?_ _ | refine kb ?_ | refine ka ?_ _)); refine blk_far ?_ NB238_239.out _; (with_reducible repeat (first | refine kc ?_ _ | refine kb ?_ | refine ka ?_ _)); refine blk_far ?_ NB238_239.out _; (with_reducible repeat (first | refine kc ?_ _ | refine kb ?_ | refine ka ?_ _)); refine blk_put (cs := #[.int .i64 t226, .string t227, .string t228, .slice none 0 0]) ?_ 3 _ rfl; (with_reducible repeat (first | refine kc ?_ _ | refine kb ?_ | refine ka ?_ _)); refine blk_put (cs := #[.int .i64 t226, .string t227, .string (⟨#[]⟩ : ByteArray), .slice none 0 0]) ?_ 2 _ rfl; (with_reducible repeat (first | refine kc ?_ _ | refine kb ?_ | refine ka ?_ _)); refine blk_put (cs := #[.int .i64 t226, .string (⟨#[]⟩ : ByteArray), .string (⟨#[]⟩ : ByteArray), .slice none 0 0]) ?_ 1 _ rfl; (with_reducible repeat (first | refine kc ?_ _ | refine kb ?_ | refine ka ?_ _)); refine blk_put (cs := #[.int .i64 0, .string (⟨#[]⟩ : ByteArray), .string (⟨#[]⟩ : ByteArray), .slice none 0 0]) ?_ 0 _ rfl; (with_reducible repeat (first | refine kc ?_ _ | refine kb ?_ | refine ka ?_ _)); exact BK238.out) hb); have n7_ := Aside0.mk (blk_below (g := gb239) (o := q0 t232 t233 t234 Ao28 t235 co28) (by (with_reducible repeat (first | refine kc ?_ _ | refine kb ?_ | refine ka ?_ _)); refine blk_put (cs := #[.int .i64 t232, .string t233, .string t234, .slice none 0 0]) ?_ 3 _ rfl; (with_reducible repeat (first | refine kc ?_ _ | refine kb ?_ | refine ka ?_ _)); refine blk_put (cs := #[.int .i64 t232, .string t233, .string (⟨#[]⟩ : ByteArray), .slice none 0 0]) ?_ 2 _ rfl; (with_reducible repeat (first | refine kc ?_ _ | refine kb ?_ | refine ka ?_ _)); refine blk_put (cs := #[.int .i64 t232, .string (⟨#[]⟩ : ByteArray), .string (⟨#[]⟩ : ByteArray), .slice none 0 0]) ?_ 1 _ rfl; (with_reducible repeat (first | refine kc ?_ _ | refine kb ?_ | refine ka ?_ _)); refine blk_put (cs := #[.int .i64 0, .string (⟨#[]⟩ : ByteArray), .string (⟨#[]⟩ : ByteArray), .slice none 0 0]) ?_ 0 _ rfl; (with_reducible repeat (first | refine kc ?_ _ | refine kb ?_ | refine ka ?_ _)); refine blk_far ?_ NB239_238.out _; (with_reducible repeat (first | refine kc ?_ _ | refine kb ?_ | refine ka ?_ _)); refine blk_far ?_ NB239_238.out _; (with_reducible repeat (first | refine kc ?_ _ | refine kb ?_ | refine ka ?_ _)); refine blk_far ?_ NB239_238.out _; (with_reducible repeat (first | refine kc ?_ _ | refine kb ?_ | refine ka ?_ _)); refine blk_far ?_ NB239_238.out _; (with_reducible repeat (first | refine kc ?_ _ | refine kb ?_ | refine ka ?_ _)); exact BK239.out) hb); have n8_ := Aside0.mk (below_step (by repeat (first | (with_reducible first | exact HB.out | apply below_alloc | apply pw_below_drewN | apply below_drew1 | refine below_set ?_ GE222.out | refine below_set ?_ GE223.out | refine below_set ?_ GE224.out | refine below_set ?_ GE225.out | refine below_set ?_ GE238.out | refine below_set ?_ GE239.out) | exact HB.out)) hb); clear HO231; clear HO237; clear BK222; clear BK223; clear BK224; clear BK225; clear BK238; clear BK239; clear HB; have HO231 := n0_; have HO237 := n1_; have BK222 := n2_; have BK223 := n3_; have BK224 := n4_; have BK225 := n5_; have BK238 := n6_; have BK239 := n7_; have HB := n8_; clear n0_ n1_ n2_ n3_ n4_ n5_ n6_ n7_ n8_; (try clear hb); (try clear hb2); (try clear hk); (try clear hi); have hnb37 := NB239_222.out; have hnc37 := NB222_239.out; have hnb38 := NB239_223.out; have hnc38 := NB223_239.out; have hnb39 := NB239_224.out; have hnc39 := NB224_239.out; have hnb40 := NB239_225.out; have hnc40 := NB225_239.out; have hcz41_0 : w36.cell? ⟨gb239, 0, none⟩ = some (.int .i64 t232) := (blk_cell BK239.out 0).trans rfl; have hcz41_1 : w36.cell? ⟨gb239, 1, none⟩ = some (.string t233) := (blk_cell BK239.out 1).trans rfl; have hcz41_2 : w36.cell? ⟨gb239, 2, none⟩ = some (.string t234) := (blk_cell BK239.out 2).trans rfl; have hcz41_3 : w36.cell? ⟨gb239, 3, none⟩ = some (.slice Ao28 t235.length co28) := (blk_cell BK239.out 3).trans rfl; have hfz41_0 := blk_frozen BK239.out 0; have hfz41_1 := blk_frozen BK239.out 1; have hfz41_2 := blk_frozen BK239.out 2; have hfz41_3 := blk_frozen BK239.out 3) | ((with_reducible refine gate_callee (f := 12) rfl ?_); refine goesL_ (some 26) rfl rfl Tryd.func12 (by kernel_rfl) rfl #[.agg #[.int .i64 t232, .string t233, .string t234, .slice Ao28 t235.length co28]] rfl (by (try simp only [List.map_toArray, List.map_cons, List.map_nil]); first | done | rfl) ?_; (with_reducible refine (line_Print.calls k t232 t233 t234 _ _ t235 t242 t243 _ ?side1 ?side2 A8.out (XTabs.Tabs.below HT.out (by repeat (first | (with_reducible first | exact HB.out | exact FB.out | exact HB | apply below_alloc | apply pw_below_drewN | apply below_drew1 | refine below_set ?_ (Aside0.out (by assumption))) | exact HB.out | exact FB.out)))).mono ?_); (case side1 => repeat (first | exact (Kd.V_reads' HO237.out).2.2 | (with_reducible refine Kd.C_alloc ?_ _) | (with_reducible refine Kd.C_drewN ?_ _) | (with_reducible refine Kd.C_drew ?_))); (case side2 => exact (Kd.V_reads' HO237.out).2.1); rintro e w42 ⟨rfl, hb⟩; refine ⟨_, rfl, ?_⟩; have n0_ := Aside0.mk (Kd.V_below (by (with_reducible repeat (first | apply va | apply vb | apply vc)); exact HO231.out) hb); have n1_ := Aside0.mk (Kd.V_below (by (with_reducible repeat (first | apply va | apply vb | apply vc)); exact HO237.out) hb); have n2_ := Aside0.mk (blk_below (g := gb222) (o := q0 a0_0 a0_1 a0_2 A0_3 l0_3 c0_3) (by (with_reducible repeat (first | refine kc ?_ _ | refine kb ?_ | refine ka ?_ _)); exact BK222.out) hb); have n3_ := Aside0.mk (blk_below (g := gb223) (o := q0 a1_0 a1_1 a1_2 A1_3 l1_3 c1_3) (by (with_reducible repeat (first | refine kc ?_ _ | refine kb ?_ | refine ka ?_ _)); exact BK223.out) hb); have n4_ := Aside0.mk (blk_below (g := gb224) (o := q1 a2_0 a2_1 a2_2 a2_3) (by (with_reducible repeat (first | refine kc ?_ _ | refine kb ?_ | refine ka ?_ _)); exact BK224.out) hb); have n5_ := Aside0.mk (blk_below (g := gb225) (o := q1 a3_0 a3_1 a3_2 a3_3) (by (with_reducible repeat (first | refine kc ?_ _ | refine kb ?_ | refine ka ?_ _)); exact BK225.out) hb); have n6_ := Aside0.mk (blk_below (g := gb238) (o := q0 t226 t227 t228 Ao23 t229 co23) (by (with_reducible repeat (first | refine kc ?_ _ | refine kb ?_ | refine ka ?_ _)); exact BK238.out) hb); have n7_ := Aside0.mk (blk_below (g := gb239) (o := q0 t232 t233 t234 Ao28 t235 co28) (by (with_reducible repeat (first | refine kc ?_ _ | refine kb ?_ | refine ka ?_ _)); exact BK239.out) hb); have n8_ := Aside0.mk (below_step (by repeat (first | (with_reducible first | exact HB.out | apply below_alloc | apply pw_below_drewN | apply below_drew1 | refine below_set ?_ GE222.out | refine below_set ?_ GE223.out | refine below_set ?_ GE224.out | refine below_set ?_ GE225.out | refine below_set ?_ GE238.out | refine below_set ?_ GE239.out) | exact HB.out)) hb); clear HO231; clear HO237; clear BK222; clear BK223; clear BK224; clear BK225; clear BK238; clear BK239; clear HB; have HO231 := n0_; have HO237 := n1_; have BK222 := n2_; have BK223 := n3_; have BK224 := n4_; have BK225 := n5_; have BK238 := n6_; have BK239 := n7_; have HB := n8_; clear n0_ n1_ n2_ n3_ n4_ n5_ n6_ n7_ n8_; (try clear hb); (try clear hb2); (try clear hk); (try clear hi)))
 (try simp only [Act.put, List.setIfInBounds_toArray, List.set_cons_zero, List.set_cons_succ])
 go_cut [43] (fun v43 wc => ∃ (kq : Nat) (x43_8 : Bool), v43 = .bool x43_8 ∧ Aside0 (prebendlaw27_LineUnlike.j0 kq x43_8 a2_0 a2_1 a2_2 a2_3 a3_0 a3_1 a3_2 a3_3 = some r) ∧ Aside0 (kq ≤ k) ∧ Aside0 (Kd.V (Kd.int .i64) 3 wc w.heap.size (fun k_ => k_ ≠ gb222 ∧ k_ ≠ gb223 ∧ k_ ≠ gb224 ∧ k_ ≠ gb225 ∧ k_ ≠ gb238 ∧ k_ ≠ gb239) (.slice Ao23 t229.length co23) t229) ∧ Aside0 (Kd.V (Kd.int .i64) 3 wc w.heap.size (fun k_ => k_ ≠ gb222 ∧ k_ ≠ gb223 ∧ k_ ≠ gb224 ∧ k_ ≠ gb225 ∧ k_ ≠ gb238 ∧ k_ ≠ gb239) (.slice Ao28 t235.length co28) t235) ∧ Aside0 (wc.heap[gb222]? = some (.cells #[.int .i64 a0_0, .string a0_1, .string a0_2, (.slice A0_3 l0_3.length c0_3)] 24 (0, 0))) ∧ Aside0 (wc.heap[gb223]? = some (.cells #[.int .i64 a1_0, .string a1_1, .string a1_2, (.slice A1_3 l1_3.length c1_3)] 24 (0, 0))) ∧ Aside0 (wc.heap[gb224]? = some (.cells #[.int .i64 a2_0, .int .i64 a2_1, .int .i64 a2_2, .int .i64 a2_3] 27 (0, 0))) ∧ Aside0 (wc.heap[gb225]? = some (.cells #[.int .i64 a3_0, .int .i64 a3_1, .int .i64 a3_2, .int .i64 a3_3] 27 (0, 0))) ∧ Aside0 (wc.heap[gb238]? = some (.cells #[.int .i64 t226, .string t227, .string t228, (.slice Ao23 t229.length co23)] 24 (0, 0))) ∧ Aside0 (wc.heap[gb239]? = some (.cells #[.int .i64 t232, .string t233, .string t234, (.slice Ao28 t235.length co28)] 24 (0, 0))) ∧ Aside0 (Below w.heap.size w wc))
 case first =>
  have H := HC9.out
  clear HC9
  by_cases c43 : t241 = 0
  ·rw [if_pos c43] at H
   have c43b0 : (t241 == 0) = true := beq_iff_eq.mpr c43
   have c43b1 : (t241 != 0) = false := bne_eq_false_iff_eq.mpr c43
   clear c43
   (first | rw [c43b0] | (simp only [i64_w, i32_w]; rw [c43b0]) | skip)
   by_cases c44 : t243 = 0
   ·rw [if_pos c44] at H
    have c44b0 : (t243 == 0) = true := beq_iff_eq.mpr c44
    have c44b1 : (t243 != 0) = false := bne_eq_false_iff_eq.mpr c44
    clear c44
    replace H := Option.bind_eq_some_iff.mp H
    obtain ⟨t244, A450, H⟩ := H
    replace H : (prebendlaw27_LineUnlike.j0 k ((t240.toList == t242.toList) != t244) a2_0 a2_1 a2_2 a2_3 a3_0 a3_1 a3_2 a3_3) = some r := H
    have A45 := Aside0.mk A450
    clear A450
    have H' := Aside0.mk H
    clear H
    have hnb46 := NB238_222.out
    have hnc46 := NB222_238.out
    have hnb47 := NB238_223.out
    have hnc47 := NB223_238.out
    have hnb48 := NB238_224.out
    have hnc48 := NB224_238.out
    have hnb49 := NB238_225.out
    have hnc49 := NB225_238.out
    have hnb50 := NB238_239.out
    have hnc50 := NB239_238.out
    have hcz51_0 : w42.cell? ⟨gb238, 0, none⟩ = some (.int .i64 t226) := (blk_cell BK238.out 0).trans rfl
    have hcz51_1 : w42.cell? ⟨gb238, 1, none⟩ = some (.string t227) := (blk_cell BK238.out 1).trans rfl
    have hcz51_2 : w42.cell? ⟨gb238, 2, none⟩ = some (.string t228) := (blk_cell BK238.out 2).trans rfl
    have hcz51_3 : w42.cell? ⟨gb238, 3, none⟩ = some (.slice Ao23 t229.length co23) := (blk_cell BK238.out 3).trans rfl
    have hfz51_0 := blk_frozen BK238.out 0
    have hfz51_1 := blk_frozen BK238.out 1
    have hfz51_2 := blk_frozen BK238.out 2
    have hfz51_3 := blk_frozen BK238.out 3
    have hnb52 := NB239_222.out
    have hnc52 := NB222_239.out
    have hnb53 := NB239_223.out
    have hnc53 := NB223_239.out
    have hnb54 := NB239_224.out
    have hnc54 := NB224_239.out
    have hnb55 := NB239_225.out
    have hnc55 := NB225_239.out
    have hcz56_0 : w42.cell? ⟨gb239, 0, none⟩ = some (.int .i64 t232) := (blk_cell BK239.out 0).trans rfl
    have hcz56_1 : w42.cell? ⟨gb239, 1, none⟩ = some (.string t233) := (blk_cell BK239.out 1).trans rfl
    have hcz56_2 : w42.cell? ⟨gb239, 2, none⟩ = some (.string t234) := (blk_cell BK239.out 2).trans rfl
    have hcz56_3 : w42.cell? ⟨gb239, 3, none⟩ = some (.slice Ao28 t235.length co28) := (blk_cell BK239.out 3).trans rfl
    have hfz56_0 := blk_frozen BK239.out 0
    have hfz56_1 := blk_frozen BK239.out 1
    have hfz56_2 := blk_frozen BK239.out 2
    have hfz56_3 := blk_frozen BK239.out 3
    go_wp2_with (first | (go_at_call 20; (with_reducible refine (prebendref27_Same.calls k t226 t227 t228 _ _ t229 t232 t233 t234 _ _ t235 t244 _ ?side1 ?side2 ?side3 ?side4 A45.out).mono ?_); (case side1 => repeat (first | exact (Kd.V_reads' HO231.out).2.2 | (with_reducible refine Kd.C_alloc ?_ _) | (with_reducible refine Kd.C_drewN ?_ _) | (with_reducible refine Kd.C_drew ?_))); (case side2 => exact (Kd.V_reads' HO231.out).2.1); (case side3 => repeat (first | exact (Kd.V_reads' HO237.out).2.2 | (with_reducible refine Kd.C_alloc ?_ _) | (with_reducible refine Kd.C_drewN ?_ _) | (with_reducible refine Kd.C_drew ?_))); (case side4 => exact (Kd.V_reads' HO237.out).2.1); rintro e w57 ⟨rfl, hb⟩; (try clear A45); have n0_ := Aside0.mk (Kd.V_below (by (with_reducible repeat (first | apply va | apply vb | apply vc)); exact HO231.out) hb); have n1_ := Aside0.mk (Kd.V_below (by (with_reducible repeat (first | apply va | apply vb | apply vc)); exact HO237.out) hb); have n2_ := Aside0.mk (blk_below (g := gb222) (o := q0 a0_0 a0_1 a0_2 A0_3 l0_3 c0_3) (by (with_reducible repeat (first | refine kc ?_ _ | refine kb ?_ | refine ka ?_ _)); exact BK222.out) hb); have n3_ := Aside0.mk (blk_below (g := gb223) (o := q0 a1_0 a1_1 a1_2 A1_3 l1_3 c1_3) (by (with_reducible repeat (first | refine kc ?_ _ | refine kb ?_ | refine ka ?_ _)); exact BK223.out) hb); have n4_ := Aside0.mk (blk_below (g := gb224) (o := q1 a2_0 a2_1 a2_2 a2_3) (by (with_reducible repeat (first | refine kc ?_ _ | refine kb ?_ | refine ka ?_ _)); exact BK224.out) hb); have n5_ := Aside0.mk (blk_below (g := gb225) (o := q1 a3_0 a3_1 a3_2 a3_3) (by (with_reducible repeat (first | refine kc ?_ _ | refine kb ?_ | refine ka ?_ _)); exact BK225.out) hb); have n6_ := Aside0.mk (blk_below (g := gb238) (o := q0 t226 t227 t228 Ao23 t229 co23) (by (with_reducible repeat (first | refine kc ?_ _ | refine kb ?_ | refine ka ?_ _)); exact BK238.out) hb); have n7_ := Aside0.mk (blk_below (g := gb239) (o := q0 t232 t233 t234 Ao28 t235 co28) (by (with_reducible repeat (first | refine kc ?_ _ | refine kb ?_ | refine ka ?_ _)); exact BK239.out) hb); have n8_ := Aside0.mk (below_step (by repeat (first | (with_reducible first | exact HB.out | apply below_alloc | apply pw_below_drewN | apply below_drew1 | refine below_set ?_ GE222.out | refine below_set ?_ GE223.out | refine below_set ?_ GE224.out | refine below_set ?_ GE225.out | refine below_set ?_ GE238.out | refine below_set ?_ GE239.out) | exact HB.out)) hb); clear HO231; clear HO237; clear BK222; clear BK223; clear BK224; clear BK225; clear BK238; clear BK239; clear HB; have HO231 := n0_; have HO237 := n1_; have BK222 := n2_; have BK223 := n3_; have BK224 := n4_; have BK225 := n5_; have BK238 := n6_; have BK239 := n7_; have HB := n8_; clear n0_ n1_ n2_ n3_ n4_ n5_ n6_ n7_ n8_; (try clear hb); (try clear hb2); (try clear hk); (try clear hi)))
    go_meet
    case rel => exact ⟨_, (((t240.toList == t242.toList) != t244)), (by first | rfl | (simp; done) | (simp [*]; done)), H', ⟨by first | omega | exact Nat.le_refl _⟩, ⟨by (with_reducible repeat (first | apply va | apply vb | apply vc)); exact HO231.out⟩, ⟨by (with_reducible repeat (first | apply va | apply vb | apply vc)); exact HO237.out⟩, ⟨by (with_reducible repeat (first | refine kc ?_ _ | refine kb ?_ | refine ka ?_ _)); exact BK222.out⟩, ⟨by (with_reducible repeat (first | refine kc ?_ _ | refine kb ?_ | refine ka ?_ _)); exact BK223.out⟩, ⟨by (with_reducible repeat (first | refine kc ?_ _ | refine kb ?_ | refine ka ?_ _)); exact BK224.out⟩, ⟨by (with_reducible repeat (first | refine kc ?_ _ | refine kb ?_ | refine ka ?_ _)); exact BK225.out⟩, ⟨by (with_reducible repeat (first | refine kc ?_ _ | refine kb ?_ | refine ka ?_ _)); exact BK238.out⟩, ⟨by (with_reducible repeat (first | refine kc ?_ _ | refine kb ?_ | refine ka ?_ _)); exact BK239.out⟩, ⟨by repeat (first | (with_reducible first | exact HB.out | apply below_alloc | apply pw_below_drewN | apply below_drew1 | refine below_set ?_ GE222.out | refine below_set ?_ GE223.out | refine below_set ?_ GE224.out | refine below_set ?_ GE225.out | refine below_set ?_ GE238.out | refine below_set ?_ GE239.out) | exact HB.out)⟩⟩
   ·rw [if_neg c44] at H
    have c44b0 : (t243 == 0) = false := beq_eq_false_iff_ne.mpr c44
    have c44b1 : (t243 != 0) = true := bne_iff_ne.mpr c44
    have H' := Aside0.mk H
    clear H
    go_wp2
    go_meet
    case rel => exact ⟨_, (false), (by first | rfl | (simp; done) | (simp [*]; done)), H', ⟨by first | omega | exact Nat.le_refl _⟩, ⟨by (with_reducible repeat (first | apply va | apply vb | apply vc)); exact HO231.out⟩, ⟨by (with_reducible repeat (first | apply va | apply vb | apply vc)); exact HO237.out⟩, ⟨by (with_reducible repeat (first | refine kc ?_ _ | refine kb ?_ | refine ka ?_ _)); exact BK222.out⟩, ⟨by (with_reducible repeat (first | refine kc ?_ _ | refine kb ?_ | refine ka ?_ _)); exact BK223.out⟩, ⟨by (with_reducible repeat (first | refine kc ?_ _ | refine kb ?_ | refine ka ?_ _)); exact BK224.out⟩, ⟨by (with_reducible repeat (first | refine kc ?_ _ | refine kb ?_ | refine ka ?_ _)); exact BK225.out⟩, ⟨by (with_reducible repeat (first | refine kc ?_ _ | refine kb ?_ | refine ka ?_ _)); exact BK238.out⟩, ⟨by (with_reducible repeat (first | refine kc ?_ _ | refine kb ?_ | refine ka ?_ _)); exact BK239.out⟩, ⟨by repeat (first | (with_reducible first | exact HB.out | apply below_alloc | apply pw_below_drewN | apply below_drew1 | refine below_set ?_ GE222.out | refine below_set ?_ GE223.out | refine below_set ?_ GE224.out | refine below_set ?_ GE225.out | refine below_set ?_ GE238.out | refine below_set ?_ GE239.out) | exact HB.out)⟩⟩
  ·rw [if_neg c43] at H
   have c43b0 : (t241 == 0) = false := beq_eq_false_iff_ne.mpr c43
   have c43b1 : (t241 != 0) = true := bne_iff_ne.mpr c43
   (first | rw [c43b0] | (simp only [i64_w, i32_w]; rw [c43b0]) | skip)
   have H' := Aside0.mk H
   clear H
   go_wp2
   go_meet
   case rel => exact ⟨_, (false), (by first | rfl | (simp; done) | (simp [*]; done)), H', ⟨by first | omega | exact Nat.le_refl _⟩, ⟨by (with_reducible repeat (first | apply va | apply vb | apply vc)); exact HO231.out⟩, ⟨by (with_reducible repeat (first | apply va | apply vb | apply vc)); exact HO237.out⟩, ⟨by (with_reducible repeat (first | refine kc ?_ _ | refine kb ?_ | refine ka ?_ _)); exact BK222.out⟩, ⟨by (with_reducible repeat (first | refine kc ?_ _ | refine kb ?_ | refine ka ?_ _)); exact BK223.out⟩, ⟨by (with_reducible repeat (first | refine kc ?_ _ | refine kb ?_ | refine ka ?_ _)); exact BK224.out⟩, ⟨by (with_reducible repeat (first | refine kc ?_ _ | refine kb ?_ | refine ka ?_ _)); exact BK225.out⟩, ⟨by (with_reducible repeat (first | refine kc ?_ _ | refine kb ?_ | refine ka ?_ _)); exact BK238.out⟩, ⟨by (with_reducible repeat (first | refine kc ?_ _ | refine kb ?_ | refine ka ?_ _)); exact BK239.out⟩, ⟨by repeat (first | (with_reducible first | exact HB.out | apply below_alloc | apply pw_below_drewN | apply below_drew1 | refine below_set ?_ GE222.out | refine below_set ?_ GE223.out | refine below_set ?_ GE224.out | refine below_set ?_ GE225.out | refine below_set ?_ GE238.out | refine below_set ?_ GE239.out) | exact HB.out)⟩⟩
 case rest =>
  clear HC9
  try clear c1
  try clear p2
  try clear c3
  try clear c4
  try clear c5
  try clear c12
  try clear c13
  try clear c30
  try clear c31
  try clear c32
  try clear c33
  try clear c34
  try clear c37
  try clear c38
  try clear c39
  try clear c40
  try clear c43
  try clear c43b0
  try clear c43b1
  try clear c44
  try clear c44b0
  try clear c44b1
  try clear c46
  try clear c47
  try clear c48
  try clear c49
  try clear c50
  try clear c52
  try clear c53
  try clear c54
  try clear c55
  try clear hcz35_0
  try clear hcz35_1
  try clear hcz35_2
  try clear hcz35_3
  try clear hcz41_0
  try clear hcz41_1
  try clear hcz41_2
  try clear hcz41_3
  try clear hcz51_0
  try clear hcz51_1
  try clear hcz51_2
  try clear hcz51_3
  try clear hcz56_0
  try clear hcz56_1
  try clear hcz56_2
  try clear hcz56_3
  try clear hfz35_0
  try clear hfz35_1
  try clear hfz35_2
  try clear hfz35_3
  try clear hfz41_0
  try clear hfz41_1
  try clear hfz41_2
  try clear hfz41_3
  try clear hfz51_0
  try clear hfz51_1
  try clear hfz51_2
  try clear hfz51_3
  try clear hfz56_0
  try clear hfz56_1
  try clear hfz56_2
  try clear hfz56_3
  obtain ⟨kq, x43_8, rfl, HA, HJ8, HO_239003, HO_240003, BK222, BK223, BK224, BK225, BK238, BK239, HB⟩ := hcut
  cases kq with
  | zero => exact absurd HA.out (by simp [prebendlaw27_LineUnlike.j0])
  | succ kj8 =>
   have H := HA.out
   clear HA
   simp only [prebendlaw27_LineUnlike.j0] at H
   by_cases c58 : x43_8 = true
   ·subst c58
    have H1 : (some false) = some r := by rw [if_pos rfl] at H; exact H
    clear H
    have H := H1
    clear H1
    exact absurd (show some false = some true from hr ▸ H) (by simp)  -- 1
   ·replace c58 := Bool.eq_false_iff.mpr c58
    subst c58
    have H1 : ((prebendlaw27_awake.f kj8).bind fun t245 => (if t245 = true then ((line_Reply.f kj8 a2_0 a2_1 a2_2 a2_3).bind fun t246 => ((line_Reply.f kj8 a3_0 a3_1 a3_2 a3_3).bind fun t247 => (some ((t246.toList == t247.toList) == (a2_0 == a3_0 && (a2_1 == a3_1 && (a2_2 == a3_2 && (a2_3 == a3_3)))))))) else (some false))) = some r := by rw [if_neg (show ¬ (false = true) by decide)] at H; exact H
    clear H
    have H := H1
    clear H1
    replace H := Option.bind_eq_some_iff.mp H
    obtain ⟨t245, A590, H⟩ := H
    replace H : (if t245 = true then ((line_Reply.f kj8 a2_0 a2_1 a2_2 a2_3).bind fun t246 => ((line_Reply.f kj8 a3_0 a3_1 a3_2 a3_3).bind fun t247 => (some ((t246.toList == t247.toList) == (a2_0 == a3_0 && (a2_1 == a3_1 && (a2_2 == a3_2 && (a2_3 == a3_3)))))))) else (some false)) = some r := H
    have A59 := Aside0.mk A590
    clear A590
    by_cases c60 : t245 = true
    ·subst c60
     have H1 : ((line_Reply.f kj8 a2_0 a2_1 a2_2 a2_3).bind fun t246 => ((line_Reply.f kj8 a3_0 a3_1 a3_2 a3_3).bind fun t247 => (some ((t246.toList == t247.toList) == (a2_0 == a3_0 && (a2_1 == a3_1 && (a2_2 == a3_2 && (a2_3 == a3_3)))))))) = some r := by rw [if_pos rfl] at H; exact H
     clear H
     have H := H1
     clear H1
     replace H := Option.bind_eq_some_iff.mp H
     obtain ⟨t246, A610, H⟩ := H
     replace H : ((line_Reply.f kj8 a3_0 a3_1 a3_2 a3_3).bind fun t247 => (some ((t246.toList == t247.toList) == (a2_0 == a3_0 && (a2_1 == a3_1 && (a2_2 == a3_2 && (a2_3 == a3_3))))))) = some r := H
     have A61 := Aside0.mk A610
     clear A610
     replace H := Option.bind_eq_some_iff.mp H
     obtain ⟨t247, A620, H⟩ := H
     replace H : (some ((t246.toList == t247.toList) == (a2_0 == a3_0 && (a2_1 == a3_1 && (a2_2 == a3_2 && (a2_3 == a3_3)))))) = some r := H
     have A62 := Aside0.mk A620
     clear A620
     obtain rfl := Option.some.inj H
     try go_wp2
     have n0_ := Aside0.mk (Kd.V_drew HO_239003.out)
     have n1_ := Aside0.mk (Kd.V_drew HO_240003.out)
     have n2_ := Aside0.mk (blk_drew BK222.out)
     have n3_ := Aside0.mk (blk_drew BK223.out)
     have n4_ := Aside0.mk (blk_drew BK224.out)
     have n5_ := Aside0.mk (blk_drew BK225.out)
     have n6_ := Aside0.mk (blk_drew BK238.out)
     have n7_ := Aside0.mk (blk_drew BK239.out)
     have n8_ := Aside0.mk (below_drew1 HB.out)
     clear HO_239003
     clear HO_240003
     clear BK222
     clear BK223
     clear BK224
     clear BK225
     clear BK238
     clear BK239
     clear HB
     have HO_239003 := n0_
     have HO_240003 := n1_
     have BK222 := n2_
     have BK223 := n3_
     have BK224 := n4_
     have BK225 := n5_
     have BK238 := n6_
     have BK239 := n7_
     have HB := n8_
     clear n0_ n1_ n2_ n3_ n4_ n5_ n6_ n7_ n8_
     refine start_ (n := 13) (S := fun w' => w'.cell? ⟨gb224, 0, none⟩ = some (.int .i64 a2_0) ∧ w'.cell? ⟨gb224, 1, none⟩ = some (.int .i64 a2_1) ∧ w'.cell? ⟨gb224, 2, none⟩ = some (.int .i64 a2_2) ∧ w'.cell? ⟨gb224, 3, none⟩ = some (.int .i64 a2_3) ∧ w'.cell? ⟨gb225, 0, none⟩ = some (.int .i64 a3_0) ∧ w'.cell? ⟨gb225, 1, none⟩ = some (.int .i64 a3_1) ∧ w'.cell? ⟨gb225, 2, none⟩ = some (.int .i64 a3_2) ∧ w'.cell? ⟨gb225, 3, none⟩ = some (.int .i64 a3_3)) (ds := []) #[false, false, false, false, false, false, false, false, false, false, false, false, false] (by kernel_rfl) rfl rfl ⟨(blk_cell BK224.out 0).trans rfl, (blk_cell BK224.out 1).trans rfl, (blk_cell BK224.out 2).trans rfl, (blk_cell BK224.out 3).trans rfl, (blk_cell BK225.out 0).trans rfl, (blk_cell BK225.out 1).trans rfl, (blk_cell BK225.out 2).trans rfl, (blk_cell BK225.out 3).trans rfl⟩ (fun hHeld => ?_); refine with_tabW prebendlaw27_LineUnlike.tab6 prebendlaw27_LineUnlike.bits6 (fun HT_ HW_ => ?_)
     generalize wc.drew = w63 at HO_239003 HO_240003 BK222 BK223 BK224 BK225 BK238 BK239 HB hHeld ⊢
     refine one_ (i := 0) (N := some 44) #[true, false, false, false, false, false, false, false, false, false, false, false, false] rfl rfl (one_of HT_.out (by kernel_rfl)) (by decide) (fun K hK => ?_)
     refine goes_ Tryd.func15 (by kernel_rfl) rfl #[] (by rfl) rfl rfl (by (try simp only [List.map_toArray, List.map_cons, List.map_nil]); first | done | rfl) ?_
     with_reducible refine (prebendlaw27_awake.calls kj8  true _ A59.out (XTabs.Tabs.below HT.out (by repeat (first | (with_reducible first | exact HB.out | exact FB.out | exact HB | apply below_alloc | apply pw_below_drewN | apply below_drew1 | refine below_set ?_ (Aside0.out (by assumption))) | exact HB.out | exact FB.out)))).mono ?_
     rintro e w64 ⟨rfl, hb⟩
     refine ⟨_, rfl, ?_⟩
     have n0_ := Aside0.mk (Kd.V_below (by (with_reducible repeat (first | apply va | apply vb | apply vc)); exact HO_239003.out) hb)
     have n1_ := Aside0.mk (Kd.V_below (by (with_reducible repeat (first | apply va | apply vb | apply vc)); exact HO_240003.out) hb)
     have n2_ := Aside0.mk (blk_below (g := gb222) (o := q0 a0_0 a0_1 a0_2 A0_3 l0_3 c0_3) (by (with_reducible repeat (first | refine kc ?_ _ | refine kb ?_ | refine ka ?_ _)); exact BK222.out) hb)
     have n3_ := Aside0.mk (blk_below (g := gb223) (o := q0 a1_0 a1_1 a1_2 A1_3 l1_3 c1_3) (by (with_reducible repeat (first | refine kc ?_ _ | refine kb ?_ | refine ka ?_ _)); exact BK223.out) hb)
     have n4_ := Aside0.mk (blk_below (g := gb224) (o := q1 a2_0 a2_1 a2_2 a2_3) (by (with_reducible repeat (first | refine kc ?_ _ | refine kb ?_ | refine ka ?_ _)); exact BK224.out) hb)
     have n5_ := Aside0.mk (blk_below (g := gb225) (o := q1 a3_0 a3_1 a3_2 a3_3) (by (with_reducible repeat (first | refine kc ?_ _ | refine kb ?_ | refine ka ?_ _)); exact BK225.out) hb)
     have n6_ := Aside0.mk (blk_below (g := gb238) (o := q0 t226 t227 t228 Ao23 t229 co23) (by (with_reducible repeat (first | refine kc ?_ _ | refine kb ?_ | refine ka ?_ _)); exact BK238.out) hb)
     have n7_ := Aside0.mk (blk_below (g := gb239) (o := q0 t232 t233 t234 Ao28 t235 co28) (by (with_reducible repeat (first | refine kc ?_ _ | refine kb ?_ | refine ka ?_ _)); exact BK239.out) hb)
     have n8_ := Aside0.mk (below_step (by repeat (first | (with_reducible first | exact HB.out | apply below_alloc | apply pw_below_drewN | apply below_drew1 | refine below_set ?_ GE222.out | refine below_set ?_ GE223.out | refine below_set ?_ GE224.out | refine below_set ?_ GE225.out | refine below_set ?_ GE238.out | refine below_set ?_ GE239.out) | exact HB.out)) hb)
     clear HO_239003
     clear HO_240003
     clear BK222
     clear BK223
     clear BK224
     clear BK225
     clear BK238
     clear BK239
     clear HB
     have HO_239003 := n0_
     have HO_240003 := n1_
     have BK222 := n2_
     have BK223 := n3_
     have BK224 := n4_
     have BK225 := n5_
     have BK238 := n6_
     have BK239 := n7_
     have HB := n8_
     clear n0_ n1_ n2_ n3_ n4_ n5_ n6_ n7_ n8_
     (try clear hb)
     (try clear hb2)
     (try clear hk)
     (try clear hi)
     refine hK.out _ _ ⟨(blk_cell BK224.out 0).trans rfl, (blk_cell BK224.out 1).trans rfl, (blk_cell BK224.out 2).trans rfl, (blk_cell BK224.out 3).trans rfl, (blk_cell BK225.out 0).trans rfl, (blk_cell BK225.out 1).trans rfl, (blk_cell BK225.out 2).trans rfl, (blk_cell BK225.out 3).trans rfl⟩ (fun hHeld => ?_)
     clear hK K
     refine norm_ (a' := ?_) ?_ ?_
     rotate_left
     ·show Act.put _ (some 44) _ = _
      simp only [Act.put, List.setIfInBounds_toArray, List.set_cons_zero, List.set_cons_succ, i64_w, i32_w]
      rfl
     refine pure_ (i := 1) (N := some 45) (v := ?_) (a' := ?_) #[true, true, false, false, false, false, false, false, false, false, false, false, false] rfl rfl (any_of HT_.out (by kernel_rfl)) (fun _ _ _ h => h) (Or.inl ⟨by rfl, ?_⟩) ?_ ?_
     rotate_left
     ·intro w'
      go_simp
      with_reducible rfl
     rotate_left
     ·simp only [Act.put, List.setIfInBounds_toArray, List.set_cons_zero, List.set_cons_succ, i64_w, i32_w]
      rfl
     refine take_ (i := 2) (N := some 46) (v := ?_) (a' := ?_) #[true, true, true, false, false, false, false, false, false, false, false, false, false] rfl rfl (take_ofW HT_.out HW_.out (by kernel_rfl)) (fun _ _ _ h => h) (Or.inl ⟨by rfl, ?_⟩) hHeld ?_ ?_
     rotate_left
     ·rintro w' ⟨s0, s1, s2, s3, s4, s5, s6, s7⟩
      go_simp
      with_reducible rfl
     rotate_left
     ·simp only [Act.put, List.setIfInBounds_toArray, List.set_cons_zero, List.set_cons_succ, i64_w, i32_w]
      rfl
     refine take_ (i := 4) (N := some 48) (v := ?_) (a' := ?_) #[true, true, true, false, true, false, false, false, false, false, false, false, false] rfl rfl (take_ofW HT_.out HW_.out (by kernel_rfl)) (fun _ _ _ h => h) (Or.inl ⟨by rfl, ?_⟩) hHeld ?_ ?_
     rotate_left
     ·rintro w' ⟨s0, s1, s2, s3, s4, s5, s6, s7⟩
      go_simp
      with_reducible rfl
     rotate_left
     ·simp only [Act.put, List.setIfInBounds_toArray, List.set_cons_zero, List.set_cons_succ, i64_w, i32_w]
      rfl
     refine take_ (i := 7) (N := some 51) (v := ?_) (a' := ?_) #[true, true, true, false, true, false, false, true, false, false, false, false, false] rfl rfl (take_ofW HT_.out HW_.out (by kernel_rfl)) (fun _ _ _ h => h) (Or.inl ⟨by rfl, ?_⟩) hHeld ?_ ?_
     rotate_left
     ·rintro w' ⟨s0, s1, s2, s3, s4, s5, s6, s7⟩
      go_simp
      with_reducible rfl
     rotate_left
     ·simp only [Act.put, List.setIfInBounds_toArray, List.set_cons_zero, List.set_cons_succ, i64_w, i32_w]
      rfl
     refine take_ (i := 8) (N := some 52) (v := ?_) (a' := ?_) #[true, true, true, false, true, false, false, true, true, false, false, false, false] rfl rfl (take_ofW HT_.out HW_.out (by kernel_rfl)) (fun _ _ _ h => h) (Or.inl ⟨by rfl, ?_⟩) hHeld ?_ ?_
     rotate_left
     ·rintro w' ⟨s0, s1, s2, s3, s4, s5, s6, s7⟩
      go_simp
      with_reducible rfl
     rotate_left
     ·simp only [Act.put, List.setIfInBounds_toArray, List.set_cons_zero, List.set_cons_succ, i64_w, i32_w]
      rfl
     refine pure_ (i := 9) (N := some 53) (v := ?_) (a' := ?_) #[true, true, true, false, true, false, false, true, true, true, false, false, false] rfl rfl (any_of HT_.out (by kernel_rfl)) (fun _ _ _ h => h) (Or.inl ⟨by rfl, ?_⟩) ?_ ?_
     rotate_left
     ·intro w'
      go_simp
      with_reducible rfl
     rotate_left
     ·simp only [Act.put, List.setIfInBounds_toArray, List.set_cons_zero, List.set_cons_succ, i64_w, i32_w]
      rfl
     refine one_ (i := 3) (N := some 47) #[true, true, true, true, true, false, false, true, true, true, false, false, false] rfl rfl (one_of HT_.out (by kernel_rfl)) (by decide) (fun K hK => ?_)
     refine goes_ Tryd.func16 (by kernel_rfl) rfl #[.agg #[.int .i64 a2_0, .int .i64 a2_1, .int .i64 a2_2, .int .i64 a2_3]] (by rfl) rfl rfl (by (try simp only [List.map_toArray, List.map_cons, List.map_nil]); first | done | rfl) ?_
     with_reducible refine (line_Reply.calls kj8 a2_0 a2_1 a2_2 a2_3 t246 _ A61.out (XTabs.Tabs.below HT.out (by repeat (first | (with_reducible first | exact HB.out | exact FB.out | exact HB | apply below_alloc | apply pw_below_drewN | apply below_drew1 | refine below_set ?_ (Aside0.out (by assumption))) | exact HB.out | exact FB.out)))).mono ?_
     rintro e w65 ⟨rfl, hb⟩
     refine ⟨_, rfl, ?_⟩
     (try clear A61)
     have n0_ := Aside0.mk (Kd.V_below (by (with_reducible repeat (first | apply va | apply vb | apply vc)); exact HO_239003.out) hb)
     have n1_ := Aside0.mk (Kd.V_below (by (with_reducible repeat (first | apply va | apply vb | apply vc)); exact HO_240003.out) hb)
     have n2_ := Aside0.mk (blk_below (g := gb222) (o := q0 a0_0 a0_1 a0_2 A0_3 l0_3 c0_3) (by (with_reducible repeat (first | refine kc ?_ _ | refine kb ?_ | refine ka ?_ _)); exact BK222.out) hb)
     have n3_ := Aside0.mk (blk_below (g := gb223) (o := q0 a1_0 a1_1 a1_2 A1_3 l1_3 c1_3) (by (with_reducible repeat (first | refine kc ?_ _ | refine kb ?_ | refine ka ?_ _)); exact BK223.out) hb)
     have n4_ := Aside0.mk (blk_below (g := gb224) (o := q1 a2_0 a2_1 a2_2 a2_3) (by (with_reducible repeat (first | refine kc ?_ _ | refine kb ?_ | refine ka ?_ _)); exact BK224.out) hb)
     have n5_ := Aside0.mk (blk_below (g := gb225) (o := q1 a3_0 a3_1 a3_2 a3_3) (by (with_reducible repeat (first | refine kc ?_ _ | refine kb ?_ | refine ka ?_ _)); exact BK225.out) hb)
     have n6_ := Aside0.mk (blk_below (g := gb238) (o := q0 t226 t227 t228 Ao23 t229 co23) (by (with_reducible repeat (first | refine kc ?_ _ | refine kb ?_ | refine ka ?_ _)); exact BK238.out) hb)
     have n7_ := Aside0.mk (blk_below (g := gb239) (o := q0 t232 t233 t234 Ao28 t235 co28) (by (with_reducible repeat (first | refine kc ?_ _ | refine kb ?_ | refine ka ?_ _)); exact BK239.out) hb)
     have n8_ := Aside0.mk (below_step (by repeat (first | (with_reducible first | exact HB.out | apply below_alloc | apply pw_below_drewN | apply below_drew1 | refine below_set ?_ GE222.out | refine below_set ?_ GE223.out | refine below_set ?_ GE224.out | refine below_set ?_ GE225.out | refine below_set ?_ GE238.out | refine below_set ?_ GE239.out) | exact HB.out)) hb)
     clear HO_239003
     clear HO_240003
     clear BK222
     clear BK223
     clear BK224
     clear BK225
     clear BK238
     clear BK239
     clear HB
     have HO_239003 := n0_
     have HO_240003 := n1_
     have BK222 := n2_
     have BK223 := n3_
     have BK224 := n4_
     have BK225 := n5_
     have BK238 := n6_
     have BK239 := n7_
     have HB := n8_
     clear n0_ n1_ n2_ n3_ n4_ n5_ n6_ n7_ n8_
     (try clear hb)
     (try clear hb2)
     (try clear hk)
     (try clear hi)
     refine hK.out _ _ ⟨(blk_cell BK224.out 0).trans rfl, (blk_cell BK224.out 1).trans rfl, (blk_cell BK224.out 2).trans rfl, (blk_cell BK224.out 3).trans rfl, (blk_cell BK225.out 0).trans rfl, (blk_cell BK225.out 1).trans rfl, (blk_cell BK225.out 2).trans rfl, (blk_cell BK225.out 3).trans rfl⟩ (fun hHeld => ?_)
     clear hK K
     refine norm_ (a' := ?_) ?_ ?_
     rotate_left
     ·show Act.put _ (some 47) _ = _
      simp only [Act.put, List.setIfInBounds_toArray, List.set_cons_zero, List.set_cons_succ, i64_w, i32_w]
      rfl
     refine one_ (i := 5) (N := some 49) #[true, true, true, true, true, true, false, true, true, true, false, false, false] rfl rfl (one_of HT_.out (by kernel_rfl)) (by decide) (fun K hK => ?_)
     refine goes_ Tryd.func16 (by kernel_rfl) rfl #[.agg #[.int .i64 a3_0, .int .i64 a3_1, .int .i64 a3_2, .int .i64 a3_3]] (by rfl) rfl rfl (by (try simp only [List.map_toArray, List.map_cons, List.map_nil]); first | done | rfl) ?_
     with_reducible refine (line_Reply.calls kj8 a3_0 a3_1 a3_2 a3_3 t247 _ A62.out (XTabs.Tabs.below HT.out (by repeat (first | (with_reducible first | exact HB.out | exact FB.out | exact HB | apply below_alloc | apply pw_below_drewN | apply below_drew1 | refine below_set ?_ (Aside0.out (by assumption))) | exact HB.out | exact FB.out)))).mono ?_
     rintro e w66 ⟨rfl, hb⟩
     refine ⟨_, rfl, ?_⟩
     (try clear A62)
     have n0_ := Aside0.mk (Kd.V_below (by (with_reducible repeat (first | apply va | apply vb | apply vc)); exact HO_239003.out) hb)
     have n1_ := Aside0.mk (Kd.V_below (by (with_reducible repeat (first | apply va | apply vb | apply vc)); exact HO_240003.out) hb)
     have n2_ := Aside0.mk (blk_below (g := gb222) (o := q0 a0_0 a0_1 a0_2 A0_3 l0_3 c0_3) (by (with_reducible repeat (first | refine kc ?_ _ | refine kb ?_ | refine ka ?_ _)); exact BK222.out) hb)
     have n3_ := Aside0.mk (blk_below (g := gb223) (o := q0 a1_0 a1_1 a1_2 A1_3 l1_3 c1_3) (by (with_reducible repeat (first | refine kc ?_ _ | refine kb ?_ | refine ka ?_ _)); exact BK223.out) hb)
     have n4_ := Aside0.mk (blk_below (g := gb224) (o := q1 a2_0 a2_1 a2_2 a2_3) (by (with_reducible repeat (first | refine kc ?_ _ | refine kb ?_ | refine ka ?_ _)); exact BK224.out) hb)
     have n5_ := Aside0.mk (blk_below (g := gb225) (o := q1 a3_0 a3_1 a3_2 a3_3) (by (with_reducible repeat (first | refine kc ?_ _ | refine kb ?_ | refine ka ?_ _)); exact BK225.out) hb)
     have n6_ := Aside0.mk (blk_below (g := gb238) (o := q0 t226 t227 t228 Ao23 t229 co23) (by (with_reducible repeat (first | refine kc ?_ _ | refine kb ?_ | refine ka ?_ _)); exact BK238.out) hb)
     have n7_ := Aside0.mk (blk_below (g := gb239) (o := q0 t232 t233 t234 Ao28 t235 co28) (by (with_reducible repeat (first | refine kc ?_ _ | refine kb ?_ | refine ka ?_ _)); exact BK239.out) hb)
     have n8_ := Aside0.mk (below_step (by repeat (first | (with_reducible first | exact HB.out | apply below_alloc | apply pw_below_drewN | apply below_drew1 | refine below_set ?_ GE222.out | refine below_set ?_ GE223.out | refine below_set ?_ GE224.out | refine below_set ?_ GE225.out | refine below_set ?_ GE238.out | refine below_set ?_ GE239.out) | exact HB.out)) hb)
     clear HO_239003
     clear HO_240003
     clear BK222
     clear BK223
     clear BK224
     clear BK225
     clear BK238
     clear BK239
     clear HB
     have HO_239003 := n0_
     have HO_240003 := n1_
     have BK222 := n2_
     have BK223 := n3_
     have BK224 := n4_
     have BK225 := n5_
     have BK238 := n6_
     have BK239 := n7_
     have HB := n8_
     clear n0_ n1_ n2_ n3_ n4_ n5_ n6_ n7_ n8_
     (try clear hb)
     (try clear hb2)
     (try clear hk)
     (try clear hi)
     refine hK.out _ _ ⟨(blk_cell BK224.out 0).trans rfl, (blk_cell BK224.out 1).trans rfl, (blk_cell BK224.out 2).trans rfl, (blk_cell BK224.out 3).trans rfl, (blk_cell BK225.out 0).trans rfl, (blk_cell BK225.out 1).trans rfl, (blk_cell BK225.out 2).trans rfl, (blk_cell BK225.out 3).trans rfl⟩ (fun hHeld => ?_)
     clear hK K
     refine norm_ (a' := ?_) ?_ ?_
     rotate_left
     ·show Act.put _ (some 49) _ = _
      simp only [Act.put, List.setIfInBounds_toArray, List.set_cons_zero, List.set_cons_succ, i64_w, i32_w]
      rfl
     refine pure_ (i := 6) (N := some 50) (v := ?_) (a' := ?_) #[true, true, true, true, true, true, true, true, true, true, false, false, false] rfl rfl (any_of HT_.out (by kernel_rfl)) (fun _ _ _ h => h) (Or.inl ⟨by rfl, ?_⟩) ?_ ?_
     rotate_left
     ·intro w'
      go_simp
      with_reducible rfl
     rotate_left
     ·simp only [Act.put, List.setIfInBounds_toArray, List.set_cons_zero, List.set_cons_succ, i64_w, i32_w]
      rfl
     refine pure_ (i := 10) (N := some 54) (v := ?_) (a' := ?_) #[true, true, true, true, true, true, true, true, true, true, true, false, false] rfl rfl (any_of HT_.out (by kernel_rfl)) (fun _ _ _ h => h) (Or.inl ⟨by rfl, ?_⟩) ?_ ?_
     rotate_left
     ·intro w'
      go_simp
      with_reducible rfl
     rotate_left
     ·simp only [Act.put, List.setIfInBounds_toArray, List.set_cons_zero, List.set_cons_succ, i64_w, i32_w]
      rfl
     refine pure_ (i := 11) (N := some 55) (v := ?_) (a' := ?_) #[true, true, true, true, true, true, true, true, true, true, true, true, false] rfl rfl (any_of HT_.out (by kernel_rfl)) (fun _ _ _ h => h) (Or.inl ⟨by rfl, ?_⟩) ?_ ?_
     rotate_left
     ·intro w'
      go_simp
      with_reducible rfl
     rotate_left
     ·simp only [Act.put, List.setIfInBounds_toArray, List.set_cons_zero, List.set_cons_succ, i64_w, i32_w]
      rfl
     refine pure_ (i := 12) (N := some 8) (v := ?_) (a' := ?_) #[true, true, true, true, true, true, true, true, true, true, true, true, true] rfl rfl (any_of HT_.out (by kernel_rfl)) (fun _ _ _ h => h) (Or.inl ⟨by rfl, ?_⟩) ?_ ?_
     rotate_left
     ·intro w'
      go_simp
      with_reducible rfl
     rotate_left
     ·simp only [Act.put, List.setIfInBounds_toArray, List.set_cons_zero, List.set_cons_succ, i64_w, i32_w]
      rfl
     refine done_ (done_of HT_.out (by kernel_rfl)) ?_
     try go_wp2
     go_ret
     exact ⟨by first | rfl | (simp [errW_none, errW_some] <;> rfl) | (simp [*, errW_none, errW_some] <;> rfl), by repeat (first | (with_reducible first | exact HB.out | apply below_alloc | apply pw_below_drewN | apply below_drew1 | refine below_set ?_ GE222.out | refine below_set ?_ GE223.out | refine below_set ?_ GE224.out | refine below_set ?_ GE225.out | refine below_set ?_ GE238.out | refine below_set ?_ GE239.out) | exact HB.out)⟩
    ·replace c60 := Bool.eq_false_iff.mpr c60
     subst c60
     have H1 : (some false) = some r := by rw [if_neg (show ¬ (false = true) by decide)] at H; exact H
     clear H
     have H := H1
     clear H1
     exact absurd (show some false = some true from hr ▸ H) (by simp)  -- 3
def prebendlaw27_LineUnlike.Pure : Prop := ∀ (a0_0 : Int) (a0_1 : ByteArray) (a0_2 : ByteArray) (l0_3 : List Int) (a1_0 : Int) (a1_1 : ByteArray) (a1_2 : ByteArray) (l1_3 : List Int) (a2_0 : Int) (a2_1 : Int) (a2_2 : Int) (a2_3 : Int) (a3_0 : Int) (a3_1 : Int) (a3_2 : Int) (a3_3 : Int), (Lit.int .i64 a0_0).wf = true → a0_1.size ≤ 140737488351232 → a0_2.size ≤ 140737488351232 → (l0_3.length * 8 ≤ 140737488351232 ∧ ∀ y ∈ l0_3, (Lit.int .i64 y).wf = true) → (Lit.int .i64 a1_0).wf = true → a1_1.size ≤ 140737488351232 → a1_2.size ≤ 140737488351232 → (l1_3.length * 8 ≤ 140737488351232 ∧ ∀ y ∈ l1_3, (Lit.int .i64 y).wf = true) → (Lit.int .i64 a2_0).wf = true → (Lit.int .i64 a2_1).wf = true → (Lit.int .i64 a2_2).wf = true → (Lit.int .i64 a2_3).wf = true → (Lit.int .i64 a3_0).wf = true → (Lit.int .i64 a3_1).wf = true → (Lit.int .i64 a3_2).wf = true → (Lit.int .i64 a3_3).wf = true → ∃ k, prebendlaw27_LineUnlike.f k a0_0 a0_1 a0_2 l0_3 a1_0 a1_1 a1_2 l1_3 a2_0 a2_1 a2_2 a2_3 a3_0 a3_1 a3_2 a3_3 = some true

end Go.Proofs.YtkenihkjdbdlkaaDoor.QLineUnlike
