/- Written by a program of this session (wip/tools/mp.sh): functions as Lean functions, with proofs that the calls come to what they say. Lean checks it. -/
import Derived.Test.YtkenihkjdbdlkaaDoorXPlain
import Derived.Test.YtkenihkjdbdlkaaDoorQLineUnlikex0
import Derived.Test.YtkenihkjdbdlkaaDoorQLineUnlikex2
import Derived.Test.YtkenihkjdbdlkaaDoorQLineUnlikex3
import Derived.Test.YtkenihkjdbdlkaaDoorQLineUnlikex4
namespace Go.Proofs.YtkenihkjdbdlkaaDoor.QLineUnlike
open Go.RowKit Go.Proofs.YtkenihkjdbdlkaaDoorW.PrintWords Go.Proofs.YtkenihkjdbdlkaaDoorW.PrintLast Go.Proofs.YtkenihkjdbdlkaaDoorW.PrintMore
attribute [local go_sem] max2_int min2_int max_two min_two max_three min_three max_four min_four   -- for this text's walks alone
set_option linter.unusedVariables false
set_option linter.unusedSimpArgs false

/-! ### prebendref27_Same: function 20 -/
mutual
def prebendref27_Same.j0 : Nat → Bool → Int → ByteArray → ByteArray → List Int → Int → ByteArray → ByteArray → List Int → Option (Bool)
 | 0, _, _, _, _, _, _, _, _, _ => none
 | k + 1, x33, x188000, x188001, x188002, x188003, x189000, x189001, x189002, x189003 => if x33 = true then (some false) else (prebendref27_Same.l0 k 0 x188000 x188001 x188002 x188003 x189000 x189001 x189002 x189003)
def prebendref27_Same.l0 : Nat → Int → Int → ByteArray → ByteArray → List Int → Int → ByteArray → ByteArray → List Int → Option (Bool)
 | 0, _, _, _, _, _, _, _, _, _ => none
 | k + 1, x5, x188000, x188001, x188002, x188003, x189000, x189001, x189002, x189003 => if x5 < (x188003.length : Int) then (if 0 ≤ x5 then (if x5 < (x189003.length : Int) then (if (rd x188003 x5) = (rd x189003 x5) then (prebendref27_Same.l0 k (wrap64 (x5 + 1)) x188000 x188001 x188002 x188003 x189000 x189001 x189002 x189003) else (some false)) else (none)) else (none)) else (some true)
end
def prebendref27_Same.f (k : Nat) (a0_0 : Int) (a0_1 : ByteArray) (a0_2 : ByteArray) (l0_3 : List Int) (a1_0 : Int) (a1_1 : ByteArray) (a1_2 : ByteArray) (l1_3 : List Int) : Option (Bool) := if a0_0 = a1_0 then (if a0_1.toList = a1_1.toList then (if a0_2.toList = a1_2.toList then (prebendref27_Same.j0 k ((l0_3.length : Int) != (l1_3.length : Int)) a0_0 a0_1 a0_2 l0_3 a1_0 a1_1 a1_2 l1_3) else (prebendref27_Same.j0 k true a0_0 a0_1 a0_2 l0_3 a1_0 a1_1 a1_2 l1_3)) else (prebendref27_Same.j0 k true a0_0 a0_1 a0_2 l0_3 a1_0 a1_1 a1_2 l1_3)) else (prebendref27_Same.j0 k true a0_0 a0_1 a0_2 l0_3 a1_0 a1_1 a1_2 l1_3)
theorem prebendref27_Same.mono_l : ∀ k, (∀ y0 y1 y2 y3 y4 y5 y6 y7 y8, LeO (prebendref27_Same.j0 k y0 y1 y2 y3 y4 y5 y6 y7 y8) (prebendref27_Same.j0 (k + 1) y0 y1 y2 y3 y4 y5 y6 y7 y8)) ∧ (∀ y0 y1 y2 y3 y4 y5 y6 y7 y8, LeO (prebendref27_Same.l0 k y0 y1 y2 y3 y4 y5 y6 y7 y8) (prebendref27_Same.l0 (k + 1) y0 y1 y2 y3 y4 y5 y6 y7 y8))
 | 0 => ⟨fun _ _ _ _ _ _ _ _ _ r h => by simp [prebendref27_Same.j0] at h, fun _ _ _ _ _ _ _ _ _ r h => by simp [prebendref27_Same.l0] at h⟩
 | k + 1 => by
  obtain ⟨ih0, ih1⟩ := prebendref27_Same.mono_l k
  refine ⟨?_, ?_⟩
  ·intro y0 y1 y2 y3 y4 y5 y6 y7 y8
   unfold prebendref27_Same.j0
   repeat' first
   | (with_reducible exact ih0 _ _ _ _ _ _ _ _ _)
   | (with_reducible exact ih1 _ _ _ _ _ _ _ _ _)
   | (with_reducible exact LeO.refl _)
   | (with_reducible exact LeO.none _)
   | (with_reducible refine LeO.ite ?_ ?_)
   | (with_reducible refine LeO.bind ?_ (fun _ => ?_))
   | exact ih0 _ _ _ _ _ _ _ _ _
   | exact ih1 _ _ _ _ _ _ _ _ _
   | exact LeO.none _
   | refine LeO.ite ?_ ?_
   | refine LeO.bind ?_ (fun _ => ?_)
  ·intro y0 y1 y2 y3 y4 y5 y6 y7 y8
   unfold prebendref27_Same.l0
   repeat' first
   | (with_reducible exact ih0 _ _ _ _ _ _ _ _ _)
   | (with_reducible exact ih1 _ _ _ _ _ _ _ _ _)
   | (with_reducible exact LeO.refl _)
   | (with_reducible exact LeO.none _)
   | (with_reducible refine LeO.ite ?_ ?_)
   | (with_reducible refine LeO.bind ?_ (fun _ => ?_))
   | exact ih0 _ _ _ _ _ _ _ _ _
   | exact ih1 _ _ _ _ _ _ _ _ _
   | exact LeO.none _
   | refine LeO.ite ?_ ?_
   | refine LeO.bind ?_ (fun _ => ?_)
theorem prebendref27_Same.mono : ∀ a0 a1 a2 a3 a4 a5 a6 a7 k, LeO (prebendref27_Same.f k a0 a1 a2 a3 a4 a5 a6 a7) (prebendref27_Same.f (k + 1) a0 a1 a2 a3 a4 a5 a6 a7) := by
 intro a0 a1 a2 a3 a4 a5 a6 a7 k
 obtain ⟨ih0, ih1⟩ := prebendref27_Same.mono_l k
 unfold prebendref27_Same.f
 repeat' first
   | (with_reducible exact ih0 _ _ _ _ _ _ _ _ _)
   | (with_reducible exact ih1 _ _ _ _ _ _ _ _ _)
   | (with_reducible exact LeO.refl _)
   | (with_reducible exact LeO.none _)
   | (with_reducible refine LeO.ite ?_ ?_)
   | (with_reducible refine LeO.bind ?_ (fun _ => ?_))
   | exact ih0 _ _ _ _ _ _ _ _ _
   | exact ih1 _ _ _ _ _ _ _ _ _
   | exact LeO.none _
   | refine LeO.ite ?_ ?_
   | refine LeO.bind ?_ (fun _ => ?_)
set_option maxHeartbeats 8000000 in
set_option maxRecDepth 100000 in
theorem prebendref27_Same.calls (k : Nat) (a0_0 : Int) (a0_1 : ByteArray) (a0_2 : ByteArray) (A0_3 : Option Addr) (c0_3 : Nat) (l0_3 : List Int) (a1_0 : Int) (a1_1 : ByteArray) (a1_2 : ByteArray) (A1_3 : Option Addr) (c1_3 : Nat) (l1_3 : List Int) (r : Bool) (w : World) (hr0_3 : Kd.C (Kd.int .i64) w A0_3 l0_3.length l0_3) (hc0_3 : l0_3.length ≤ c0_3) (hr1_3 : Kd.C (Kd.int .i64) w A1_3 l1_3.length l1_3) (hc1_3 : l1_3.length ≤ c1_3) (h : prebendref27_Same.f k a0_0 a0_1 a0_2 l0_3 a1_0 a1_1 a1_2 l1_3 = some r) :
  Calls Tryd.prog 20 #[.agg #[.int .i64 a0_0, .string a0_1, .string a0_2, .slice A0_3 l0_3.length c0_3], .agg #[.int .i64 a1_0, .string a1_1, .string a1_2, .slice A1_3 l1_3.length c1_3]] w fun e w' => e = .returned (.bool r) ∧ Below w.heap.size w w' := by
 have hu24 := Tryd.underlying24
 have HR0_3 := Aside0.mk hr0_3
 have HC0_3 := Aside0.mk hc0_3
 clear hr0_3 hc0_3
 have HR1_3 := Aside0.mk hr1_3
 have HC1_3 := Aside0.mk hc1_3
 clear hr1_3 hc1_3
 have HB := Aside0.mk (Below.refl w.heap.size w)
 have H : (if a0_0 = a1_0 then (if a0_1.toList = a1_1.toList then (if a0_2.toList = a1_2.toList then (prebendref27_Same.j0 k ((l0_3.length : Int) != (l1_3.length : Int)) a0_0 a0_1 a0_2 l0_3 a1_0 a1_1 a1_2 l1_3) else (prebendref27_Same.j0 k true a0_0 a0_1 a0_2 l0_3 a1_0 a1_1 a1_2 l1_3)) else (prebendref27_Same.j0 k true a0_0 a0_1 a0_2 l0_3 a1_0 a1_1 a1_2 l1_3)) else (prebendref27_Same.j0 k true a0_0 a0_1 a0_2 l0_3 a1_0 a1_1 a1_2 l1_3)) = some r := h
 clear h
 have HC3 := Aside0.mk H
 clear H
 go_enter Tryd.func20, Tryd.ntmps20
 go_upto_region 1 with (first | ((with_reducible refine gate_dst (N := 2) rfl ?_); (try (refine gate_guard (by rfl) ?_; dsimp only)); refine box_event ?hg (N := 2) ?hd (cs := #[.int .i64 a0_0, .string a0_1, .string a0_2, .slice A0_3 l0_3.length c0_3]) (t := 24) ?hr ?_; (case hd => rfl); (case hg => rfl); (case hr => first | (go_simp; done) | (go_simp; rfl)); intro gb187 hg w4 hbox hb; have n0_ := Aside0.mk (below_step (by repeat (first | (with_reducible first | exact HB.out | apply below_alloc | apply pw_below_drewN | apply below_drew1) | exact HB.out)) hb); have n1_ := Aside0.mk (hbox); have n2_ := Aside0.mk ((by rw [hg]; exact (below_size (by repeat (first | (with_reducible first | exact HB.out | apply below_alloc | apply pw_below_drewN | apply below_drew1) | exact HB.out))) : w.heap.size ≤ gb187)); have n3_ := Aside0.mk ((by rw [hg]; exact (below_size (by repeat (first | (with_reducible first | exact HB.out | apply below_alloc | apply pw_below_drewN | apply below_drew1) | exact HB.out))) : w.heap.size ≤ gb187)); clear HB; have HB := n0_; have BK187 := n1_; have GW187 := n2_; have GE187 := n3_; clear n0_ n1_ n2_ n3_; clear hb hbox hg) | ((with_reducible refine gate_dst (N := 3) rfl ?_); (try (refine gate_guard (by rfl) ?_; dsimp only)); refine box_event ?hg (N := 3) ?hd (cs := #[.int .i64 a1_0, .string a1_1, .string a1_2, .slice A1_3 l1_3.length c1_3]) (t := 24) ?hr ?_; (case hd => rfl); (case hg => rfl); (case hr => first | (go_simp; done) | (go_simp; rfl)); intro gb188 hg w5 hbox hb; have n0_ := Aside0.mk (blk_below (g := gb187) (o := .cells #[.int .i64 a0_0, .string a0_1, .string a0_2, .slice A0_3 l0_3.length c0_3] 24 (0, 0)) (by (with_reducible repeat (first | refine kc ?_ _ | refine kb ?_ | refine ka ?_ _)); exact BK187.out) hb); have n1_ := Aside0.mk (below_step (by repeat (first | (with_reducible first | exact HB.out | apply below_alloc | apply pw_below_drewN | apply below_drew1 | refine below_set ?_ GE187.out) | exact HB.out)) hb); have n2_ := Aside0.mk (hbox); have n3_ := Aside0.mk ((by rw [hg]; exact (below_size (by repeat (first | (with_reducible first | exact HB.out | apply below_alloc | apply pw_below_drewN | apply below_drew1 | refine below_set ?_ GE187.out) | exact HB.out))) : w.heap.size ≤ gb188)); have n4_ := Aside0.mk ((by rw [hg]; exact (below_size (by repeat (first | (with_reducible first | exact HB.out | apply below_alloc | apply pw_below_drewN | apply below_drew1 | refine below_set ?_ GE187.out) | exact HB.out))) : w.heap.size ≤ gb188)); have n5_ := Aside0.mk ((by rw [hg]; exact Nat.ne_of_lt (blk_lt (g := gb187) (o := .cells #[.int .i64 a0_0, .string a0_1, .string a0_2, .slice A0_3 l0_3.length c0_3] 24 (0, 0)) (by (with_reducible repeat (first | refine kc ?_ _ | refine kb ?_ | refine ka ?_ _)); exact BK187.out)) : gb187 ≠ gb188)); have n6_ := Aside0.mk ((by rw [hg]; exact Nat.ne_of_gt (blk_lt (g := gb187) (o := .cells #[.int .i64 a0_0, .string a0_1, .string a0_2, .slice A0_3 l0_3.length c0_3] 24 (0, 0)) (by (with_reducible repeat (first | refine kc ?_ _ | refine kb ?_ | refine ka ?_ _)); exact BK187.out)) : gb188 ≠ gb187)); clear BK187; clear HB; have BK187 := n0_; have HB := n1_; have BK188 := n2_; have GW188 := n3_; have GE188 := n4_; have NB187_188 := n5_; have NB188_187 := n6_; clear n0_ n1_ n2_ n3_ n4_ n5_ n6_; clear hb hbox hg))
 repeat (go_quiet (first | ((with_reducible refine gate_dst (N := 2) rfl ?_); (try (refine gate_guard (by rfl) ?_; dsimp only)); refine box_event ?hg (N := 2) ?hd (cs := #[.int .i64 a0_0, .string a0_1, .string a0_2, .slice A0_3 l0_3.length c0_3]) (t := 24) ?hr ?_; (case hd => rfl); (case hg => rfl); (case hr => first | (go_simp; done) | (go_simp; rfl)); intro gb187 hg w4 hbox hb; have n0_ := Aside0.mk (below_step (by repeat (first | (with_reducible first | exact HB.out | apply below_alloc | apply pw_below_drewN | apply below_drew1) | exact HB.out)) hb); have n1_ := Aside0.mk (hbox); have n2_ := Aside0.mk ((by rw [hg]; exact (below_size (by repeat (first | (with_reducible first | exact HB.out | apply below_alloc | apply pw_below_drewN | apply below_drew1) | exact HB.out))) : w.heap.size ≤ gb187)); have n3_ := Aside0.mk ((by rw [hg]; exact (below_size (by repeat (first | (with_reducible first | exact HB.out | apply below_alloc | apply pw_below_drewN | apply below_drew1) | exact HB.out))) : w.heap.size ≤ gb187)); clear HB; have HB := n0_; have BK187 := n1_; have GW187 := n2_; have GE187 := n3_; clear n0_ n1_ n2_ n3_; clear hb hbox hg) | ((with_reducible refine gate_dst (N := 3) rfl ?_); (try (refine gate_guard (by rfl) ?_; dsimp only)); refine box_event ?hg (N := 3) ?hd (cs := #[.int .i64 a1_0, .string a1_1, .string a1_2, .slice A1_3 l1_3.length c1_3]) (t := 24) ?hr ?_; (case hd => rfl); (case hg => rfl); (case hr => first | (go_simp; done) | (go_simp; rfl)); intro gb188 hg w5 hbox hb; have n0_ := Aside0.mk (blk_below (g := gb187) (o := .cells #[.int .i64 a0_0, .string a0_1, .string a0_2, .slice A0_3 l0_3.length c0_3] 24 (0, 0)) (by (with_reducible repeat (first | refine kc ?_ _ | refine kb ?_ | refine ka ?_ _)); exact BK187.out) hb); have n1_ := Aside0.mk (below_step (by repeat (first | (with_reducible first | exact HB.out | apply below_alloc | apply pw_below_drewN | apply below_drew1 | refine below_set ?_ GE187.out) | exact HB.out)) hb); have n2_ := Aside0.mk (hbox); have n3_ := Aside0.mk ((by rw [hg]; exact (below_size (by repeat (first | (with_reducible first | exact HB.out | apply below_alloc | apply pw_below_drewN | apply below_drew1 | refine below_set ?_ GE187.out) | exact HB.out))) : w.heap.size ≤ gb188)); have n4_ := Aside0.mk ((by rw [hg]; exact (below_size (by repeat (first | (with_reducible first | exact HB.out | apply below_alloc | apply pw_below_drewN | apply below_drew1 | refine below_set ?_ GE187.out) | exact HB.out))) : w.heap.size ≤ gb188)); have n5_ := Aside0.mk ((by rw [hg]; exact Nat.ne_of_lt (blk_lt (g := gb187) (o := .cells #[.int .i64 a0_0, .string a0_1, .string a0_2, .slice A0_3 l0_3.length c0_3] 24 (0, 0)) (by (with_reducible repeat (first | refine kc ?_ _ | refine kb ?_ | refine ka ?_ _)); exact BK187.out)) : gb187 ≠ gb188)); have n6_ := Aside0.mk ((by rw [hg]; exact Nat.ne_of_gt (blk_lt (g := gb187) (o := .cells #[.int .i64 a0_0, .string a0_1, .string a0_2, .slice A0_3 l0_3.length c0_3] 24 (0, 0)) (by (with_reducible repeat (first | refine kc ?_ _ | refine kb ?_ | refine ka ?_ _)); exact BK187.out)) : gb188 ≠ gb187)); clear BK187; clear HB; have BK187 := n0_; have HB := n1_; have BK188 := n2_; have GW188 := n3_; have GE188 := n4_; have NB187_188 := n5_; have NB188_187 := n6_; clear n0_ n1_ n2_ n3_ n4_ n5_ n6_; clear hb hbox hg)); go_upto_region 1 with (first | ((with_reducible refine gate_dst (N := 2) rfl ?_); (try (refine gate_guard (by rfl) ?_; dsimp only)); refine box_event ?hg (N := 2) ?hd (cs := #[.int .i64 a0_0, .string a0_1, .string a0_2, .slice A0_3 l0_3.length c0_3]) (t := 24) ?hr ?_; (case hd => rfl); (case hg => rfl); (case hr => first | (go_simp; done) | (go_simp; rfl)); intro gb187 hg w4 hbox hb; have n0_ := Aside0.mk (below_step (by repeat (first | (with_reducible first | exact HB.out | apply below_alloc | apply pw_below_drewN | apply below_drew1) | exact HB.out)) hb); have n1_ := Aside0.mk (hbox); have n2_ := Aside0.mk ((by rw [hg]; exact (below_size (by repeat (first | (with_reducible first | exact HB.out | apply below_alloc | apply pw_below_drewN | apply below_drew1) | exact HB.out))) : w.heap.size ≤ gb187)); have n3_ := Aside0.mk ((by rw [hg]; exact (below_size (by repeat (first | (with_reducible first | exact HB.out | apply below_alloc | apply pw_below_drewN | apply below_drew1) | exact HB.out))) : w.heap.size ≤ gb187)); clear HB; have HB := n0_; have BK187 := n1_; have GW187 := n2_; have GE187 := n3_; clear n0_ n1_ n2_ n3_; clear hb hbox hg) | ((with_reducible refine gate_dst (N := 3) rfl ?_); (try (refine gate_guard (by rfl) ?_; dsimp only)); refine box_event ?hg (N := 3) ?hd (cs := #[.int .i64 a1_0, .string a1_1, .string a1_2, .slice A1_3 l1_3.length c1_3]) (t := 24) ?hr ?_; (case hd => rfl); (case hg => rfl); (case hr => first | (go_simp; done) | (go_simp; rfl)); intro gb188 hg w5 hbox hb; have n0_ := Aside0.mk (blk_below (g := gb187) (o := .cells #[.int .i64 a0_0, .string a0_1, .string a0_2, .slice A0_3 l0_3.length c0_3] 24 (0, 0)) (by (with_reducible repeat (first | refine kc ?_ _ | refine kb ?_ | refine ka ?_ _)); exact BK187.out) hb); have n1_ := Aside0.mk (below_step (by repeat (first | (with_reducible first | exact HB.out | apply below_alloc | apply pw_below_drewN | apply below_drew1 | refine below_set ?_ GE187.out) | exact HB.out)) hb); have n2_ := Aside0.mk (hbox); have n3_ := Aside0.mk ((by rw [hg]; exact (below_size (by repeat (first | (with_reducible first | exact HB.out | apply below_alloc | apply pw_below_drewN | apply below_drew1 | refine below_set ?_ GE187.out) | exact HB.out))) : w.heap.size ≤ gb188)); have n4_ := Aside0.mk ((by rw [hg]; exact (below_size (by repeat (first | (with_reducible first | exact HB.out | apply below_alloc | apply pw_below_drewN | apply below_drew1 | refine below_set ?_ GE187.out) | exact HB.out))) : w.heap.size ≤ gb188)); have n5_ := Aside0.mk ((by rw [hg]; exact Nat.ne_of_lt (blk_lt (g := gb187) (o := .cells #[.int .i64 a0_0, .string a0_1, .string a0_2, .slice A0_3 l0_3.length c0_3] 24 (0, 0)) (by (with_reducible repeat (first | refine kc ?_ _ | refine kb ?_ | refine ka ?_ _)); exact BK187.out)) : gb187 ≠ gb188)); have n6_ := Aside0.mk ((by rw [hg]; exact Nat.ne_of_gt (blk_lt (g := gb187) (o := .cells #[.int .i64 a0_0, .string a0_1, .string a0_2, .slice A0_3 l0_3.length c0_3] 24 (0, 0)) (by (with_reducible repeat (first | refine kc ?_ _ | refine kb ?_ | refine ka ?_ _)); exact BK187.out)) : gb188 ≠ gb187)); clear BK187; clear HB; have BK187 := n0_; have HB := n1_; have BK188 := n2_; have GW188 := n3_; have GE188 := n4_; have NB187_188 := n5_; have NB188_187 := n6_; clear n0_ n1_ n2_ n3_ n4_ n5_ n6_; clear hb hbox hg)))
 (try simp only [Act.put, List.setIfInBounds_toArray, List.set_cons_zero, List.set_cons_succ])
 go_cut [33] (fun v33 wc => ∃ (kq : Nat) (x33_2 : Bool), v33 = .bool x33_2 ∧ Aside0 (prebendref27_Same.j0 kq x33_2 a0_0 a0_1 a0_2 l0_3 a1_0 a1_1 a1_2 l1_3 = some r) ∧ Aside0 (kq ≤ k) ∧ Aside0 (wc.heap[gb187]? = some (.cells #[.int .i64 a0_0, .string a0_1, .string a0_2, (.slice A0_3 l0_3.length c0_3)] 24 (0, 0))) ∧ Aside0 (wc.heap[gb188]? = some (.cells #[.int .i64 a1_0, .string a1_1, .string a1_2, (.slice A1_3 l1_3.length c1_3)] 24 (0, 0))) ∧ Aside0 (Below w.heap.size w wc))
 case first =>
  have H := HC3.out
  clear HC3
  by_cases c6 : a0_0 = a1_0
  ·rw [if_pos c6] at H
   have c6b0 : (a0_0 == a1_0) = true := beq_iff_eq.mpr c6
   have c6b1 : (a0_0 != a1_0) = false := bne_eq_false_iff_eq.mpr c6
   clear c6
   (first | rw [c6b0] | (simp only [i64_w, i32_w]; rw [c6b0]) | skip)
   by_cases c7 : a0_1.toList = a1_1.toList
   ·rw [if_pos c7] at H
    have c7b0 : (a0_1.toList == a1_1.toList) = true := beq_iff_eq.mpr c7
    have c7b1 : (a0_1.toList != a1_1.toList) = false := bne_eq_false_iff_eq.mpr c7
    clear c7
    by_cases c8 : a0_2.toList = a1_2.toList
    ·rw [if_pos c8] at H
     have c8b0 : (a0_2.toList == a1_2.toList) = true := beq_iff_eq.mpr c8
     have c8b1 : (a0_2.toList != a1_2.toList) = false := bne_eq_false_iff_eq.mpr c8
     clear c8
     have H' := Aside0.mk H
     clear H
     have hnb9 := NB187_188.out
     have hnc9 := NB188_187.out
     have hcz10_0 : w5.cell? ⟨gb187, 0, none⟩ = some (.int .i64 a0_0) := (blk_cell BK187.out 0).trans rfl
     have hcz10_1 : w5.cell? ⟨gb187, 1, none⟩ = some (.string a0_1) := (blk_cell BK187.out 1).trans rfl
     have hcz10_2 : w5.cell? ⟨gb187, 2, none⟩ = some (.string a0_2) := (blk_cell BK187.out 2).trans rfl
     have hcz10_3 : w5.cell? ⟨gb187, 3, none⟩ = some (.slice A0_3 l0_3.length c0_3) := (blk_cell BK187.out 3).trans rfl
     have hfz10_0 := blk_frozen BK187.out 0
     have hfz10_1 := blk_frozen BK187.out 1
     have hfz10_2 := blk_frozen BK187.out 2
     have hfz10_3 := blk_frozen BK187.out 3
     have hcz11_0 : w5.cell? ⟨gb188, 0, none⟩ = some (.int .i64 a1_0) := (blk_cell BK188.out 0).trans rfl
     have hcz11_1 : w5.cell? ⟨gb188, 1, none⟩ = some (.string a1_1) := (blk_cell BK188.out 1).trans rfl
     have hcz11_2 : w5.cell? ⟨gb188, 2, none⟩ = some (.string a1_2) := (blk_cell BK188.out 2).trans rfl
     have hcz11_3 : w5.cell? ⟨gb188, 3, none⟩ = some (.slice A1_3 l1_3.length c1_3) := (blk_cell BK188.out 3).trans rfl
     have hfz11_0 := blk_frozen BK188.out 0
     have hfz11_1 := blk_frozen BK188.out 1
     have hfz11_2 := blk_frozen BK188.out 2
     have hfz11_3 := blk_frozen BK188.out 3
     go_wp2
     repeat (go_quiet (fail); try go_wp2)
     go_meet
     case rel => exact ⟨_, (((l0_3.length : Int) != (l1_3.length : Int))), (by first | rfl | (simp; done) | (simp [*]; done)), H', ⟨by first | omega | exact Nat.le_refl _⟩, ⟨by (with_reducible repeat (first | refine kc ?_ _ | refine kb ?_ | refine ka ?_ _)); exact BK187.out⟩, ⟨by (with_reducible repeat (first | refine kc ?_ _ | refine kb ?_ | refine ka ?_ _)); exact BK188.out⟩, ⟨by repeat (first | (with_reducible first | exact HB.out | apply below_alloc | apply pw_below_drewN | apply below_drew1 | refine below_set ?_ GE187.out | refine below_set ?_ GE188.out) | exact HB.out)⟩⟩
    ·rw [if_neg c8] at H
     have c8b0 : (a0_2.toList == a1_2.toList) = false := beq_eq_false_iff_ne.mpr c8
     have c8b1 : (a0_2.toList != a1_2.toList) = true := bne_iff_ne.mpr c8
     have H' := Aside0.mk H
     clear H
     have hnb12 := NB187_188.out
     have hnc12 := NB188_187.out
     have hcz13_0 : w5.cell? ⟨gb187, 0, none⟩ = some (.int .i64 a0_0) := (blk_cell BK187.out 0).trans rfl
     have hcz13_1 : w5.cell? ⟨gb187, 1, none⟩ = some (.string a0_1) := (blk_cell BK187.out 1).trans rfl
     have hcz13_2 : w5.cell? ⟨gb187, 2, none⟩ = some (.string a0_2) := (blk_cell BK187.out 2).trans rfl
     have hcz13_3 : w5.cell? ⟨gb187, 3, none⟩ = some (.slice A0_3 l0_3.length c0_3) := (blk_cell BK187.out 3).trans rfl
     have hfz13_0 := blk_frozen BK187.out 0
     have hfz13_1 := blk_frozen BK187.out 1
     have hfz13_2 := blk_frozen BK187.out 2
     have hfz13_3 := blk_frozen BK187.out 3
     have hcz14_0 : w5.cell? ⟨gb188, 0, none⟩ = some (.int .i64 a1_0) := (blk_cell BK188.out 0).trans rfl
     have hcz14_1 : w5.cell? ⟨gb188, 1, none⟩ = some (.string a1_1) := (blk_cell BK188.out 1).trans rfl
     have hcz14_2 : w5.cell? ⟨gb188, 2, none⟩ = some (.string a1_2) := (blk_cell BK188.out 2).trans rfl
     have hcz14_3 : w5.cell? ⟨gb188, 3, none⟩ = some (.slice A1_3 l1_3.length c1_3) := (blk_cell BK188.out 3).trans rfl
     have hfz14_0 := blk_frozen BK188.out 0
     have hfz14_1 := blk_frozen BK188.out 1
     have hfz14_2 := blk_frozen BK188.out 2
     have hfz14_3 := blk_frozen BK188.out 3
     go_wp2
     repeat (go_quiet (fail); try go_wp2)
     go_meet
     case rel => exact ⟨_, (true), (by first | rfl | (simp; done) | (simp [*]; done)), H', ⟨by first | omega | exact Nat.le_refl _⟩, ⟨by (with_reducible repeat (first | refine kc ?_ _ | refine kb ?_ | refine ka ?_ _)); exact BK187.out⟩, ⟨by (with_reducible repeat (first | refine kc ?_ _ | refine kb ?_ | refine ka ?_ _)); exact BK188.out⟩, ⟨by repeat (first | (with_reducible first | exact HB.out | apply below_alloc | apply pw_below_drewN | apply below_drew1 | refine below_set ?_ GE187.out | refine below_set ?_ GE188.out) | exact HB.out)⟩⟩
   ·rw [if_neg c7] at H
    have c7b0 : (a0_1.toList == a1_1.toList) = false := beq_eq_false_iff_ne.mpr c7
    have c7b1 : (a0_1.toList != a1_1.toList) = true := bne_iff_ne.mpr c7
    have H' := Aside0.mk H
    clear H
    have hnb15 := NB187_188.out
    have hnc15 := NB188_187.out
    have hcz16_0 : w5.cell? ⟨gb187, 0, none⟩ = some (.int .i64 a0_0) := (blk_cell BK187.out 0).trans rfl
    have hcz16_1 : w5.cell? ⟨gb187, 1, none⟩ = some (.string a0_1) := (blk_cell BK187.out 1).trans rfl
    have hcz16_2 : w5.cell? ⟨gb187, 2, none⟩ = some (.string a0_2) := (blk_cell BK187.out 2).trans rfl
    have hcz16_3 : w5.cell? ⟨gb187, 3, none⟩ = some (.slice A0_3 l0_3.length c0_3) := (blk_cell BK187.out 3).trans rfl
    have hfz16_0 := blk_frozen BK187.out 0
    have hfz16_1 := blk_frozen BK187.out 1
    have hfz16_2 := blk_frozen BK187.out 2
    have hfz16_3 := blk_frozen BK187.out 3
    have hcz17_0 : w5.cell? ⟨gb188, 0, none⟩ = some (.int .i64 a1_0) := (blk_cell BK188.out 0).trans rfl
    have hcz17_1 : w5.cell? ⟨gb188, 1, none⟩ = some (.string a1_1) := (blk_cell BK188.out 1).trans rfl
    have hcz17_2 : w5.cell? ⟨gb188, 2, none⟩ = some (.string a1_2) := (blk_cell BK188.out 2).trans rfl
    have hcz17_3 : w5.cell? ⟨gb188, 3, none⟩ = some (.slice A1_3 l1_3.length c1_3) := (blk_cell BK188.out 3).trans rfl
    have hfz17_0 := blk_frozen BK188.out 0
    have hfz17_1 := blk_frozen BK188.out 1
    have hfz17_2 := blk_frozen BK188.out 2
    have hfz17_3 := blk_frozen BK188.out 3
    go_wp2
    repeat (go_quiet (fail); try go_wp2)
    go_meet
    case rel => exact ⟨_, (true), (by first | rfl | (simp; done) | (simp [*]; done)), H', ⟨by first | omega | exact Nat.le_refl _⟩, ⟨by (with_reducible repeat (first | refine kc ?_ _ | refine kb ?_ | refine ka ?_ _)); exact BK187.out⟩, ⟨by (with_reducible repeat (first | refine kc ?_ _ | refine kb ?_ | refine ka ?_ _)); exact BK188.out⟩, ⟨by repeat (first | (with_reducible first | exact HB.out | apply below_alloc | apply pw_below_drewN | apply below_drew1 | refine below_set ?_ GE187.out | refine below_set ?_ GE188.out) | exact HB.out)⟩⟩
  ·rw [if_neg c6] at H
   have c6b0 : (a0_0 == a1_0) = false := beq_eq_false_iff_ne.mpr c6
   have c6b1 : (a0_0 != a1_0) = true := bne_iff_ne.mpr c6
   (first | rw [c6b0] | (simp only [i64_w, i32_w]; rw [c6b0]) | skip)
   have H' := Aside0.mk H
   clear H
   have hnb18 := NB187_188.out
   have hnc18 := NB188_187.out
   have hcz19_0 : w5.cell? ⟨gb187, 0, none⟩ = some (.int .i64 a0_0) := (blk_cell BK187.out 0).trans rfl
   have hcz19_1 : w5.cell? ⟨gb187, 1, none⟩ = some (.string a0_1) := (blk_cell BK187.out 1).trans rfl
   have hcz19_2 : w5.cell? ⟨gb187, 2, none⟩ = some (.string a0_2) := (blk_cell BK187.out 2).trans rfl
   have hcz19_3 : w5.cell? ⟨gb187, 3, none⟩ = some (.slice A0_3 l0_3.length c0_3) := (blk_cell BK187.out 3).trans rfl
   have hfz19_0 := blk_frozen BK187.out 0
   have hfz19_1 := blk_frozen BK187.out 1
   have hfz19_2 := blk_frozen BK187.out 2
   have hfz19_3 := blk_frozen BK187.out 3
   have hcz20_0 : w5.cell? ⟨gb188, 0, none⟩ = some (.int .i64 a1_0) := (blk_cell BK188.out 0).trans rfl
   have hcz20_1 : w5.cell? ⟨gb188, 1, none⟩ = some (.string a1_1) := (blk_cell BK188.out 1).trans rfl
   have hcz20_2 : w5.cell? ⟨gb188, 2, none⟩ = some (.string a1_2) := (blk_cell BK188.out 2).trans rfl
   have hcz20_3 : w5.cell? ⟨gb188, 3, none⟩ = some (.slice A1_3 l1_3.length c1_3) := (blk_cell BK188.out 3).trans rfl
   have hfz20_0 := blk_frozen BK188.out 0
   have hfz20_1 := blk_frozen BK188.out 1
   have hfz20_2 := blk_frozen BK188.out 2
   have hfz20_3 := blk_frozen BK188.out 3
   go_wp2
   repeat (go_quiet (fail); try go_wp2)
   go_meet
   case rel => exact ⟨_, (true), (by first | rfl | (simp; done) | (simp [*]; done)), H', ⟨by first | omega | exact Nat.le_refl _⟩, ⟨by (with_reducible repeat (first | refine kc ?_ _ | refine kb ?_ | refine ka ?_ _)); exact BK187.out⟩, ⟨by (with_reducible repeat (first | refine kc ?_ _ | refine kb ?_ | refine ka ?_ _)); exact BK188.out⟩, ⟨by repeat (first | (with_reducible first | exact HB.out | apply below_alloc | apply pw_below_drewN | apply below_drew1 | refine below_set ?_ GE187.out | refine below_set ?_ GE188.out) | exact HB.out)⟩⟩
 case rest =>
  clear HC3
  try clear c1
  try clear c2
  try clear p2
  try clear c6
  try clear c6b0
  try clear c6b1
  try clear c7
  try clear c7b0
  try clear c7b1
  try clear c8
  try clear c8b0
  try clear c8b1
  try clear c9
  try clear c12
  try clear c15
  try clear c18
  try clear c20
  try clear hcz10_0
  try clear hcz10_1
  try clear hcz10_2
  try clear hcz10_3
  try clear hcz11_0
  try clear hcz11_1
  try clear hcz11_2
  try clear hcz11_3
  try clear hcz13_0
  try clear hcz13_1
  try clear hcz13_2
  try clear hcz13_3
  try clear hcz14_0
  try clear hcz14_1
  try clear hcz14_2
  try clear hcz14_3
  try clear hcz16_0
  try clear hcz16_1
  try clear hcz16_2
  try clear hcz16_3
  try clear hcz17_0
  try clear hcz17_1
  try clear hcz17_2
  try clear hcz17_3
  try clear hcz19_0
  try clear hcz19_1
  try clear hcz19_2
  try clear hcz19_3
  try clear hcz20_0
  try clear hcz20_1
  try clear hcz20_2
  try clear hcz20_3
  try clear hfz10_0
  try clear hfz10_1
  try clear hfz10_2
  try clear hfz10_3
  try clear hfz11_0
  try clear hfz11_1
  try clear hfz11_2
  try clear hfz11_3
  try clear hfz13_0
  try clear hfz13_1
  try clear hfz13_2
  try clear hfz13_3
  try clear hfz14_0
  try clear hfz14_1
  try clear hfz14_2
  try clear hfz14_3
  try clear hfz16_0
  try clear hfz16_1
  try clear hfz16_2
  try clear hfz16_3
  try clear hfz17_0
  try clear hfz17_1
  try clear hfz17_2
  try clear hfz17_3
  try clear hfz19_0
  try clear hfz19_1
  try clear hfz19_2
  try clear hfz19_3
  try clear hfz20_0
  try clear hfz20_1
  try clear hfz20_2
  try clear hfz20_3
  obtain ⟨kq, x33_2, rfl, HA, HJ2, BK187, BK188, HB⟩ := hcut
  cases kq with
  | zero => exact absurd HA.out (by simp [prebendref27_Same.j0])
  | succ kj2 =>
   have H := HA.out
   clear HA
   simp only [prebendref27_Same.j0] at H
   by_cases c21 : x33_2 = true
   ·subst c21
    have H1 : (some false) = some r := by rw [if_pos rfl] at H; exact H
    clear H
    have H := H1
    clear H1
    obtain rfl := Option.some.inj H
    go_wp2
    repeat (go_quiet (fail); try go_wp2)
    go_ret
    exact ⟨by first | rfl | (simp [errW_none, errW_some] <;> rfl) | (simp [*, errW_none, errW_some] <;> rfl), by repeat (first | (with_reducible first | exact HB.out | apply below_alloc | apply pw_below_drewN | apply below_drew1 | refine below_set ?_ GE187.out | refine below_set ?_ GE188.out) | exact HB.out)⟩
   ·replace c21 := Bool.eq_false_iff.mpr c21
    subst c21
    have H1 : (prebendref27_Same.l0 kj2 0 a0_0 a0_1 a0_2 l0_3 a1_0 a1_1 a1_2 l1_3) = some r := by rw [if_neg (show ¬ (false = true) by decide)] at H; exact H
    clear H
    have H := H1
    clear H1
    have H' := Aside0.mk H
    clear H
    go_wp2
    repeat (go_quiet (fail); try go_wp2)
    go_loopg [5] kj2 (fun kq v5 w' => ∃ (x5_2 : Int), v5 = .int .i64 x5_2 ∧ Aside0 (prebendref27_Same.l0 kq x5_2 a0_0 a0_1 a0_2 l0_3 a1_0 a1_1 a1_2 l1_3 = some r) ∧ Aside0 (kq ≤ kj2) ∧ Aside0 (w'.heap[gb187]? = some (.cells #[.int .i64 a0_0, .string a0_1, .string a0_2, (.slice A0_3 l0_3.length c0_3)] 24 (0, 0))) ∧ Aside0 (w'.heap[gb188]? = some (.cells #[.int .i64 a1_0, .string a1_1, .string a1_2, (.slice A1_3 l1_3.length c1_3)] 24 (0, 0))) ∧ Aside0 (Below w.heap.size w w'))
    case atStart => exact ⟨(0), (by first | rfl | (simp; done) | (simp [*]; done)), H', ⟨Nat.le_refl _⟩, ⟨by (with_reducible repeat (first | refine kc ?_ _ | refine kb ?_ | refine ka ?_ _)); exact BK187.out⟩, ⟨by (with_reducible repeat (first | refine kc ?_ _ | refine kb ?_ | refine ka ?_ _)); exact BK188.out⟩, ⟨by repeat (first | (with_reducible first | exact HB.out | apply below_alloc | apply pw_below_drewN | apply below_drew1 | refine below_set ?_ GE187.out | refine below_set ?_ GE188.out) | exact HB.out)⟩⟩
    case round =>
     clear H'
     try clear c1
     try clear c2
     try clear p2
     try clear c6
     try clear c6b0
     try clear c6b1
     try clear c7
     try clear c7b0
     try clear c7b1
     try clear c8
     try clear c8b0
     try clear c8b1
     try clear c9
     try clear c12
     try clear c15
     try clear c18
     try clear c20
     try clear c21
     try clear hcz10_0
     try clear hcz10_1
     try clear hcz10_2
     try clear hcz10_3
     try clear hcz11_0
     try clear hcz11_1
     try clear hcz11_2
     try clear hcz11_3
     try clear hcz13_0
     try clear hcz13_1
     try clear hcz13_2
     try clear hcz13_3
     try clear hcz14_0
     try clear hcz14_1
     try clear hcz14_2
     try clear hcz14_3
     try clear hcz16_0
     try clear hcz16_1
     try clear hcz16_2
     try clear hcz16_3
     try clear hcz17_0
     try clear hcz17_1
     try clear hcz17_2
     try clear hcz17_3
     try clear hcz19_0
     try clear hcz19_1
     try clear hcz19_2
     try clear hcz19_3
     try clear hcz20_0
     try clear hcz20_1
     try clear hcz20_2
     try clear hcz20_3
     try clear hfz10_0
     try clear hfz10_1
     try clear hfz10_2
     try clear hfz10_3
     try clear hfz11_0
     try clear hfz11_1
     try clear hfz11_2
     try clear hfz11_3
     try clear hfz13_0
     try clear hfz13_1
     try clear hfz13_2
     try clear hfz13_3
     try clear hfz14_0
     try clear hfz14_1
     try clear hfz14_2
     try clear hfz14_3
     try clear hfz16_0
     try clear hfz16_1
     try clear hfz16_2
     try clear hfz16_3
     try clear hfz17_0
     try clear hfz17_1
     try clear hfz17_2
     try clear hfz17_3
     try clear hfz19_0
     try clear hfz19_1
     try clear hfz19_2
     try clear hfz19_3
     try clear hfz20_0
     try clear hfz20_1
     try clear hfz20_2
     try clear hfz20_3
     try clear p2
     obtain ⟨x5_2, rfl, HA, HK2, BK187, BK188, HB⟩ := hrel
     cases gk with
     | zero => exact absurd HA.out (by simp [prebendref27_Same.l0])
     | succ k2 =>
      have H := HA.out
      clear HA
      simp only [prebendref27_Same.l0] at H
      by_cases c22 : x5_2 < (l0_3.length : Int)
      ·rw [if_pos c22] at H
       have c22b0 : decide (x5_2 < (l0_3.length : Int)) = true := decide_eq_true c22
       clear c22
       by_cases c23 : 0 ≤ x5_2
       ·rw [if_pos c23] at H
        have c23b0 : decide (0 ≤ x5_2) = true := decide_eq_true c23
        clear c23
        by_cases c24 : x5_2 < (l1_3.length : Int)
        ·rw [if_pos c24] at H
         have c24b0 : decide (x5_2 < (l1_3.length : Int)) = true := decide_eq_true c24
         clear c24
         by_cases c25 : (rd l0_3 x5_2) = (rd l1_3 x5_2)
         ·rw [if_pos c25] at H
          have c25b0 : ((rd l0_3 x5_2) == (rd l1_3 x5_2)) = true := beq_iff_eq.mpr c25
          have c25b1 : ((rd l0_3 x5_2) != (rd l1_3 x5_2)) = false := bne_eq_false_iff_eq.mpr c25
          clear c25
          have H' := Aside0.mk H
          clear H
          have hnb26 := NB187_188.out
          have hnc26 := NB188_187.out
          have hcz27_0 : wr.cell? ⟨gb187, 0, none⟩ = some (.int .i64 a0_0) := (blk_cell BK187.out 0).trans rfl
          have hcz27_1 : wr.cell? ⟨gb187, 1, none⟩ = some (.string a0_1) := (blk_cell BK187.out 1).trans rfl
          have hcz27_2 : wr.cell? ⟨gb187, 2, none⟩ = some (.string a0_2) := (blk_cell BK187.out 2).trans rfl
          have hcz27_3 : wr.cell? ⟨gb187, 3, none⟩ = some (.slice A0_3 l0_3.length c0_3) := (blk_cell BK187.out 3).trans rfl
          have hfz27_0 := blk_frozen BK187.out 0
          have hfz27_1 := blk_frozen BK187.out 1
          have hfz27_2 := blk_frozen BK187.out 2
          have hfz27_3 := blk_frozen BK187.out 3
          have p189 : 0 ≤ (x5_2 : Int) := of_decide_eq_true (by first | (with_reducible assumption) | assumption)
          have q189 : x5_2 < (l0_3.length : Int) := of_decide_eq_true (by first | (with_reducible assumption) | assumption)
          obtain ⟨ad189, e189, hx189_0⟩ := Kd.at_int HR0_3.out x5_2 p189 q189
          cases e189
          replace hx189_0 := (HB.out.cell (World.block_lt_of_cell? w _ hx189_0)).trans hx189_0
          replace p189 := eq_true p189
          replace q189 := eq_true q189
          have hcz28_0 : wr.cell? ⟨gb188, 0, none⟩ = some (.int .i64 a1_0) := (blk_cell BK188.out 0).trans rfl
          have hcz28_1 : wr.cell? ⟨gb188, 1, none⟩ = some (.string a1_1) := (blk_cell BK188.out 1).trans rfl
          have hcz28_2 : wr.cell? ⟨gb188, 2, none⟩ = some (.string a1_2) := (blk_cell BK188.out 2).trans rfl
          have hcz28_3 : wr.cell? ⟨gb188, 3, none⟩ = some (.slice A1_3 l1_3.length c1_3) := (blk_cell BK188.out 3).trans rfl
          have hfz28_0 := blk_frozen BK188.out 0
          have hfz28_1 := blk_frozen BK188.out 1
          have hfz28_2 := blk_frozen BK188.out 2
          have hfz28_3 := blk_frozen BK188.out 3
          have p190 : 0 ≤ (x5_2 : Int) := of_decide_eq_true (by first | (with_reducible assumption) | assumption)
          have q190 : x5_2 < (l1_3.length : Int) := of_decide_eq_true (by first | (with_reducible assumption) | assumption)
          obtain ⟨ad190, e190, hx190_0⟩ := Kd.at_int HR1_3.out x5_2 p190 q190
          cases e190
          replace hx190_0 := (HB.out.cell (World.block_lt_of_cell? w _ hx190_0)).trans hx190_0
          replace p190 := eq_true p190
          replace q190 := eq_true q190
          go_wp2
          repeat (go_quiet (fail); try go_wp2)
          go_roundg k2
          case measure => have := HJ2.out; have := HK2.out; omega
          case rel => exact ⟨(wrap64 (x5_2 + 1)), (by first | rfl | (simp; done) | (simp [*]; done)), H', ⟨by have := HJ2.out; have := HK2.out; omega⟩, ⟨by (with_reducible repeat (first | refine kc ?_ _ | refine kb ?_ | refine ka ?_ _)); exact BK187.out⟩, ⟨by (with_reducible repeat (first | refine kc ?_ _ | refine kb ?_ | refine ka ?_ _)); exact BK188.out⟩, ⟨by repeat (first | (with_reducible first | exact HB.out | apply below_alloc | apply pw_below_drewN | apply below_drew1 | refine below_set ?_ GE187.out | refine below_set ?_ GE188.out) | exact HB.out)⟩⟩
         ·rw [if_neg c25] at H
          have c25b0 : ((rd l0_3 x5_2) == (rd l1_3 x5_2)) = false := beq_eq_false_iff_ne.mpr c25
          have c25b1 : ((rd l0_3 x5_2) != (rd l1_3 x5_2)) = true := bne_iff_ne.mpr c25
          obtain rfl := Option.some.inj H
          have hnb29 := NB187_188.out
          have hnc29 := NB188_187.out
          have hcz30_0 : wr.cell? ⟨gb187, 0, none⟩ = some (.int .i64 a0_0) := (blk_cell BK187.out 0).trans rfl
          have hcz30_1 : wr.cell? ⟨gb187, 1, none⟩ = some (.string a0_1) := (blk_cell BK187.out 1).trans rfl
          have hcz30_2 : wr.cell? ⟨gb187, 2, none⟩ = some (.string a0_2) := (blk_cell BK187.out 2).trans rfl
          have hcz30_3 : wr.cell? ⟨gb187, 3, none⟩ = some (.slice A0_3 l0_3.length c0_3) := (blk_cell BK187.out 3).trans rfl
          have hfz30_0 := blk_frozen BK187.out 0
          have hfz30_1 := blk_frozen BK187.out 1
          have hfz30_2 := blk_frozen BK187.out 2
          have hfz30_3 := blk_frozen BK187.out 3
          have p189 : 0 ≤ (x5_2 : Int) := of_decide_eq_true (by first | (with_reducible assumption) | assumption)
          have q189 : x5_2 < (l0_3.length : Int) := of_decide_eq_true (by first | (with_reducible assumption) | assumption)
          obtain ⟨ad189, e189, hx189_0⟩ := Kd.at_int HR0_3.out x5_2 p189 q189
          cases e189
          replace hx189_0 := (HB.out.cell (World.block_lt_of_cell? w _ hx189_0)).trans hx189_0
          replace p189 := eq_true p189
          replace q189 := eq_true q189
          have hcz31_0 : wr.cell? ⟨gb188, 0, none⟩ = some (.int .i64 a1_0) := (blk_cell BK188.out 0).trans rfl
          have hcz31_1 : wr.cell? ⟨gb188, 1, none⟩ = some (.string a1_1) := (blk_cell BK188.out 1).trans rfl
          have hcz31_2 : wr.cell? ⟨gb188, 2, none⟩ = some (.string a1_2) := (blk_cell BK188.out 2).trans rfl
          have hcz31_3 : wr.cell? ⟨gb188, 3, none⟩ = some (.slice A1_3 l1_3.length c1_3) := (blk_cell BK188.out 3).trans rfl
          have hfz31_0 := blk_frozen BK188.out 0
          have hfz31_1 := blk_frozen BK188.out 1
          have hfz31_2 := blk_frozen BK188.out 2
          have hfz31_3 := blk_frozen BK188.out 3
          have p190 : 0 ≤ (x5_2 : Int) := of_decide_eq_true (by first | (with_reducible assumption) | assumption)
          have q190 : x5_2 < (l1_3.length : Int) := of_decide_eq_true (by first | (with_reducible assumption) | assumption)
          obtain ⟨ad190, e190, hx190_0⟩ := Kd.at_int HR1_3.out x5_2 p190 q190
          cases e190
          replace hx190_0 := (HB.out.cell (World.block_lt_of_cell? w _ hx190_0)).trans hx190_0
          replace p190 := eq_true p190
          replace q190 := eq_true q190
          go_wp2
          repeat (go_quiet (fail); try go_wp2)
          go_ret
          exact ⟨by first | rfl | (simp [errW_none, errW_some] <;> rfl) | (simp [*, errW_none, errW_some] <;> rfl), by repeat (first | (with_reducible first | exact HB.out | apply below_alloc | apply pw_below_drewN | apply below_drew1 | refine below_set ?_ GE187.out | refine below_set ?_ GE188.out) | exact HB.out)⟩
        ·rw [if_neg c24] at H
         exact absurd H (by simp)
       ·rw [if_neg c23] at H
        exact absurd H (by simp)
      ·rw [if_neg c22] at H
       have c22b0 : decide (x5_2 < (l0_3.length : Int)) = false := decide_eq_false c22
       clear c22
       obtain rfl := Option.some.inj H
       have hnb32 := NB187_188.out
       have hnc32 := NB188_187.out
       have hcz33_0 : wr.cell? ⟨gb187, 0, none⟩ = some (.int .i64 a0_0) := (blk_cell BK187.out 0).trans rfl
       have hcz33_1 : wr.cell? ⟨gb187, 1, none⟩ = some (.string a0_1) := (blk_cell BK187.out 1).trans rfl
       have hcz33_2 : wr.cell? ⟨gb187, 2, none⟩ = some (.string a0_2) := (blk_cell BK187.out 2).trans rfl
       have hcz33_3 : wr.cell? ⟨gb187, 3, none⟩ = some (.slice A0_3 l0_3.length c0_3) := (blk_cell BK187.out 3).trans rfl
       have hfz33_0 := blk_frozen BK187.out 0
       have hfz33_1 := blk_frozen BK187.out 1
       have hfz33_2 := blk_frozen BK187.out 2
       have hfz33_3 := blk_frozen BK187.out 3
       go_wp2
       repeat (go_quiet (fail); try go_wp2)
       go_ret
       exact ⟨by first | rfl | (simp [errW_none, errW_some] <;> rfl) | (simp [*, errW_none, errW_some] <;> rfl), by repeat (first | (with_reducible first | exact HB.out | apply below_alloc | apply pw_below_drewN | apply below_drew1 | refine below_set ?_ GE187.out | refine below_set ?_ GE188.out) | exact HB.out)⟩

/-! ### prebendlaw27_awake: function 15 -/
def prebendlaw27_awake.f (k : Nat)  : Option (Bool) := (line_Parse.f k (⟨#[102, 117, 110, 100, 32, 45, 49, 32, 48, 32, 110, 97, 109, 101, 32, 114, 111, 111, 116, 32, 107, 101, 121, 32, 34, 107, 32, 49, 34, 32, 35, 32, 115, 111]⟩ : ByteArray)).bind fun bt191 => ((line_Print.f k bt191.1 bt191.2.1 bt191.2.2.1 bt191.2.2.2.1).bind fun bt199 => ((line_Parse.f k (⟨#[102, 117, 110, 100, 32, 49, 32, 107, 101, 121]⟩ : ByteArray)).bind fun bt201 => ((line_Parse.f k (⟨#[110, 111, 116, 104, 105, 110, 103]⟩ : ByteArray)).bind fun bt209 => (if bt191.2.2.2.2 = 0 then ((prebendref27_Same.f k bt191.1 bt191.2.1 bt191.2.2.1 bt191.2.2.2.1 1 (⟨#[107, 32, 49]⟩ : ByteArray) (⟨#[114, 111, 111, 116]⟩ : ByteArray) (([(-1), 0] : List Int))).bind fun t220 => (if t220 = true then (if bt199.1.toList = ([102, 117, 110, 100, 32, 45, 49, 32, 48, 32, 110, 97, 109, 101, 32, 114, 111, 111, 116, 32, 107, 101, 121, 32, 34, 107, 32, 49, 34] : List UInt8) then (if bt199.2 = 0 then (if bt201.2.2.2.2 = 11 then (if bt209.2.2.2.2 = 11 then ((line_Reply.f k 4 0 0 (-1)).bind fun t221 => (some (t221.toList == ([101, 114, 114, 32, 52, 32, 48, 32, 48, 32, 45, 49] : List UInt8)))) else (some false)) else (some false)) else (some false)) else (some false)) else (some false))) else (some false)))))
theorem prebendlaw27_awake.mono : ∀ k, LeO (prebendlaw27_awake.f k ) (prebendlaw27_awake.f (k + 1) ) := by
 intro  k
 unfold prebendlaw27_awake.f
 repeat' first
   | (with_reducible exact line_Parse.mono _ _)
   | (with_reducible exact line_Print.mono _ _ _ _ _)
   | (with_reducible exact line_Reply.mono _ _ _ _ _)
   | (with_reducible exact prebendref27_Same.mono _ _ _ _ _ _ _ _ _)
   | (with_reducible exact LeO.refl _)
   | (with_reducible exact LeO.none _)
   | (with_reducible refine LeO.ite ?_ ?_)
   | (with_reducible refine LeO.bind ?_ (fun _ => ?_))
   | exact line_Parse.mono _ _
   | exact line_Print.mono _ _ _ _ _
   | exact line_Reply.mono _ _ _ _ _
   | exact prebendref27_Same.mono _ _ _ _ _ _ _ _ _
   | exact LeO.none _
   | refine LeO.ite ?_ ?_
   | refine LeO.bind ?_ (fun _ => ?_)
set_option maxHeartbeats 8000000 in
set_option maxRecDepth 100000 in
theorem prebendlaw27_awake.at60 : prebendlaw27_awake.f 60 = some true := by decide +kernel
theorem prebendlaw27_awake.yes (k : Nat) (r : Bool) (h : prebendlaw27_awake.f k = some r) : r = true :=
 Option.some.inj ((XPlain.lift_le prebendlaw27_awake.mono h (Nat.le_max_left k 60)).symm.trans (XPlain.lift_le prebendlaw27_awake.mono prebendlaw27_awake.at60 (Nat.le_max_right k 60)))
theorem prebendlaw27_awake.calls (k : Nat)  (r : Bool) (w : World) (h : prebendlaw27_awake.f k  = some r) (hT : XTabs.Tabs w) :
  Calls Tryd.prog 15 #[] w fun e w' => e = .returned (.bool r) ∧ Below w.heap.size w w' := by
 have hr : r = true := prebendlaw27_awake.yes k r h
 have HT := Aside0.mk hT
 clear hT
 have hu24 := Tryd.underlying24
 have hu27 := Tryd.underlying27
 have HB := Aside0.mk (Below.refl w.heap.size w)
 have H : ((line_Parse.f k (⟨#[102, 117, 110, 100, 32, 45, 49, 32, 48, 32, 110, 97, 109, 101, 32, 114, 111, 111, 116, 32, 107, 101, 121, 32, 34, 107, 32, 49, 34, 32, 35, 32, 115, 111]⟩ : ByteArray)).bind fun bt191 => ((line_Print.f k bt191.1 bt191.2.1 bt191.2.2.1 bt191.2.2.2.1).bind fun bt199 => ((line_Parse.f k (⟨#[102, 117, 110, 100, 32, 49, 32, 107, 101, 121]⟩ : ByteArray)).bind fun bt201 => ((line_Parse.f k (⟨#[110, 111, 116, 104, 105, 110, 103]⟩ : ByteArray)).bind fun bt209 => (if bt191.2.2.2.2 = 0 then ((prebendref27_Same.f k bt191.1 bt191.2.1 bt191.2.2.1 bt191.2.2.2.1 1 (⟨#[107, 32, 49]⟩ : ByteArray) (⟨#[114, 111, 111, 116]⟩ : ByteArray) (([(-1), 0] : List Int))).bind fun t220 => (if t220 = true then (if bt199.1.toList = ([102, 117, 110, 100, 32, 45, 49, 32, 48, 32, 110, 97, 109, 101, 32, 114, 111, 111, 116, 32, 107, 101, 121, 32, 34, 107, 32, 49, 34] : List UInt8) then (if bt199.2 = 0 then (if bt201.2.2.2.2 = 11 then (if bt209.2.2.2.2 = 11 then ((line_Reply.f k 4 0 0 (-1)).bind fun t221 => (some (t221.toList == ([101, 114, 114, 32, 52, 32, 48, 32, 48, 32, 45, 49] : List UInt8)))) else (some false)) else (some false)) else (some false)) else (some false)) else (some false))) else (some false)))))) = some r := h
 clear h
 replace H := Option.bind_eq_some_iff.mp H
 obtain ⟨⟨t191, t192, t193, t194, t197⟩, A10, H⟩ := H
 replace H : ((line_Print.f k t191 t192 t193 t194).bind fun bt199 => ((line_Parse.f k (⟨#[102, 117, 110, 100, 32, 49, 32, 107, 101, 121]⟩ : ByteArray)).bind fun bt201 => ((line_Parse.f k (⟨#[110, 111, 116, 104, 105, 110, 103]⟩ : ByteArray)).bind fun bt209 => (if t197 = 0 then ((prebendref27_Same.f k t191 t192 t193 t194 1 (⟨#[107, 32, 49]⟩ : ByteArray) (⟨#[114, 111, 111, 116]⟩ : ByteArray) (([(-1), 0] : List Int))).bind fun t220 => (if t220 = true then (if bt199.1.toList = ([102, 117, 110, 100, 32, 45, 49, 32, 48, 32, 110, 97, 109, 101, 32, 114, 111, 111, 116, 32, 107, 101, 121, 32, 34, 107, 32, 49, 34] : List UInt8) then (if bt199.2 = 0 then (if bt201.2.2.2.2 = 11 then (if bt209.2.2.2.2 = 11 then ((line_Reply.f k 4 0 0 (-1)).bind fun t221 => (some (t221.toList == ([101, 114, 114, 32, 52, 32, 48, 32, 48, 32, 45, 49] : List UInt8)))) else (some false)) else (some false)) else (some false)) else (some false)) else (some false))) else (some false))))) = some r := H
 have A1 := Aside0.mk A10
 clear A10
 replace H := Option.bind_eq_some_iff.mp H
 obtain ⟨⟨t199, t200⟩, A20, H⟩ := H
 replace H : ((line_Parse.f k (⟨#[102, 117, 110, 100, 32, 49, 32, 107, 101, 121]⟩ : ByteArray)).bind fun bt201 => ((line_Parse.f k (⟨#[110, 111, 116, 104, 105, 110, 103]⟩ : ByteArray)).bind fun bt209 => (if t197 = 0 then ((prebendref27_Same.f k t191 t192 t193 t194 1 (⟨#[107, 32, 49]⟩ : ByteArray) (⟨#[114, 111, 111, 116]⟩ : ByteArray) (([(-1), 0] : List Int))).bind fun t220 => (if t220 = true then (if t199.toList = ([102, 117, 110, 100, 32, 45, 49, 32, 48, 32, 110, 97, 109, 101, 32, 114, 111, 111, 116, 32, 107, 101, 121, 32, 34, 107, 32, 49, 34] : List UInt8) then (if t200 = 0 then (if bt201.2.2.2.2 = 11 then (if bt209.2.2.2.2 = 11 then ((line_Reply.f k 4 0 0 (-1)).bind fun t221 => (some (t221.toList == ([101, 114, 114, 32, 52, 32, 48, 32, 48, 32, 45, 49] : List UInt8)))) else (some false)) else (some false)) else (some false)) else (some false)) else (some false))) else (some false)))) = some r := H
 have A2 := Aside0.mk A20
 clear A20
 replace H := Option.bind_eq_some_iff.mp H
 obtain ⟨⟨t201, t202, t203, t204, t207⟩, A30, H⟩ := H
 replace H : ((line_Parse.f k (⟨#[110, 111, 116, 104, 105, 110, 103]⟩ : ByteArray)).bind fun bt209 => (if t197 = 0 then ((prebendref27_Same.f k t191 t192 t193 t194 1 (⟨#[107, 32, 49]⟩ : ByteArray) (⟨#[114, 111, 111, 116]⟩ : ByteArray) (([(-1), 0] : List Int))).bind fun t220 => (if t220 = true then (if t199.toList = ([102, 117, 110, 100, 32, 45, 49, 32, 48, 32, 110, 97, 109, 101, 32, 114, 111, 111, 116, 32, 107, 101, 121, 32, 34, 107, 32, 49, 34] : List UInt8) then (if t200 = 0 then (if t207 = 11 then (if bt209.2.2.2.2 = 11 then ((line_Reply.f k 4 0 0 (-1)).bind fun t221 => (some (t221.toList == ([101, 114, 114, 32, 52, 32, 48, 32, 48, 32, 45, 49] : List UInt8)))) else (some false)) else (some false)) else (some false)) else (some false)) else (some false))) else (some false))) = some r := H
 have A3 := Aside0.mk A30
 clear A30
 replace H := Option.bind_eq_some_iff.mp H
 obtain ⟨⟨t209, t210, t211, t212, t215⟩, A40, H⟩ := H
 replace H : (if t197 = 0 then ((prebendref27_Same.f k t191 t192 t193 t194 1 (⟨#[107, 32, 49]⟩ : ByteArray) (⟨#[114, 111, 111, 116]⟩ : ByteArray) (([(-1), 0] : List Int))).bind fun t220 => (if t220 = true then (if t199.toList = ([102, 117, 110, 100, 32, 45, 49, 32, 48, 32, 110, 97, 109, 101, 32, 114, 111, 111, 116, 32, 107, 101, 121, 32, 34, 107, 32, 49, 34] : List UInt8) then (if t200 = 0 then (if t207 = 11 then (if t215 = 11 then ((line_Reply.f k 4 0 0 (-1)).bind fun t221 => (some (t221.toList == ([101, 114, 114, 32, 52, 32, 48, 32, 48, 32, 45, 49] : List UInt8)))) else (some false)) else (some false)) else (some false)) else (some false)) else (some false))) else (some false)) = some r := H
 have A4 := Aside0.mk A40
 clear A40
 by_cases c5 : t197 = 0
 ·rw [if_pos c5] at H
  have c5b0 : (t197 == 0) = true := beq_iff_eq.mpr c5
  have c5b1 : (t197 != 0) = false := bne_eq_false_iff_eq.mpr c5
  clear c5
  obtain ⟨y217, hy217⟩ : ∃ y_ : List Int, y_ = (([(-1), 0] : List Int)) := ⟨_, rfl⟩
  replace H : ((prebendref27_Same.f k t191 t192 t193 t194 1 (⟨#[107, 32, 49]⟩ : ByteArray) (⟨#[114, 111, 111, 116]⟩ : ByteArray) y217).bind fun t220 => (if t220 = true then (if t199.toList = ([102, 117, 110, 100, 32, 45, 49, 32, 48, 32, 110, 97, 109, 101, 32, 114, 111, 111, 116, 32, 107, 101, 121, 32, 34, 107, 32, 49, 34] : List UInt8) then (if t200 = 0 then (if t207 = 11 then (if t215 = 11 then ((line_Reply.f k 4 0 0 (-1)).bind fun t221 => (some (t221.toList == ([101, 114, 114, 32, 52, 32, 48, 32, 48, 32, 45, 49] : List UInt8)))) else (some false)) else (some false)) else (some false)) else (some false)) else (some false))) = some r := by first | (rw [hy217]; with_reducible exact H) | (have H2_ := (Option.bind_some _ _).symm.trans H; rw [hy217]; with_reducible exact H2_) | (have H2_ := (Option.bind_some _ _).symm.trans H; with_reducible exact H2_) | with_reducible exact H | (rw [hy217]; exact H) | exact H
  have Ny217 := Aside0.mk hy217
  clear hy217
  replace H := Option.bind_eq_some_iff.mp H
  obtain ⟨t220, A60, H⟩ := H
  replace H : (if t220 = true then (if t199.toList = ([102, 117, 110, 100, 32, 45, 49, 32, 48, 32, 110, 97, 109, 101, 32, 114, 111, 111, 116, 32, 107, 101, 121, 32, 34, 107, 32, 49, 34] : List UInt8) then (if t200 = 0 then (if t207 = 11 then (if t215 = 11 then ((line_Reply.f k 4 0 0 (-1)).bind fun t221 => (some (t221.toList == ([101, 114, 114, 32, 52, 32, 48, 32, 48, 32, 45, 49] : List UInt8)))) else (some false)) else (some false)) else (some false)) else (some false)) else (some false)) = some r := H
  have A6 := Aside0.mk A60
  clear A60
  by_cases c7 : t220 = true
  ·subst c7
   have H1 : (if t199.toList = ([102, 117, 110, 100, 32, 45, 49, 32, 48, 32, 110, 97, 109, 101, 32, 114, 111, 111, 116, 32, 107, 101, 121, 32, 34, 107, 32, 49, 34] : List UInt8) then (if t200 = 0 then (if t207 = 11 then (if t215 = 11 then ((line_Reply.f k 4 0 0 (-1)).bind fun t221 => (some (t221.toList == ([101, 114, 114, 32, 52, 32, 48, 32, 48, 32, 45, 49] : List UInt8)))) else (some false)) else (some false)) else (some false)) else (some false)) = some r := by rw [if_pos rfl] at H; exact H
   clear H
   have H := H1
   clear H1
   by_cases c8 : t199.toList = ([102, 117, 110, 100, 32, 45, 49, 32, 48, 32, 110, 97, 109, 101, 32, 114, 111, 111, 116, 32, 107, 101, 121, 32, 34, 107, 32, 49, 34] : List UInt8)
   ·rw [if_pos c8] at H
    have c8b0 : (t199.toList == ([102, 117, 110, 100, 32, 45, 49, 32, 48, 32, 110, 97, 109, 101, 32, 114, 111, 111, 116, 32, 107, 101, 121, 32, 34, 107, 32, 49, 34] : List UInt8)) = true := beq_iff_eq.mpr c8
    have c8b1 : (t199.toList != ([102, 117, 110, 100, 32, 45, 49, 32, 48, 32, 110, 97, 109, 101, 32, 114, 111, 111, 116, 32, 107, 101, 121, 32, 34, 107, 32, 49, 34] : List UInt8)) = false := bne_eq_false_iff_eq.mpr c8
    clear c8
    by_cases c9 : t200 = 0
    ·rw [if_pos c9] at H
     have c9b0 : (t200 == 0) = true := beq_iff_eq.mpr c9
     have c9b1 : (t200 != 0) = false := bne_eq_false_iff_eq.mpr c9
     clear c9
     by_cases c10 : t207 = 11
     ·rw [if_pos c10] at H
      have c10b0 : (t207 == 11) = true := beq_iff_eq.mpr c10
      have c10b1 : (t207 != 11) = false := bne_eq_false_iff_eq.mpr c10
      clear c10
      by_cases c11 : t215 = 11
      ·rw [if_pos c11] at H
       have c11b0 : (t215 == 11) = true := beq_iff_eq.mpr c11
       have c11b1 : (t215 != 11) = false := bne_eq_false_iff_eq.mpr c11
       clear c11
       replace H := Option.bind_eq_some_iff.mp H
       obtain ⟨t221, A120, H⟩ := H
       replace H : (some (t221.toList == ([101, 114, 114, 32, 52, 32, 48, 32, 48, 32, 45, 49] : List UInt8))) = some r := H
       have A12 := Aside0.mk A120
       clear A120
       obtain rfl := Option.some.inj H
       go_enter Tryd.func15, Tryd.ntmps15
       go_wp2_with (first | ((with_reducible refine gate_callee (f := 18) rfl ?_); refine goesL_ (some 10) rfl rfl Tryd.func18 (by kernel_rfl) rfl #[.string (⟨#[102, 117, 110, 100, 32, 45, 49, 32, 48, 32, 110, 97, 109, 101, 32, 114, 111, 111, 116, 32, 107, 101, 121, 32, 34, 107, 32, 49, 34, 32, 35, 32, 115, 111]⟩ : ByteArray)] rfl (by (try simp only [List.map_toArray, List.map_cons, List.map_nil]); first | done | rfl) ?_; (with_reducible refine (line_Parse.calls k (⟨#[102, 117, 110, 100, 32, 45, 49, 32, 48, 32, 110, 97, 109, 101, 32, 114, 111, 111, 116, 32, 107, 101, 121, 32, 34, 107, 32, 49, 34, 32, 35, 32, 115, 111]⟩ : ByteArray) t191 t192 t193 t194 t197 _ A1.out (XTabs.Tabs.below HT.out (by repeat (first | (with_reducible first | exact HB.out | exact FB.out | exact HB | apply below_alloc | apply pw_below_drewN | apply below_drew1 | refine below_set ?_ (Aside0.out (by assumption))) | exact HB.out | exact FB.out)))).mono ?_); rintro e w13 ⟨v195, rfl, ho0, hb⟩; refine ⟨_, rfl, ?_⟩; have n0_ := Aside0.mk (Kd.R_lower ho0 (below_size (by repeat (first | (with_reducible first | exact HB.out | apply below_alloc | apply pw_below_drewN | apply below_drew1) | exact HB.out)))); have n1_ := Aside0.mk (below_step (by repeat (first | (with_reducible first | exact HB.out | apply below_alloc | apply pw_below_drewN | apply below_drew1) | exact HB.out)) hb); clear HB; have HO196 := n0_; have HB := n1_; clear n0_ n1_; (try clear hb); (try clear hb2); (try clear hk); (try clear hi); (try clear ho0)) | ((with_reducible refine gate_dst (N := 1) rfl ?_); (try (refine gate_guard (by rfl) ?_; dsimp only)); refine box_event ?hg (N := 1) ?hd (cs := #[.int .i64 0, .string (⟨#[]⟩ : ByteArray), .string (⟨#[]⟩ : ByteArray), .slice none 0 0]) (t := 24) ?hr ?_; (case hd => rfl); (case hg => rfl); (case hr => first | (go_simp; done) | (go_simp; rfl)); intro gb198 hg w14 hbox hb; have n0_ := Aside0.mk (Kd.R_below (by (with_reducible repeat (first | apply ra | apply rb | apply rc)); exact HO196.out) hb); have n1_ := Aside0.mk (below_step (by repeat (first | (with_reducible first | exact HB.out | apply below_alloc | apply pw_below_drewN | apply below_drew1) | exact HB.out)) hb); have n2_ := Aside0.mk (hbox); have n3_ := Aside0.mk ((by rw [hg]; exact (below_size (by repeat (first | (with_reducible first | exact HB.out | apply below_alloc | apply pw_below_drewN | apply below_drew1) | exact HB.out))) : w.heap.size ≤ gb198)); have n4_ := Aside0.mk ((by rw [hg]; exact (below_size (by repeat (first | (with_reducible first | exact HB.out | apply below_alloc | apply pw_below_drewN | apply below_drew1) | exact HB.out))) : w.heap.size ≤ gb198)); clear HO196; clear HB; have HO196 := n0_; have HB := n1_; have BK198 := n2_; have GW198 := n3_; have GE198 := n4_; clear n0_ n1_ n2_ n3_ n4_; clear hb hbox hg; have hcz15_0 : w14.cell? ⟨gb198, 0, none⟩ = some (.int .i64 0) := (blk_cell BK198.out 0).trans rfl; have hcz15_1 : w14.cell? ⟨gb198, 1, none⟩ = some (.string (⟨#[]⟩ : ByteArray)) := (blk_cell BK198.out 1).trans rfl; have hcz15_2 : w14.cell? ⟨gb198, 2, none⟩ = some (.string (⟨#[]⟩ : ByteArray)) := (blk_cell BK198.out 2).trans rfl; have hcz15_3 : w14.cell? ⟨gb198, 3, none⟩ = some (.slice none 0 0) := (blk_cell BK198.out 3).trans rfl; have hfz15_0 := blk_frozen BK198.out 0; have hfz15_1 := blk_frozen BK198.out 1; have hfz15_2 := blk_frozen BK198.out 2; have hfz15_3 := blk_frozen BK198.out 3; obtain ⟨Ao16, co16, eo16⟩ := Kd.R_slice HO196.out; subst eo16) | ((with_reducible refine gate_callee (f := 12) rfl ?_); refine goesL_ (some 15) rfl rfl Tryd.func12 (by kernel_rfl) rfl #[.agg #[.int .i64 t191, .string t192, .string t193, .slice Ao16 t194.length co16]] rfl (by (try simp only [List.map_toArray, List.map_cons, List.map_nil]); first | done | rfl) ?_; (with_reducible refine (line_Print.calls k t191 t192 t193 _ _ t194 t199 t200 _ ?side1 ?side2 A2.out (XTabs.Tabs.below HT.out (by repeat (first | (with_reducible first | exact HB.out | exact FB.out | exact HB | apply below_alloc | apply pw_below_drewN | apply below_drew1 | refine below_set ?_ (Aside0.out (by assumption))) | exact HB.out | exact FB.out)))).mono ?_); (case side1 => refine (Kd.R_reads' (e := 3) (base := w.heap.size) (ok := fun k_ => True) (n := t194.length) (c := co16) ?_).2.2; exact (by (with_reducible repeat (first | apply ra | apply rb | apply rc)); exact (Kd.R_mono (Kd.R_far (p := ⟨gb198, 3, none⟩) (Kd.R_far (p := ⟨gb198, 2, none⟩) (Kd.R_far (p := ⟨gb198, 1, none⟩) (Kd.R_far (p := ⟨gb198, 0, none⟩) (Kd.R_types HO196.out BK198.out (by decide)) (fun _ hk => hk.2) (.int .i64 t191)) (fun _ hk => hk.2) (.string t192)) (fun _ hk => hk.2) (.string t193)) (fun _ hk => hk.2) (.slice Ao16 t194.length co16)) (fun _ h_ => h_.1)))); (case side2 => exact (Kd.R_reads' HO196.out).2.1); rintro e w17 ⟨rfl, hb⟩; refine ⟨_, rfl, ?_⟩; have n0_ := Aside0.mk (Kd.R_below (by (with_reducible repeat (first | apply ra | apply rb | apply rc)); exact (Kd.R_mono (Kd.R_far (p := ⟨gb198, 3, none⟩) (Kd.R_far (p := ⟨gb198, 2, none⟩) (Kd.R_far (p := ⟨gb198, 1, none⟩) (Kd.R_far (p := ⟨gb198, 0, none⟩) (Kd.R_types HO196.out BK198.out (by decide)) (fun _ hk => hk.2) (.int .i64 t191)) (fun _ hk => hk.2) (.string t192)) (fun _ hk => hk.2) (.string t193)) (fun _ hk => hk.2) (.slice Ao16 t194.length co16)) (fun _ h_ => h_.1))) hb); have n1_ := Aside0.mk (blk_below (g := gb198) (o := .cells #[.int .i64 t191, .string t192, .string t193, .slice Ao16 t194.length co16] 24 (0, 0)) (by (with_reducible repeat (first | refine kc ?_ _ | refine kb ?_ | refine ka ?_ _)); refine blk_put (cs := #[.int .i64 t191, .string t192, .string t193, .slice none 0 0]) ?_ 3 _ rfl; (with_reducible repeat (first | refine kc ?_ _ | refine kb ?_ | refine ka ?_ _)); refine blk_put (cs := #[.int .i64 t191, .string t192, .string (⟨#[]⟩ : ByteArray), .slice none 0 0]) ?_ 2 _ rfl; (with_reducible repeat (first | refine kc ?_ _ | refine kb ?_ | refine ka ?_ _)); refine blk_put (cs := #[.int .i64 t191, .string (⟨#[]⟩ : ByteArray), .string (⟨#[]⟩ : ByteArray), .slice none 0 0]) ?_ 1 _ rfl; (with_reducible repeat (first | refine kc ?_ _ | refine kb ?_ | refine ka ?_ _)); refine blk_put (cs := #[.int .i64 0, .string (⟨#[]⟩ : ByteArray), .string (⟨#[]⟩ : ByteArray), .slice none 0 0]) ?_ 0 _ rfl; (with_reducible repeat (first | refine kc ?_ _ | refine kb ?_ | refine ka ?_ _)); exact BK198.out) hb); have n2_ := Aside0.mk (below_step (by repeat (first | (with_reducible first | exact HB.out | apply below_alloc | apply pw_below_drewN | apply below_drew1 | refine below_set ?_ GE198.out) | exact HB.out)) hb); clear HO196; clear BK198; clear HB; have HO196 := n0_; have BK198 := n1_; have HB := n2_; clear n0_ n1_ n2_; (try clear hb); (try clear hb2); (try clear hk); (try clear hi)) | ((with_reducible refine gate_callee (f := 18) rfl ?_); refine goesL_ (some 19) rfl rfl Tryd.func18 (by kernel_rfl) rfl #[.string (⟨#[102, 117, 110, 100, 32, 49, 32, 107, 101, 121]⟩ : ByteArray)] rfl (by (try simp only [List.map_toArray, List.map_cons, List.map_nil]); first | done | rfl) ?_; (with_reducible refine (line_Parse.calls k (⟨#[102, 117, 110, 100, 32, 49, 32, 107, 101, 121]⟩ : ByteArray) t201 t202 t203 t204 t207 _ A3.out (XTabs.Tabs.below HT.out (by repeat (first | (with_reducible first | exact HB.out | exact FB.out | exact HB | apply below_alloc | apply pw_below_drewN | apply below_drew1 | refine below_set ?_ (Aside0.out (by assumption))) | exact HB.out | exact FB.out)))).mono ?_); rintro e w18 ⟨v205, rfl, ho0, hb⟩; refine ⟨_, rfl, ?_⟩; have n0_ := Aside0.mk (Kd.R_elder' (by (with_reducible repeat (first | apply ra | apply rb | apply rc)); exact HO196.out) (Kd.R_base ho0) hb); have n1_ := Aside0.mk (Kd.R_lower (Kd.R_new' ho0 (Kd.R_lt (by (with_reducible repeat (first | apply ra | apply rb | apply rc)); exact HO196.out))) (below_size (by repeat (first | (with_reducible first | exact HB.out | apply below_alloc | apply pw_below_drewN | apply below_drew1 | refine below_set ?_ GE198.out) | exact HB.out)))); have n2_ := Aside0.mk (blk_below (g := gb198) (o := .cells #[.int .i64 t191, .string t192, .string t193, .slice Ao16 t194.length co16] 24 (0, 0)) (by (with_reducible repeat (first | refine kc ?_ _ | refine kb ?_ | refine ka ?_ _)); exact BK198.out) hb); have n3_ := Aside0.mk (below_step (by repeat (first | (with_reducible first | exact HB.out | apply below_alloc | apply pw_below_drewN | apply below_drew1 | refine below_set ?_ GE198.out) | exact HB.out)) hb); clear HO196; clear BK198; clear HB; have HO196 := n0_; have HO206 := n1_; have BK198 := n2_; have HB := n3_; clear n0_ n1_ n2_ n3_; (try clear hb); (try clear hb2); (try clear hk); (try clear hi); (try clear ho0)) | ((with_reducible refine gate_dst (N := 5) rfl ?_); (try (refine gate_guard (by rfl) ?_; dsimp only)); refine box_event ?hg (N := 5) ?hd (cs := #[.int .i64 0, .string (⟨#[]⟩ : ByteArray), .string (⟨#[]⟩ : ByteArray), .slice none 0 0]) (t := 24) ?hr ?_; (case hd => rfl); (case hg => rfl); (case hr => first | (go_simp; done) | (go_simp; rfl)); intro gb208 hg w19 hbox hb; have n0_ := Aside0.mk (Kd.R_below (by (with_reducible repeat (first | apply ra | apply rb | apply rc)); exact HO196.out) hb); have n1_ := Aside0.mk (Kd.R_below (by (with_reducible repeat (first | apply ra | apply rb | apply rc)); exact HO206.out) hb); have n2_ := Aside0.mk (blk_below (g := gb198) (o := .cells #[.int .i64 t191, .string t192, .string t193, .slice Ao16 t194.length co16] 24 (0, 0)) (by (with_reducible repeat (first | refine kc ?_ _ | refine kb ?_ | refine ka ?_ _)); exact BK198.out) hb); have n3_ := Aside0.mk (below_step (by repeat (first | (with_reducible first | exact HB.out | apply below_alloc | apply pw_below_drewN | apply below_drew1 | refine below_set ?_ GE198.out) | exact HB.out)) hb); have n4_ := Aside0.mk (hbox); have n5_ := Aside0.mk ((by rw [hg]; exact (below_size (by repeat (first | (with_reducible first | exact HB.out | apply below_alloc | apply pw_below_drewN | apply below_drew1 | refine below_set ?_ GE198.out) | exact HB.out))) : w.heap.size ≤ gb208)); have n6_ := Aside0.mk ((by rw [hg]; exact (below_size (by repeat (first | (with_reducible first | exact HB.out | apply below_alloc | apply pw_below_drewN | apply below_drew1 | refine below_set ?_ GE198.out) | exact HB.out))) : w.heap.size ≤ gb208)); have n7_ := Aside0.mk ((by rw [hg]; exact Nat.ne_of_lt (blk_lt (g := gb198) (o := .cells #[.int .i64 t191, .string t192, .string t193, .slice Ao16 t194.length co16] 24 (0, 0)) (by (with_reducible repeat (first | refine kc ?_ _ | refine kb ?_ | refine ka ?_ _)); exact BK198.out)) : gb198 ≠ gb208)); have n8_ := Aside0.mk ((by rw [hg]; exact Nat.ne_of_gt (blk_lt (g := gb198) (o := .cells #[.int .i64 t191, .string t192, .string t193, .slice Ao16 t194.length co16] 24 (0, 0)) (by (with_reducible repeat (first | refine kc ?_ _ | refine kb ?_ | refine ka ?_ _)); exact BK198.out)) : gb208 ≠ gb198)); clear HO196; clear HO206; clear BK198; clear HB; have HO196 := n0_; have HO206 := n1_; have BK198 := n2_; have HB := n3_; have BK208 := n4_; have GW208 := n5_; have GE208 := n6_; have NB198_208 := n7_; have NB208_198 := n8_; clear n0_ n1_ n2_ n3_ n4_ n5_ n6_ n7_ n8_; clear hb hbox hg; have hnb20 := NB208_198.out; have hnc20 := NB198_208.out; have hcz21_0 : w19.cell? ⟨gb208, 0, none⟩ = some (.int .i64 0) := (blk_cell BK208.out 0).trans rfl; have hcz21_1 : w19.cell? ⟨gb208, 1, none⟩ = some (.string (⟨#[]⟩ : ByteArray)) := (blk_cell BK208.out 1).trans rfl; have hcz21_2 : w19.cell? ⟨gb208, 2, none⟩ = some (.string (⟨#[]⟩ : ByteArray)) := (blk_cell BK208.out 2).trans rfl; have hcz21_3 : w19.cell? ⟨gb208, 3, none⟩ = some (.slice none 0 0) := (blk_cell BK208.out 3).trans rfl; have hfz21_0 := blk_frozen BK208.out 0; have hfz21_1 := blk_frozen BK208.out 1; have hfz21_2 := blk_frozen BK208.out 2; have hfz21_3 := blk_frozen BK208.out 3; obtain ⟨Ao22, co22, eo22⟩ := Kd.R_slice HO206.out; subst eo22) | ((with_reducible refine gate_callee (f := 18) rfl ?_); refine goesL_ (some 23) rfl rfl Tryd.func18 (by kernel_rfl) rfl #[.string (⟨#[110, 111, 116, 104, 105, 110, 103]⟩ : ByteArray)] rfl (by (try simp only [List.map_toArray, List.map_cons, List.map_nil]); first | done | rfl) ?_; (with_reducible refine (line_Parse.calls k (⟨#[110, 111, 116, 104, 105, 110, 103]⟩ : ByteArray) t209 t210 t211 t212 t215 _ A4.out (XTabs.Tabs.below HT.out (by repeat (first | (with_reducible first | exact HB.out | exact FB.out | exact HB | apply below_alloc | apply pw_below_drewN | apply below_drew1 | refine below_set ?_ (Aside0.out (by assumption))) | exact HB.out | exact FB.out)))).mono ?_); rintro e w23 ⟨v213, rfl, ho0, hb⟩; refine ⟨_, rfl, ?_⟩; have n0_ := Aside0.mk (Kd.R_elder' (by (with_reducible repeat (first | apply ra | apply rb | apply rc)); exact (Kd.R_mono (Kd.R_far (p := ⟨gb208, 3, none⟩) (Kd.R_far (p := ⟨gb208, 2, none⟩) (Kd.R_far (p := ⟨gb208, 1, none⟩) (Kd.R_far (p := ⟨gb208, 0, none⟩) (Kd.R_types HO196.out BK208.out (by decide)) (fun _ hk => hk.2) (.int .i64 t201)) (fun _ hk => hk.2) (.string t202)) (fun _ hk => hk.2) (.string t203)) (fun _ hk => hk.2) (.slice Ao22 t204.length co22)) (fun _ h_ => h_.1))) (Kd.R_base ho0) hb); have n1_ := Aside0.mk (Kd.R_elder' (by (with_reducible repeat (first | apply ra | apply rb | apply rc)); exact (Kd.R_mono (Kd.R_far (p := ⟨gb208, 3, none⟩) (Kd.R_far (p := ⟨gb208, 2, none⟩) (Kd.R_far (p := ⟨gb208, 1, none⟩) (Kd.R_far (p := ⟨gb208, 0, none⟩) (Kd.R_types HO206.out BK208.out (by decide)) (fun _ hk => hk.2) (.int .i64 t201)) (fun _ hk => hk.2) (.string t202)) (fun _ hk => hk.2) (.string t203)) (fun _ hk => hk.2) (.slice Ao22 t204.length co22)) (fun _ h_ => h_.1))) (Kd.R_base ho0) hb); have n2_ := Aside0.mk (Kd.R_lower (Kd.R_new' (Kd.R_new' ho0 (Kd.R_lt (by (with_reducible repeat (first | apply ra | apply rb | apply rc)); exact (Kd.R_mono (Kd.R_far (p := ⟨gb208, 3, none⟩) (Kd.R_far (p := ⟨gb208, 2, none⟩) (Kd.R_far (p := ⟨gb208, 1, none⟩) (Kd.R_far (p := ⟨gb208, 0, none⟩) (Kd.R_types HO196.out BK208.out (by decide)) (fun _ hk => hk.2) (.int .i64 t201)) (fun _ hk => hk.2) (.string t202)) (fun _ hk => hk.2) (.string t203)) (fun _ hk => hk.2) (.slice Ao22 t204.length co22)) (fun _ h_ => h_.1))))) (Kd.R_lt (by (with_reducible repeat (first | apply ra | apply rb | apply rc)); exact (Kd.R_mono (Kd.R_far (p := ⟨gb208, 3, none⟩) (Kd.R_far (p := ⟨gb208, 2, none⟩) (Kd.R_far (p := ⟨gb208, 1, none⟩) (Kd.R_far (p := ⟨gb208, 0, none⟩) (Kd.R_types HO206.out BK208.out (by decide)) (fun _ hk => hk.2) (.int .i64 t201)) (fun _ hk => hk.2) (.string t202)) (fun _ hk => hk.2) (.string t203)) (fun _ hk => hk.2) (.slice Ao22 t204.length co22)) (fun _ h_ => h_.1))))) (below_size (by repeat (first | (with_reducible first | exact HB.out | apply below_alloc | apply pw_below_drewN | apply below_drew1 | refine below_set ?_ GE198.out | refine below_set ?_ GE208.out) | exact HB.out)))); have n3_ := Aside0.mk (blk_below (g := gb198) (o := .cells #[.int .i64 t191, .string t192, .string t193, .slice Ao16 t194.length co16] 24 (0, 0)) (by (with_reducible repeat (first | refine kc ?_ _ | refine kb ?_ | refine ka ?_ _)); refine blk_far ?_ NB198_208.out _; (with_reducible repeat (first | refine kc ?_ _ | refine kb ?_ | refine ka ?_ _)); refine blk_far ?_ NB198_208.out _; (with_reducible repeat (first | refine kc ?_ _ | refine kb ?_ | refine ka ?_ _)); refine blk_far ?_ NB198_208.out _; (with_reducible repeat (first | refine kc ?_ _ | refine kb ?_ | refine ka ?_ _)); refine blk_far ?_ NB198_208.out _; (with_reducible repeat (first | refine kc ?_ _ | refine kb ?_ | refine ka ?_ _)); exact BK198.out) hb); have n4_ := Aside0.mk (blk_below (g := gb208) (o := .cells #[.int .i64 t201, .string t202, .string t203, .slice Ao22 t204.length co22] 24 (0, 0)) (by (with_reducible repeat (first | refine kc ?_ _ | refine kb ?_ | refine ka ?_ _)); refine blk_put (cs := #[.int .i64 t201, .string t202, .string t203, .slice none 0 0]) ?_ 3 _ rfl; (with_reducible repeat (first | refine kc ?_ _ | refine kb ?_ | refine ka ?_ _)); refine blk_put (cs := #[.int .i64 t201, .string t202, .string (⟨#[]⟩ : ByteArray), .slice none 0 0]) ?_ 2 _ rfl; (with_reducible repeat (first | refine kc ?_ _ | refine kb ?_ | refine ka ?_ _)); refine blk_put (cs := #[.int .i64 t201, .string (⟨#[]⟩ : ByteArray), .string (⟨#[]⟩ : ByteArray), .slice none 0 0]) ?_ 1 _ rfl; (with_reducible repeat (first | refine kc ?_ _ | refine kb ?_ | refine ka ?_ _)); refine blk_put (cs := #[.int .i64 0, .string (⟨#[]⟩ : ByteArray), .string (⟨#[]⟩ : ByteArray), .slice none 0 0]) ?_ 0 _ rfl; (with_reducible repeat (first | refine kc ?_ _ | refine kb ?_ | refine ka ?_ _)); exact BK208.out) hb); have n5_ := Aside0.mk (below_step (by repeat (first | (with_reducible first | exact HB.out | apply below_alloc | apply pw_below_drewN | apply below_drew1 | refine below_set ?_ GE198.out | refine below_set ?_ GE208.out) | exact HB.out)) hb); clear HO196; clear HO206; clear BK198; clear BK208; clear HB; have HO196 := n0_; have HO206 := n1_; have HO214 := n2_; have BK198 := n3_; have BK208 := n4_; have HB := n5_; clear n0_ n1_ n2_ n3_ n4_ n5_; (try clear hb); (try clear hb2); (try clear hk); (try clear hi); (try clear ho0)) | ((with_reducible refine gate_dst (N := 7) rfl ?_); (try (refine gate_guard (by rfl) ?_; dsimp only)); refine box_event ?hg (N := 7) ?hd (cs := #[.int .i64 0, .string (⟨#[]⟩ : ByteArray), .string (⟨#[]⟩ : ByteArray), .slice none 0 0]) (t := 24) ?hr ?_; (case hd => rfl); (case hg => rfl); (case hr => first | (go_simp; done) | (go_simp; rfl)); intro gb216 hg w24 hbox hb; have n0_ := Aside0.mk (Kd.R_below (by (with_reducible repeat (first | apply ra | apply rb | apply rc)); exact HO196.out) hb); have n1_ := Aside0.mk (Kd.R_below (by (with_reducible repeat (first | apply ra | apply rb | apply rc)); exact HO206.out) hb); have n2_ := Aside0.mk (Kd.R_below (by (with_reducible repeat (first | apply ra | apply rb | apply rc)); exact HO214.out) hb); have n3_ := Aside0.mk (blk_below (g := gb198) (o := .cells #[.int .i64 t191, .string t192, .string t193, .slice Ao16 t194.length co16] 24 (0, 0)) (by (with_reducible repeat (first | refine kc ?_ _ | refine kb ?_ | refine ka ?_ _)); exact BK198.out) hb); have n4_ := Aside0.mk (blk_below (g := gb208) (o := .cells #[.int .i64 t201, .string t202, .string t203, .slice Ao22 t204.length co22] 24 (0, 0)) (by (with_reducible repeat (first | refine kc ?_ _ | refine kb ?_ | refine ka ?_ _)); exact BK208.out) hb); have n5_ := Aside0.mk (below_step (by repeat (first | (with_reducible first | exact HB.out | apply below_alloc | apply pw_below_drewN | apply below_drew1 | refine below_set ?_ GE198.out | refine below_set ?_ GE208.out) | exact HB.out)) hb); have n6_ := Aside0.mk (hbox); have n7_ := Aside0.mk ((by rw [hg]; exact (below_size (by repeat (first | (with_reducible first | exact HB.out | apply below_alloc | apply pw_below_drewN | apply below_drew1 | refine below_set ?_ GE198.out | refine below_set ?_ GE208.out) | exact HB.out))) : w.heap.size ≤ gb216)); have n8_ := Aside0.mk ((by rw [hg]; exact (below_size (by repeat (first | (with_reducible first | exact HB.out | apply below_alloc | apply pw_below_drewN | apply below_drew1 | refine below_set ?_ GE198.out | refine below_set ?_ GE208.out) | exact HB.out))) : w.heap.size ≤ gb216)); have n9_ := Aside0.mk ((by rw [hg]; exact Nat.ne_of_lt (blk_lt (g := gb198) (o := .cells #[.int .i64 t191, .string t192, .string t193, .slice Ao16 t194.length co16] 24 (0, 0)) (by (with_reducible repeat (first | refine kc ?_ _ | refine kb ?_ | refine ka ?_ _)); exact BK198.out)) : gb198 ≠ gb216)); have n10_ := Aside0.mk ((by rw [hg]; exact Nat.ne_of_gt (blk_lt (g := gb198) (o := .cells #[.int .i64 t191, .string t192, .string t193, .slice Ao16 t194.length co16] 24 (0, 0)) (by (with_reducible repeat (first | refine kc ?_ _ | refine kb ?_ | refine ka ?_ _)); exact BK198.out)) : gb216 ≠ gb198)); have n11_ := Aside0.mk ((by rw [hg]; exact Nat.ne_of_lt (blk_lt (g := gb208) (o := .cells #[.int .i64 t201, .string t202, .string t203, .slice Ao22 t204.length co22] 24 (0, 0)) (by (with_reducible repeat (first | refine kc ?_ _ | refine kb ?_ | refine ka ?_ _)); exact BK208.out)) : gb208 ≠ gb216)); have n12_ := Aside0.mk ((by rw [hg]; exact Nat.ne_of_gt (blk_lt (g := gb208) (o := .cells #[.int .i64 t201, .string t202, .string t203, .slice Ao22 t204.length co22] 24 (0, 0)) (by (with_reducible repeat (first | refine kc ?_ _ | refine kb ?_ | refine ka ?_ _)); exact BK208.out)) : gb216 ≠ gb208)); clear HO196; clear HO206; clear HO214; clear BK198; clear BK208; clear HB; have HO196 := n0_; have HO206 := n1_; have HO214 := n2_; have BK198 := n3_; have BK208 := n4_; have HB := n5_; have BK216 := n6_; have GW216 := n7_; have GE216 := n8_; have NB198_216 := n9_; have NB216_198 := n10_; have NB208_216 := n11_; have NB216_208 := n12_; clear n0_ n1_ n2_ n3_ n4_ n5_ n6_ n7_ n8_ n9_ n10_ n11_ n12_; clear hb hbox hg; have hnb25 := NB216_198.out; have hnc25 := NB198_216.out; have hnb26 := NB216_208.out; have hnc26 := NB208_216.out; have hcz27_0 : w24.cell? ⟨gb216, 0, none⟩ = some (.int .i64 0) := (blk_cell BK216.out 0).trans rfl; have hcz27_1 : w24.cell? ⟨gb216, 1, none⟩ = some (.string (⟨#[]⟩ : ByteArray)) := (blk_cell BK216.out 1).trans rfl; have hcz27_2 : w24.cell? ⟨gb216, 2, none⟩ = some (.string (⟨#[]⟩ : ByteArray)) := (blk_cell BK216.out 2).trans rfl; have hcz27_3 : w24.cell? ⟨gb216, 3, none⟩ = some (.slice none 0 0) := (blk_cell BK216.out 3).trans rfl; have hfz27_0 := blk_frozen BK216.out 0; have hfz27_1 := blk_frozen BK216.out 1; have hfz27_2 := blk_frozen BK216.out 2; have hfz27_3 := blk_frozen BK216.out 3; obtain ⟨Ao28, co28, eo28⟩ := Kd.R_slice HO214.out; subst eo28; have hcz29_0 : w24.cell? ⟨gb198, 0, none⟩ = some (.int .i64 t191) := (blk_cell BK198.out 0).trans rfl; have hcz29_1 : w24.cell? ⟨gb198, 1, none⟩ = some (.string t192) := (blk_cell BK198.out 1).trans rfl; have hcz29_2 : w24.cell? ⟨gb198, 2, none⟩ = some (.string t193) := (blk_cell BK198.out 2).trans rfl; have hcz29_3 : w24.cell? ⟨gb198, 3, none⟩ = some (.slice Ao16 t194.length co16) := (blk_cell BK198.out 3).trans rfl; have hfz29_0 := blk_frozen BK198.out 0; have hfz29_1 := blk_frozen BK198.out 1; have hfz29_2 := blk_frozen BK198.out 2; have hfz29_3 := blk_frozen BK198.out 3) | ((with_reducible refine gate_dst (N := 30) rfl ?_); (try (refine gate_guard (by rfl) ?_; dsimp only)); refine Kd.R_lit (Kd.int .i64) _ 3 ?hg (N := 30) ?hd (xs := ([(-1), 0] : List Int)) (inner := [.int .i64 (-1), .int .i64 0]) (ok := fun _ => True) (okp := fun _ => True) ?hr ?hp (fun _ hk => hk) trivial (Below.refl _ _) (Nat.le_refl _) (by simp) ?_; (case hd => rfl); (case hg => rfl); (case hr => first | (go_simp; done) | (go_simp; rfl)); (case hp => exact (Reps.one (show Kd.M (Kd.int .i64) _ _ _ (-1) [.int .i64 (-1)] from rfl) (Reps.one (show Kd.M (Kd.int .i64) _ _ _ 0 [.int .i64 0] from rfl) (Reps.none _ _)))); intro v218 w30 ho31 hb hg_ hnew_; clear hg_ hnew_; (first | rw [← Ny217.out] at ho31 | (simp only [Int.reduceToNat] at ho31; rw [← Ny217.out] at ho31)); have n0_ := Aside0.mk (Kd.R_elder' (by (with_reducible repeat (first | apply ra | apply rb | apply rc)); exact (Kd.R_mono (Kd.R_far (p := ⟨gb216, 3, none⟩) (Kd.R_far (p := ⟨gb216, 2, none⟩) (Kd.R_far (p := ⟨gb216, 1, none⟩) (Kd.R_far (p := ⟨gb216, 0, none⟩) (Kd.R_types HO196.out BK216.out (by decide)) (fun _ hk => hk.2) (.int .i64 t209)) (fun _ hk => hk.2) (.string t210)) (fun _ hk => hk.2) (.string t211)) (fun _ hk => hk.2) (.slice Ao28 t212.length co28)) (fun _ h_ => h_.1))) (Kd.R_base ho31) hb); have n1_ := Aside0.mk (Kd.R_elder' (by (with_reducible repeat (first | apply ra | apply rb | apply rc)); exact (Kd.R_mono (Kd.R_far (p := ⟨gb216, 3, none⟩) (Kd.R_far (p := ⟨gb216, 2, none⟩) (Kd.R_far (p := ⟨gb216, 1, none⟩) (Kd.R_far (p := ⟨gb216, 0, none⟩) (Kd.R_types HO206.out BK216.out (by decide)) (fun _ hk => hk.2) (.int .i64 t209)) (fun _ hk => hk.2) (.string t210)) (fun _ hk => hk.2) (.string t211)) (fun _ hk => hk.2) (.slice Ao28 t212.length co28)) (fun _ h_ => h_.1))) (Kd.R_base ho31) hb); have n2_ := Aside0.mk (Kd.R_elder' (by (with_reducible repeat (first | apply ra | apply rb | apply rc)); exact (Kd.R_mono (Kd.R_far (p := ⟨gb216, 3, none⟩) (Kd.R_far (p := ⟨gb216, 2, none⟩) (Kd.R_far (p := ⟨gb216, 1, none⟩) (Kd.R_far (p := ⟨gb216, 0, none⟩) (Kd.R_types HO214.out BK216.out (by decide)) (fun _ hk => hk.2) (.int .i64 t209)) (fun _ hk => hk.2) (.string t210)) (fun _ hk => hk.2) (.string t211)) (fun _ hk => hk.2) (.slice Ao28 t212.length co28)) (fun _ h_ => h_.1))) (Kd.R_base ho31) hb); have n3_ := Aside0.mk (Kd.R_lower (Kd.R_new' (Kd.R_new' (Kd.R_new' ho31 (Kd.R_lt (by (with_reducible repeat (first | apply ra | apply rb | apply rc)); exact (Kd.R_mono (Kd.R_far (p := ⟨gb216, 3, none⟩) (Kd.R_far (p := ⟨gb216, 2, none⟩) (Kd.R_far (p := ⟨gb216, 1, none⟩) (Kd.R_far (p := ⟨gb216, 0, none⟩) (Kd.R_types HO196.out BK216.out (by decide)) (fun _ hk => hk.2) (.int .i64 t209)) (fun _ hk => hk.2) (.string t210)) (fun _ hk => hk.2) (.string t211)) (fun _ hk => hk.2) (.slice Ao28 t212.length co28)) (fun _ h_ => h_.1))))) (Kd.R_lt (by (with_reducible repeat (first | apply ra | apply rb | apply rc)); exact (Kd.R_mono (Kd.R_far (p := ⟨gb216, 3, none⟩) (Kd.R_far (p := ⟨gb216, 2, none⟩) (Kd.R_far (p := ⟨gb216, 1, none⟩) (Kd.R_far (p := ⟨gb216, 0, none⟩) (Kd.R_types HO206.out BK216.out (by decide)) (fun _ hk => hk.2) (.int .i64 t209)) (fun _ hk => hk.2) (.string t210)) (fun _ hk => hk.2) (.string t211)) (fun _ hk => hk.2) (.slice Ao28 t212.length co28)) (fun _ h_ => h_.1))))) (Kd.R_lt (by (with_reducible repeat (first | apply ra | apply rb | apply rc)); exact (Kd.R_mono (Kd.R_far (p := ⟨gb216, 3, none⟩) (Kd.R_far (p := ⟨gb216, 2, none⟩) (Kd.R_far (p := ⟨gb216, 1, none⟩) (Kd.R_far (p := ⟨gb216, 0, none⟩) (Kd.R_types HO214.out BK216.out (by decide)) (fun _ hk => hk.2) (.int .i64 t209)) (fun _ hk => hk.2) (.string t210)) (fun _ hk => hk.2) (.string t211)) (fun _ hk => hk.2) (.slice Ao28 t212.length co28)) (fun _ h_ => h_.1))))) (below_size (by repeat (first | (with_reducible first | exact HB.out | apply below_alloc | apply pw_below_drewN | apply below_drew1 | refine below_set ?_ GE198.out | refine below_set ?_ GE208.out | refine below_set ?_ GE216.out) | exact HB.out)))); have n4_ := Aside0.mk (blk_below (g := gb198) (o := .cells #[.int .i64 t191, .string t192, .string t193, .slice Ao16 t194.length co16] 24 (0, 0)) (by (with_reducible repeat (first | refine kc ?_ _ | refine kb ?_ | refine ka ?_ _)); refine blk_far ?_ NB198_216.out _; (with_reducible repeat (first | refine kc ?_ _ | refine kb ?_ | refine ka ?_ _)); refine blk_far ?_ NB198_216.out _; (with_reducible repeat (first | refine kc ?_ _ | refine kb ?_ | refine ka ?_ _)); refine blk_far ?_ NB198_216.out _; (with_reducible repeat (first | refine kc ?_ _ | refine kb ?_ | refine ka ?_ _)); refine blk_far ?_ NB198_216.out _; (with_reducible repeat (first | refine kc ?_ _ | refine kb ?_ | refine ka ?_ _)); exact BK198.out) hb); have n5_ := Aside0.mk (blk_below (g := gb208) (o := .cells #[.int .i64 t201, .string t202, .string t203, .slice Ao22 t204.length co22] 24 (0, 0)) (by (with_reducible repeat (first | refine kc ?_ _ | refine kb ?_ | refine ka ?_ _)); refine blk_far ?_ NB208_216.out _; (with_reducible repeat (first | refine kc ?_ _ | refine kb ?_ | refine ka ?_ _)); refine blk_far ?_ NB208_216.out _; (with_reducible repeat (first | refine kc ?_ _ | refine kb ?_ | refine ka ?_ _)); refine blk_far ?_ NB208_216.out _; (with_reducible repeat (first | refine kc ?_ _ | refine kb ?_ | refine ka ?_ _)); refine blk_far ?_ NB208_216.out _; (with_reducible repeat (first | refine kc ?_ _ | refine kb ?_ | refine ka ?_ _)); exact BK208.out) hb); have n6_ := Aside0.mk (blk_below (g := gb216) (o := .cells #[.int .i64 t209, .string t210, .string t211, .slice Ao28 t212.length co28] 24 (0, 0)) (by (with_reducible repeat (first | refine kc ?_ _ | refine kb ?_ | refine ka ?_ _)); refine blk_put (cs := #[.int .i64 t209, .string t210, .string t211, .slice none 0 0]) ?_ 3 _ rfl; (with_reducible repeat (first | refine kc ?_ _ | refine kb ?_ | refine ka ?_ _)); refine blk_put (cs := #[.int .i64 t209, .string t210, .string (⟨#[]⟩ : ByteArray), .slice none 0 0]) ?_ 2 _ rfl; (with_reducible repeat (first | refine kc ?_ _ | refine kb ?_ | refine ka ?_ _)); refine blk_put (cs := #[.int .i64 t209, .string (⟨#[]⟩ : ByteArray), .string (⟨#[]⟩ : ByteArray), .slice none 0 0]) ?_ 1 _ rfl; (with_reducible repeat (first | refine kc ?_ _ | refine kb ?_ | refine ka ?_ _)); refine blk_put (cs := #[.int .i64 0, .string (⟨#[]⟩ : ByteArray), .string (⟨#[]⟩ : ByteArray), .slice none 0 0]) ?_ 0 _ rfl; (with_reducible repeat (first | refine kc ?_ _ | refine kb ?_ | refine ka ?_ _)); exact BK216.out) hb); have n7_ := Aside0.mk (below_step (by repeat (first | (with_reducible first | exact HB.out | apply below_alloc | apply pw_below_drewN | apply below_drew1 | refine below_set ?_ GE198.out | refine below_set ?_ GE208.out | refine below_set ?_ GE216.out) | exact HB.out)) hb); clear HO196; clear HO206; clear HO214; clear BK198; clear BK208; clear BK216; clear HB; have HO196 := n0_; have HO206 := n1_; have HO214 := n2_; have HO219 := n3_; have BK198 := n4_; have BK208 := n5_; have BK216 := n6_; have HB := n7_; clear n0_ n1_ n2_ n3_ n4_ n5_ n6_ n7_; clear hb ho31; obtain ⟨Ao32, co32, eo32⟩ := Kd.R_slice HO219.out; subst eo32) | (go_at_call 20; (with_reducible refine (prebendref27_Same.calls k t191 t192 t193 _ _ t194 1 (⟨#[107, 32, 49]⟩ : ByteArray) (⟨#[114, 111, 111, 116]⟩ : ByteArray) _ _ y217 true _ ?side1 ?side2 ?side3 ?side4 A6.out).mono ?_); (case side1 => repeat (first | exact (Kd.R_reads' HO196.out).2.2 | (with_reducible refine Kd.C_alloc ?_ _) | (with_reducible refine Kd.C_drewN ?_ _) | (with_reducible refine Kd.C_drew ?_))); (case side2 => exact (Kd.R_reads' HO196.out).2.1); (case side3 => repeat (first | exact (Kd.R_reads' HO219.out).2.2 | (with_reducible refine Kd.C_alloc ?_ _) | (with_reducible refine Kd.C_drewN ?_ _) | (with_reducible refine Kd.C_drew ?_))); (case side4 => exact (Kd.R_reads' HO219.out).2.1); rintro e w33 ⟨rfl, hb⟩; (try clear A6); have n0_ := Aside0.mk (Kd.R_below (by (with_reducible repeat (first | apply ra | apply rb | apply rc)); exact HO196.out) hb); have n1_ := Aside0.mk (Kd.R_below (by (with_reducible repeat (first | apply ra | apply rb | apply rc)); exact HO206.out) hb); have n2_ := Aside0.mk (Kd.R_below (by (with_reducible repeat (first | apply ra | apply rb | apply rc)); exact HO214.out) hb); have n3_ := Aside0.mk (Kd.R_below (by (with_reducible repeat (first | apply ra | apply rb | apply rc)); exact HO219.out) hb); have n4_ := Aside0.mk (blk_below (g := gb198) (o := .cells #[.int .i64 t191, .string t192, .string t193, .slice Ao16 t194.length co16] 24 (0, 0)) (by (with_reducible repeat (first | refine kc ?_ _ | refine kb ?_ | refine ka ?_ _)); exact BK198.out) hb); have n5_ := Aside0.mk (blk_below (g := gb208) (o := .cells #[.int .i64 t201, .string t202, .string t203, .slice Ao22 t204.length co22] 24 (0, 0)) (by (with_reducible repeat (first | refine kc ?_ _ | refine kb ?_ | refine ka ?_ _)); exact BK208.out) hb); have n6_ := Aside0.mk (blk_below (g := gb216) (o := .cells #[.int .i64 t209, .string t210, .string t211, .slice Ao28 t212.length co28] 24 (0, 0)) (by (with_reducible repeat (first | refine kc ?_ _ | refine kb ?_ | refine ka ?_ _)); exact BK216.out) hb); have n7_ := Aside0.mk (below_step (by repeat (first | (with_reducible first | exact HB.out | apply below_alloc | apply pw_below_drewN | apply below_drew1 | refine below_set ?_ GE198.out | refine below_set ?_ GE208.out | refine below_set ?_ GE216.out) | exact HB.out)) hb); clear HO196; clear HO206; clear HO214; clear HO219; clear BK198; clear BK208; clear BK216; clear HB; have HO196 := n0_; have HO206 := n1_; have HO214 := n2_; have HO219 := n3_; have BK198 := n4_; have BK208 := n5_; have BK216 := n6_; have HB := n7_; clear n0_ n1_ n2_ n3_ n4_ n5_ n6_ n7_; (try clear hb); (try clear hb2); (try clear hk); (try clear hi)) | (go_at_call 16; (with_reducible refine (line_Reply.calls k 4 0 0 (-1) t221 _ A12.out (XTabs.Tabs.below HT.out (by repeat (first | (with_reducible first | exact HB.out | exact FB.out | exact HB | apply below_alloc | apply pw_below_drewN | apply below_drew1 | refine below_set ?_ (Aside0.out (by assumption))) | exact HB.out | exact FB.out)))).mono ?_); rintro e w34 ⟨rfl, hb⟩; (try clear A12); have n0_ := Aside0.mk (Kd.R_below (by (with_reducible repeat (first | apply ra | apply rb | apply rc)); exact HO196.out) hb); have n1_ := Aside0.mk (Kd.R_below (by (with_reducible repeat (first | apply ra | apply rb | apply rc)); exact HO206.out) hb); have n2_ := Aside0.mk (Kd.R_below (by (with_reducible repeat (first | apply ra | apply rb | apply rc)); exact HO214.out) hb); have n3_ := Aside0.mk (Kd.R_below (by (with_reducible repeat (first | apply ra | apply rb | apply rc)); exact HO219.out) hb); have n4_ := Aside0.mk (blk_below (g := gb198) (o := .cells #[.int .i64 t191, .string t192, .string t193, .slice Ao16 t194.length co16] 24 (0, 0)) (by (with_reducible repeat (first | refine kc ?_ _ | refine kb ?_ | refine ka ?_ _)); exact BK198.out) hb); have n5_ := Aside0.mk (blk_below (g := gb208) (o := .cells #[.int .i64 t201, .string t202, .string t203, .slice Ao22 t204.length co22] 24 (0, 0)) (by (with_reducible repeat (first | refine kc ?_ _ | refine kb ?_ | refine ka ?_ _)); exact BK208.out) hb); have n6_ := Aside0.mk (blk_below (g := gb216) (o := .cells #[.int .i64 t209, .string t210, .string t211, .slice Ao28 t212.length co28] 24 (0, 0)) (by (with_reducible repeat (first | refine kc ?_ _ | refine kb ?_ | refine ka ?_ _)); exact BK216.out) hb); have n7_ := Aside0.mk (below_step (by repeat (first | (with_reducible first | exact HB.out | apply below_alloc | apply pw_below_drewN | apply below_drew1 | refine below_set ?_ GE198.out | refine below_set ?_ GE208.out | refine below_set ?_ GE216.out) | exact HB.out)) hb); clear HO196; clear HO206; clear HO214; clear HO219; clear BK198; clear BK208; clear BK216; clear HB; have HO196 := n0_; have HO206 := n1_; have HO214 := n2_; have HO219 := n3_; have BK198 := n4_; have BK208 := n5_; have BK216 := n6_; have HB := n7_; clear n0_ n1_ n2_ n3_ n4_ n5_ n6_ n7_; (try clear hb); (try clear hb2); (try clear hk); (try clear hi)))
       go_ret
       exact ⟨by first | rfl | (simp [errW_none, errW_some] <;> rfl) | (simp [*, errW_none, errW_some] <;> rfl), by repeat (first | (with_reducible first | exact HB.out | apply below_alloc | apply pw_below_drewN | apply below_drew1 | refine below_set ?_ GE198.out | refine below_set ?_ GE208.out | refine below_set ?_ GE216.out) | exact HB.out)⟩
      ·rw [if_neg c11] at H
       have c11b0 : (t215 == 11) = false := beq_eq_false_iff_ne.mpr c11
       have c11b1 : (t215 != 11) = true := bne_iff_ne.mpr c11
       exact absurd (show some false = some true from hr ▸ H) (by simp)  -- 2
     ·rw [if_neg c10] at H
      have c10b0 : (t207 == 11) = false := beq_eq_false_iff_ne.mpr c10
      have c10b1 : (t207 != 11) = true := bne_iff_ne.mpr c10
      exact absurd (show some false = some true from hr ▸ H) (by simp)  -- 3
    ·rw [if_neg c9] at H
     have c9b0 : (t200 == 0) = false := beq_eq_false_iff_ne.mpr c9
     have c9b1 : (t200 != 0) = true := bne_iff_ne.mpr c9
     exact absurd (show some false = some true from hr ▸ H) (by simp)  -- 4
   ·rw [if_neg c8] at H
    have c8b0 : (t199.toList == ([102, 117, 110, 100, 32, 45, 49, 32, 48, 32, 110, 97, 109, 101, 32, 114, 111, 111, 116, 32, 107, 101, 121, 32, 34, 107, 32, 49, 34] : List UInt8)) = false := beq_eq_false_iff_ne.mpr c8
    have c8b1 : (t199.toList != ([102, 117, 110, 100, 32, 45, 49, 32, 48, 32, 110, 97, 109, 101, 32, 114, 111, 111, 116, 32, 107, 101, 121, 32, 34, 107, 32, 49, 34] : List UInt8)) = true := bne_iff_ne.mpr c8
    exact absurd (show some false = some true from hr ▸ H) (by simp)  -- 5
  ·replace c7 := Bool.eq_false_iff.mpr c7
   subst c7
   have H1 : (some false) = some r := by rw [if_neg (show ¬ (false = true) by decide)] at H; exact H
   clear H
   have H := H1
   clear H1
   exact absurd (show some false = some true from hr ▸ H) (by simp)  -- 6
 ·rw [if_neg c5] at H
  have c5b0 : (t197 == 0) = false := beq_eq_false_iff_ne.mpr c5
  have c5b1 : (t197 != 0) = true := bne_iff_ne.mpr c5
  exact absurd (show some false = some true from hr ▸ H) (by simp)  -- 7
end Go.Proofs.YtkenihkjdbdlkaaDoor.QLineUnlike
