/- Written by a program of this session (wip/tools/mp.sh): functions as Lean functions, with proofs that the calls come to what they say. Lean checks it. -/
import Derived.Test.YtkenihkjdbdlkaaDoorQLineParsesx0
import Derived.Test.YtkenihkjdbdlkaaDoorQLineParsesx6
import Derived.Test.YtkenihkjdbdlkaaDoorQLineParsesx7
import Derived.Test.YtkenihkjdbdlkaaDoorQLineParsesx8
import Derived.Test.YtkenihkjdbdlkaaDoorQLineParsesx9
namespace Go.Proofs.YtkenihkjdbdlkaaDoor.QLineParses
open Go.RowKit Go.Proofs.YtkenihkjdbdlkaaDoorW.PrintWords Go.Proofs.YtkenihkjdbdlkaaDoorW.PrintLast Go.Proofs.YtkenihkjdbdlkaaDoorW.PrintMore
attribute [local go_sem] max2_int min2_int max_two min_two max_three min_three max_four min_four   -- for this text's walks alone
set_option linter.unusedVariables false
set_option linter.unusedSimpArgs false

/-! ### prebendref27_Parse: function 19 -/
mutual
def prebendref27_Parse.j0 : Nat → List ByteArray → Bool → Option (Int × ByteArray × ByteArray × List Int × Int)
 | 0, _, _ => none
 | k + 1, x4, x22 => if x22 = true then (some (0, (⟨#[]⟩ : ByteArray), (⟨#[]⟩ : ByteArray), ([] : List Int), 11)) else (prebendref27_Parse.l0 k x4 1 0 (⟨#[]⟩ : ByteArray) (⟨#[]⟩ : ByteArray))
def prebendref27_Parse.l0 : Nat → List ByteArray → Int → Int → ByteArray → ByteArray → Option (Int × ByteArray × ByteArray × List Int × Int)
 | 0, _, _, _, _, _ => none
 | k + 1, x4, x7, x316000, x316001, x316002 => if x7 ≤ 28 then ((prebendref27_word.f x7).bind fun t316 => (if t316.toList = ([] : List UInt8) then (prebendref27_Parse.l0 k x4 (wrap64 (x7 + 1)) x316000 x316001 x316002) else ((prebendref27_word.f x7).bind fun t317 => (if 0 < (x4.length : Int) then (if t317.toList = (rdOf ByteArray.empty x4 0).toList then (prebendref27_Parse.l0 k x4 (wrap64 (x7 + 1)) x7 x316001 x316002) else (prebendref27_Parse.l0 k x4 (wrap64 (x7 + 1)) x316000 x316001 x316002)) else (none))))) else (prebendref27_Parse.l1 k x4 1 x316000 x316001 x316002 ([] : List Int))
def prebendref27_Parse.l1 : Nat → List ByteArray → Int → Int → ByteArray → ByteArray → List Int → Option (Int × ByteArray × ByteArray × List Int × Int)
 | 0, _, _, _, _, _, _ => none
 | k + 1, x4, x8, x316000, x316001, x316002, x316003 => if x8 < (x4.length : Int) then (if 0 ≤ x8 then ((prebendref26_Number.f k (rdOf ByteArray.empty x4 x8)).bind fun bt320 => (if bt320.2 = true then (if 0 ≤ (wrap64 (x8 - 1)) then (if (wrap64 (x8 - 1)) < (x4.length : Int) then (if (rdOf ByteArray.empty x4 (wrap64 (x8 - 1))).toList = ([110, 97, 109, 101] : List UInt8) then (prebendref27_Parse.j3 k x4 x8 bt320.1 false x316000 x316001 x316002 x316003) else (prebendref27_Parse.j3 k x4 x8 bt320.1 ((rdOf ByteArray.empty x4 (wrap64 (x8 - 1))).toList != ([107, 101, 121] : List UInt8)) x316000 x316001 x316002 x316003)) else (none)) else (none)) else (prebendref27_Parse.j3 k x4 x8 bt320.1 false x316000 x316001 x316002 x316003))) else (none)) else (if x316000 = 0 then (some (0, (⟨#[]⟩ : ByteArray), (⟨#[]⟩ : ByteArray), ([] : List Int), 11)) else ((prebendref27_Words.f k x316000 x316001 x316002 x316003).bind fun t331 => ((prebendref26_Texts.f k t331 x4).bind fun t334 => (if t334 = true then (some (x316000, x316001, x316002, x316003, 0)) else (some (0, (⟨#[]⟩ : ByteArray), (⟨#[]⟩ : ByteArray), ([] : List Int), 11))))))
def prebendref27_Parse.j3 : Nat → List ByteArray → Int → Int → Bool → Int → ByteArray → ByteArray → List Int → Option (Int × ByteArray × ByteArray × List Int × Int)
 | 0, _, _, _, _, _, _, _, _ => none
 | k + 1, x4, x8, x9, x72, x316000, x316001, x316002, x316003 => if x72 = true then (if x316003.length < 17592186044416 then (prebendref27_Parse.l1 k x4 (wrap64 (x8 + 1)) x316000 x316001 x316002 (x316003 ++ [x9])) else (none)) else (if 0 ≤ x8 then (if x8 < (x4.length : Int) then (if (rdOf ByteArray.empty x4 x8).toList = ([110, 97, 109, 101] : List UInt8) then (if (wrap64 (x8 + 1)) < (x4.length : Int) then (prebendref27_Parse.j4 k x4 x8 (x316002.toList == ([] : List UInt8)) x316000 x316001 x316002 x316003) else (prebendref27_Parse.j4 k x4 x8 false x316000 x316001 x316002 x316003)) else (prebendref27_Parse.j4 k x4 x8 false x316000 x316001 x316002 x316003)) else (none)) else (none))
def prebendref27_Parse.j4 : Nat → List ByteArray → Int → Bool → Int → ByteArray → ByteArray → List Int → Option (Int × ByteArray × ByteArray × List Int × Int)
 | 0, _, _, _, _, _, _, _ => none
 | k + 1, x4, x8, x95, x316000, x316001, x316002, x316003 => if x95 = true then (if 0 ≤ (wrap64 (x8 + 1)) then (if (wrap64 (x8 + 1)) < (x4.length : Int) then (prebendref27_Parse.l1 k x4 (wrap64 ((wrap64 (x8 + 1)) + 1)) x316000 x316001 (rdOf ByteArray.empty x4 (wrap64 (x8 + 1))) x316003) else (none)) else (none)) else (if 0 ≤ x8 then (if x8 < (x4.length : Int) then (if (rdOf ByteArray.empty x4 x8).toList = ([107, 101, 121] : List UInt8) then (if (wrap64 (x8 + 1)) < (x4.length : Int) then (if x316001.toList = ([] : List UInt8) then (if 0 ≤ (wrap64 (x8 + 1)) then (prebendref27_Parse.l1 k x4 (wrap64 ((wrap64 (x8 + 1)) + 1)) x316000 (rdOf ByteArray.empty x4 (wrap64 (x8 + 1))) x316002 x316003) else (none)) else (prebendref27_Parse.l1 k x4 (wrap64 (x8 + 1)) x316000 x316001 x316002 x316003)) else (prebendref27_Parse.l1 k x4 (wrap64 (x8 + 1)) x316000 x316001 x316002 x316003)) else (prebendref27_Parse.l1 k x4 (wrap64 (x8 + 1)) x316000 x316001 x316002 x316003)) else (none)) else (none))
end
def prebendref27_Parse.f (k : Nat) (a0 : ByteArray) : Option (Int × ByteArray × ByteArray × List Int × Int) := (prebendref26_Words.f k a0).bind fun bt311 => (if bt311.2 = 0 then (prebendref27_Parse.j0 k bt311.1 ((bt311.1.length : Int) == 0)) else (prebendref27_Parse.j0 k bt311.1 true))
theorem prebendref27_Parse.mono_l : ∀ k, (∀ y0 y1, LeO (prebendref27_Parse.j0 k y0 y1) (prebendref27_Parse.j0 (k + 1) y0 y1)) ∧ (∀ y0 y1 y2 y3 y4, LeO (prebendref27_Parse.l0 k y0 y1 y2 y3 y4) (prebendref27_Parse.l0 (k + 1) y0 y1 y2 y3 y4)) ∧ (∀ y0 y1 y2 y3 y4 y5, LeO (prebendref27_Parse.l1 k y0 y1 y2 y3 y4 y5) (prebendref27_Parse.l1 (k + 1) y0 y1 y2 y3 y4 y5)) ∧ (∀ y0 y1 y2 y3 y4 y5 y6 y7, LeO (prebendref27_Parse.j3 k y0 y1 y2 y3 y4 y5 y6 y7) (prebendref27_Parse.j3 (k + 1) y0 y1 y2 y3 y4 y5 y6 y7)) ∧ (∀ y0 y1 y2 y3 y4 y5 y6, LeO (prebendref27_Parse.j4 k y0 y1 y2 y3 y4 y5 y6) (prebendref27_Parse.j4 (k + 1) y0 y1 y2 y3 y4 y5 y6))
 | 0 => ⟨fun _ _ r h => by simp [prebendref27_Parse.j0] at h, fun _ _ _ _ _ r h => by simp [prebendref27_Parse.l0] at h, fun _ _ _ _ _ _ r h => by simp [prebendref27_Parse.l1] at h, fun _ _ _ _ _ _ _ _ r h => by simp [prebendref27_Parse.j3] at h, fun _ _ _ _ _ _ _ r h => by simp [prebendref27_Parse.j4] at h⟩
 | k + 1 => by
  obtain ⟨ih0, ih1, ih2, ih3, ih4⟩ := prebendref27_Parse.mono_l k
  refine ⟨?_, ?_, ?_, ?_, ?_⟩
  ·intro y0 y1
   unfold prebendref27_Parse.j0
   repeat' first
   | (with_reducible exact ih0 _ _)
   | (with_reducible exact ih1 _ _ _ _ _)
   | (with_reducible exact ih2 _ _ _ _ _ _)
   | (with_reducible exact ih3 _ _ _ _ _ _ _ _)
   | (with_reducible exact ih4 _ _ _ _ _ _ _)
   | (with_reducible exact prebendref26_Number.mono _ _)
   | (with_reducible exact prebendref26_Texts.mono _ _ _)
   | (with_reducible exact prebendref26_Words.mono _ _)
   | (with_reducible exact prebendref27_Words.mono _ _ _ _ _)
   | (with_reducible exact LeO.refl _)
   | (with_reducible exact LeO.none _)
   | (with_reducible refine LeO.ite ?_ ?_)
   | (with_reducible refine LeO.bind ?_ (fun _ => ?_))
   | exact ih0 _ _
   | exact ih1 _ _ _ _ _
   | exact ih2 _ _ _ _ _ _
   | exact ih3 _ _ _ _ _ _ _ _
   | exact ih4 _ _ _ _ _ _ _
   | exact prebendref26_Number.mono _ _
   | exact prebendref26_Texts.mono _ _ _
   | exact prebendref26_Words.mono _ _
   | exact prebendref27_Words.mono _ _ _ _ _
   | exact LeO.none _
   | refine LeO.ite ?_ ?_
   | refine LeO.bind ?_ (fun _ => ?_)
  ·intro y0 y1 y2 y3 y4
   unfold prebendref27_Parse.l0
   repeat' first
   | (with_reducible exact ih0 _ _)
   | (with_reducible exact ih1 _ _ _ _ _)
   | (with_reducible exact ih2 _ _ _ _ _ _)
   | (with_reducible exact ih3 _ _ _ _ _ _ _ _)
   | (with_reducible exact ih4 _ _ _ _ _ _ _)
   | (with_reducible exact prebendref26_Number.mono _ _)
   | (with_reducible exact prebendref26_Texts.mono _ _ _)
   | (with_reducible exact prebendref26_Words.mono _ _)
   | (with_reducible exact prebendref27_Words.mono _ _ _ _ _)
   | (with_reducible exact LeO.refl _)
   | (with_reducible exact LeO.none _)
   | (with_reducible refine LeO.ite ?_ ?_)
   | (with_reducible refine LeO.bind ?_ (fun _ => ?_))
   | exact ih0 _ _
   | exact ih1 _ _ _ _ _
   | exact ih2 _ _ _ _ _ _
   | exact ih3 _ _ _ _ _ _ _ _
   | exact ih4 _ _ _ _ _ _ _
   | exact prebendref26_Number.mono _ _
   | exact prebendref26_Texts.mono _ _ _
   | exact prebendref26_Words.mono _ _
   | exact prebendref27_Words.mono _ _ _ _ _
   | exact LeO.none _
   | refine LeO.ite ?_ ?_
   | refine LeO.bind ?_ (fun _ => ?_)
  ·intro y0 y1 y2 y3 y4 y5
   unfold prebendref27_Parse.l1
   repeat' first
   | (with_reducible exact ih0 _ _)
   | (with_reducible exact ih1 _ _ _ _ _)
   | (with_reducible exact ih2 _ _ _ _ _ _)
   | (with_reducible exact ih3 _ _ _ _ _ _ _ _)
   | (with_reducible exact ih4 _ _ _ _ _ _ _)
   | (with_reducible exact prebendref26_Number.mono _ _)
   | (with_reducible exact prebendref26_Texts.mono _ _ _)
   | (with_reducible exact prebendref26_Words.mono _ _)
   | (with_reducible exact prebendref27_Words.mono _ _ _ _ _)
   | (with_reducible exact LeO.refl _)
   | (with_reducible exact LeO.none _)
   | (with_reducible refine LeO.ite ?_ ?_)
   | (with_reducible refine LeO.bind ?_ (fun _ => ?_))
   | exact ih0 _ _
   | exact ih1 _ _ _ _ _
   | exact ih2 _ _ _ _ _ _
   | exact ih3 _ _ _ _ _ _ _ _
   | exact ih4 _ _ _ _ _ _ _
   | exact prebendref26_Number.mono _ _
   | exact prebendref26_Texts.mono _ _ _
   | exact prebendref26_Words.mono _ _
   | exact prebendref27_Words.mono _ _ _ _ _
   | exact LeO.none _
   | refine LeO.ite ?_ ?_
   | refine LeO.bind ?_ (fun _ => ?_)
  ·intro y0 y1 y2 y3 y4 y5 y6 y7
   unfold prebendref27_Parse.j3
   repeat' first
   | (with_reducible exact ih0 _ _)
   | (with_reducible exact ih1 _ _ _ _ _)
   | (with_reducible exact ih2 _ _ _ _ _ _)
   | (with_reducible exact ih3 _ _ _ _ _ _ _ _)
   | (with_reducible exact ih4 _ _ _ _ _ _ _)
   | (with_reducible exact prebendref26_Number.mono _ _)
   | (with_reducible exact prebendref26_Texts.mono _ _ _)
   | (with_reducible exact prebendref26_Words.mono _ _)
   | (with_reducible exact prebendref27_Words.mono _ _ _ _ _)
   | (with_reducible exact LeO.refl _)
   | (with_reducible exact LeO.none _)
   | (with_reducible refine LeO.ite ?_ ?_)
   | (with_reducible refine LeO.bind ?_ (fun _ => ?_))
   | exact ih0 _ _
   | exact ih1 _ _ _ _ _
   | exact ih2 _ _ _ _ _ _
   | exact ih3 _ _ _ _ _ _ _ _
   | exact ih4 _ _ _ _ _ _ _
   | exact prebendref26_Number.mono _ _
   | exact prebendref26_Texts.mono _ _ _
   | exact prebendref26_Words.mono _ _
   | exact prebendref27_Words.mono _ _ _ _ _
   | exact LeO.none _
   | refine LeO.ite ?_ ?_
   | refine LeO.bind ?_ (fun _ => ?_)
  ·intro y0 y1 y2 y3 y4 y5 y6
   unfold prebendref27_Parse.j4
   repeat' first
   | (with_reducible exact ih0 _ _)
   | (with_reducible exact ih1 _ _ _ _ _)
   | (with_reducible exact ih2 _ _ _ _ _ _)
   | (with_reducible exact ih3 _ _ _ _ _ _ _ _)
   | (with_reducible exact ih4 _ _ _ _ _ _ _)
   | (with_reducible exact prebendref26_Number.mono _ _)
   | (with_reducible exact prebendref26_Texts.mono _ _ _)
   | (with_reducible exact prebendref26_Words.mono _ _)
   | (with_reducible exact prebendref27_Words.mono _ _ _ _ _)
   | (with_reducible exact LeO.refl _)
   | (with_reducible exact LeO.none _)
   | (with_reducible refine LeO.ite ?_ ?_)
   | (with_reducible refine LeO.bind ?_ (fun _ => ?_))
   | exact ih0 _ _
   | exact ih1 _ _ _ _ _
   | exact ih2 _ _ _ _ _ _
   | exact ih3 _ _ _ _ _ _ _ _
   | exact ih4 _ _ _ _ _ _ _
   | exact prebendref26_Number.mono _ _
   | exact prebendref26_Texts.mono _ _ _
   | exact prebendref26_Words.mono _ _
   | exact prebendref27_Words.mono _ _ _ _ _
   | exact LeO.none _
   | refine LeO.ite ?_ ?_
   | refine LeO.bind ?_ (fun _ => ?_)
theorem prebendref27_Parse.mono : ∀ a0 k, LeO (prebendref27_Parse.f k a0) (prebendref27_Parse.f (k + 1) a0) := by
 intro a0 k
 obtain ⟨ih0, ih1, ih2, ih3, ih4⟩ := prebendref27_Parse.mono_l k
 unfold prebendref27_Parse.f
 repeat' first
   | (with_reducible exact ih0 _ _)
   | (with_reducible exact ih1 _ _ _ _ _)
   | (with_reducible exact ih2 _ _ _ _ _ _)
   | (with_reducible exact ih3 _ _ _ _ _ _ _ _)
   | (with_reducible exact ih4 _ _ _ _ _ _ _)
   | (with_reducible exact prebendref26_Number.mono _ _)
   | (with_reducible exact prebendref26_Texts.mono _ _ _)
   | (with_reducible exact prebendref26_Words.mono _ _)
   | (with_reducible exact prebendref27_Words.mono _ _ _ _ _)
   | (with_reducible exact LeO.refl _)
   | (with_reducible exact LeO.none _)
   | (with_reducible refine LeO.ite ?_ ?_)
   | (with_reducible refine LeO.bind ?_ (fun _ => ?_))
   | exact ih0 _ _
   | exact ih1 _ _ _ _ _
   | exact ih2 _ _ _ _ _ _
   | exact ih3 _ _ _ _ _ _ _ _
   | exact ih4 _ _ _ _ _ _ _
   | exact prebendref26_Number.mono _ _
   | exact prebendref26_Texts.mono _ _ _
   | exact prebendref26_Words.mono _ _
   | exact prebendref27_Words.mono _ _ _ _ _
   | exact LeO.none _
   | refine LeO.ite ?_ ?_
   | refine LeO.bind ?_ (fun _ => ?_)
set_option maxHeartbeats 8000000 in
set_option maxRecDepth 100000 in
theorem prebendref27_Parse.calls (k : Nat) (a0 : ByteArray) (r1 : Int) (r2 : ByteArray) (r3 : ByteArray) (r4 : List Int) (r5 : Int) (w : World) (h : prebendref27_Parse.f k a0 = some (r1, r2, r3, r4, r5)) :
  Calls Tryd.prog 19 #[.string a0] w fun e w' => ∃ v3_ : Value, e = .returned (.tuple #[.agg #[.int .i64 r1, .string r2, .string r3, v3_], .int .i64 r5]) ∧ Kd.R (Kd.int .i64) 3 w' w.heap.size (fun _ => True) v3_ r4 ∧ Below w.heap.size w w' := by
 have hu24 := Tryd.underlying24
 have HB := Aside0.mk (Below.refl w.heap.size w)
 have H : ((prebendref26_Words.f k a0).bind fun bt311 => (if bt311.2 = 0 then (prebendref27_Parse.j0 k bt311.1 ((bt311.1.length : Int) == 0)) else (prebendref27_Parse.j0 k bt311.1 true))) = some (r1, r2, r3, r4, r5) := h
 clear h
 replace H := Option.bind_eq_some_iff.mp H
 obtain ⟨⟨t311, t312⟩, A20, H⟩ := H
 replace H : (if t312 = 0 then (prebendref27_Parse.j0 k t311 ((t311.length : Int) == 0)) else (prebendref27_Parse.j0 k t311 true)) = some (r1, r2, r3, r4, r5) := H
 have A2 := Aside0.mk A20
 clear A20
 have HC3 := Aside0.mk H
 clear H
 go_enter Tryd.func19, Tryd.ntmps19
 go_upto_region 2 with (first | ((with_reducible refine gate_dst (N := 2) rfl ?_); (try (refine gate_guard (by rfl) ?_; dsimp only)); refine box_event ?hg (N := 2) ?hd (cs := #[.int .i64 0, .string (⟨#[]⟩ : ByteArray), .string (⟨#[]⟩ : ByteArray), .slice none 0 0]) (t := 24) ?hr ?_; (case hd => rfl); (case hg => rfl); (case hr => first | (go_simp; done) | (go_simp; rfl)); intro gb310 hg w4 hbox hb; have n0_ := Aside0.mk (below_step (by repeat (first | (with_reducible first | exact HB.out | apply below_alloc | apply pw_below_drewN | apply below_drew1) | exact HB.out)) hb); have n1_ := Aside0.mk (hbox); have n2_ := Aside0.mk ((by rw [hg]; exact (below_size (by repeat (first | (with_reducible first | exact HB.out | apply below_alloc | apply pw_below_drewN | apply below_drew1) | exact HB.out))) : w.heap.size ≤ gb310)); have n3_ := Aside0.mk ((by rw [hg]; exact (below_size (by repeat (first | (with_reducible first | exact HB.out | apply below_alloc | apply pw_below_drewN | apply below_drew1) | exact HB.out))) : w.heap.size ≤ gb310)); clear HB; have HB := n0_; have BK310 := n1_; have GW310 := n2_; have GE310 := n3_; clear n0_ n1_ n2_ n3_; clear hb hbox hg) | (go_at_call 23; (with_reducible refine (prebendref26_Words.calls k a0 t311 t312 _ A2.out).mono ?_); rintro e w5 ⟨v313, rfl, ho0, hb⟩; have n0_ := Aside0.mk (Kd.R_lower ho0 (below_size (by repeat (first | (with_reducible first | exact HB.out | apply below_alloc | apply pw_below_drewN | apply below_drew1 | refine below_set ?_ GE310.out) | exact HB.out)))); have n1_ := Aside0.mk (blk_below (g := gb310) (o := .cells #[.int .i64 0, .string (⟨#[]⟩ : ByteArray), .string (⟨#[]⟩ : ByteArray), .slice none 0 0] 24 (0, 0)) (by (with_reducible repeat (first | refine kc ?_ _ | refine kb ?_ | refine ka ?_ _)); exact BK310.out) hb); have n2_ := Aside0.mk (below_step (by repeat (first | (with_reducible first | exact HB.out | apply below_alloc | apply pw_below_drewN | apply below_drew1 | refine below_set ?_ GE310.out) | exact HB.out)) hb); clear BK310; clear HB; have HO314 := n0_; have BK310 := n1_; have HB := n2_; clear n0_ n1_ n2_; (try clear hb); (try clear hb2); (try clear hk); (try clear hi); (try clear ho0)))
 repeat (go_quiet (first | ((with_reducible refine gate_dst (N := 2) rfl ?_); (try (refine gate_guard (by rfl) ?_; dsimp only)); refine box_event ?hg (N := 2) ?hd (cs := #[.int .i64 0, .string (⟨#[]⟩ : ByteArray), .string (⟨#[]⟩ : ByteArray), .slice none 0 0]) (t := 24) ?hr ?_; (case hd => rfl); (case hg => rfl); (case hr => first | (go_simp; done) | (go_simp; rfl)); intro gb310 hg w4 hbox hb; have n0_ := Aside0.mk (below_step (by repeat (first | (with_reducible first | exact HB.out | apply below_alloc | apply pw_below_drewN | apply below_drew1) | exact HB.out)) hb); have n1_ := Aside0.mk (hbox); have n2_ := Aside0.mk ((by rw [hg]; exact (below_size (by repeat (first | (with_reducible first | exact HB.out | apply below_alloc | apply pw_below_drewN | apply below_drew1) | exact HB.out))) : w.heap.size ≤ gb310)); have n3_ := Aside0.mk ((by rw [hg]; exact (below_size (by repeat (first | (with_reducible first | exact HB.out | apply below_alloc | apply pw_below_drewN | apply below_drew1) | exact HB.out))) : w.heap.size ≤ gb310)); clear HB; have HB := n0_; have BK310 := n1_; have GW310 := n2_; have GE310 := n3_; clear n0_ n1_ n2_ n3_; clear hb hbox hg) | (go_at_call 23; (with_reducible refine (prebendref26_Words.calls k a0 t311 t312 _ A2.out).mono ?_); rintro e w5 ⟨v313, rfl, ho0, hb⟩; have n0_ := Aside0.mk (Kd.R_lower ho0 (below_size (by repeat (first | (with_reducible first | exact HB.out | apply below_alloc | apply pw_below_drewN | apply below_drew1 | refine below_set ?_ GE310.out) | exact HB.out)))); have n1_ := Aside0.mk (blk_below (g := gb310) (o := .cells #[.int .i64 0, .string (⟨#[]⟩ : ByteArray), .string (⟨#[]⟩ : ByteArray), .slice none 0 0] 24 (0, 0)) (by (with_reducible repeat (first | refine kc ?_ _ | refine kb ?_ | refine ka ?_ _)); exact BK310.out) hb); have n2_ := Aside0.mk (below_step (by repeat (first | (with_reducible first | exact HB.out | apply below_alloc | apply pw_below_drewN | apply below_drew1 | refine below_set ?_ GE310.out) | exact HB.out)) hb); clear BK310; clear HB; have HO314 := n0_; have BK310 := n1_; have HB := n2_; clear n0_ n1_ n2_; (try clear hb); (try clear hb2); (try clear hk); (try clear hi); (try clear ho0))); go_upto_region 2 with (first | ((with_reducible refine gate_dst (N := 2) rfl ?_); (try (refine gate_guard (by rfl) ?_; dsimp only)); refine box_event ?hg (N := 2) ?hd (cs := #[.int .i64 0, .string (⟨#[]⟩ : ByteArray), .string (⟨#[]⟩ : ByteArray), .slice none 0 0]) (t := 24) ?hr ?_; (case hd => rfl); (case hg => rfl); (case hr => first | (go_simp; done) | (go_simp; rfl)); intro gb310 hg w4 hbox hb; have n0_ := Aside0.mk (below_step (by repeat (first | (with_reducible first | exact HB.out | apply below_alloc | apply pw_below_drewN | apply below_drew1) | exact HB.out)) hb); have n1_ := Aside0.mk (hbox); have n2_ := Aside0.mk ((by rw [hg]; exact (below_size (by repeat (first | (with_reducible first | exact HB.out | apply below_alloc | apply pw_below_drewN | apply below_drew1) | exact HB.out))) : w.heap.size ≤ gb310)); have n3_ := Aside0.mk ((by rw [hg]; exact (below_size (by repeat (first | (with_reducible first | exact HB.out | apply below_alloc | apply pw_below_drewN | apply below_drew1) | exact HB.out))) : w.heap.size ≤ gb310)); clear HB; have HB := n0_; have BK310 := n1_; have GW310 := n2_; have GE310 := n3_; clear n0_ n1_ n2_ n3_; clear hb hbox hg) | (go_at_call 23; (with_reducible refine (prebendref26_Words.calls k a0 t311 t312 _ A2.out).mono ?_); rintro e w5 ⟨v313, rfl, ho0, hb⟩; have n0_ := Aside0.mk (Kd.R_lower ho0 (below_size (by repeat (first | (with_reducible first | exact HB.out | apply below_alloc | apply pw_below_drewN | apply below_drew1 | refine below_set ?_ GE310.out) | exact HB.out)))); have n1_ := Aside0.mk (blk_below (g := gb310) (o := .cells #[.int .i64 0, .string (⟨#[]⟩ : ByteArray), .string (⟨#[]⟩ : ByteArray), .slice none 0 0] 24 (0, 0)) (by (with_reducible repeat (first | refine kc ?_ _ | refine kb ?_ | refine ka ?_ _)); exact BK310.out) hb); have n2_ := Aside0.mk (below_step (by repeat (first | (with_reducible first | exact HB.out | apply below_alloc | apply pw_below_drewN | apply below_drew1 | refine below_set ?_ GE310.out) | exact HB.out)) hb); clear BK310; clear HB; have HO314 := n0_; have BK310 := n1_; have HB := n2_; clear n0_ n1_ n2_; (try clear hb); (try clear hb2); (try clear hk); (try clear hi); (try clear ho0))))
 (try simp only [Act.put, List.setIfInBounds_toArray, List.set_cons_zero, List.set_cons_succ])
 go_cut [22] (fun v22 wc => ∃ (kq : Nat) (x22_2 : Bool), v22 = .bool x22_2 ∧ Aside0 (prebendref27_Parse.j0 kq t311 x22_2 = some (r1, r2, r3, r4, r5)) ∧ Aside0 (kq ≤ k) ∧ Aside0 (Kd.R Kd.string 9 wc w.heap.size (fun _ => True) v313 t311) ∧ Aside0 (wc.heap[gb310]? = some (.cells #[.int .i64 0, .string (⟨#[]⟩ : ByteArray), .string (⟨#[]⟩ : ByteArray), (.slice none 0 0)] 24 (0, 0))) ∧ Aside0 (Below w.heap.size w wc))
 case first =>
  have H := HC3.out
  clear HC3
  by_cases c6 : t312 = 0
  ·rw [if_pos c6] at H
   have c6b0 : (t312 == 0) = true := beq_iff_eq.mpr c6
   have c6b1 : (t312 != 0) = false := bne_eq_false_iff_eq.mpr c6
   clear c6
   (first | rw [c6b0] | (simp only [i64_w, i32_w]; rw [c6b0]) | skip)
   have H' := Aside0.mk H
   clear H
   obtain ⟨Ao7, co7, eo7⟩ := Kd.R_slice HO314.out
   subst eo7
   go_wp2
   repeat (go_quiet (fail); try go_wp2)
   go_meet
   case rel => exact ⟨_, (((t311.length : Int) == 0)), (by first | rfl | (simp; done) | (simp [*]; done)), H', ⟨by first | omega | exact Nat.le_refl _⟩, ⟨by (with_reducible repeat (first | apply ra | apply rb | apply rc)); exact HO314.out⟩, ⟨by (with_reducible repeat (first | refine kc ?_ _ | refine kb ?_ | refine ka ?_ _)); exact BK310.out⟩, ⟨by repeat (first | (with_reducible first | exact HB.out | apply below_alloc | apply pw_below_drewN | apply below_drew1 | refine below_set ?_ GE310.out) | exact HB.out)⟩⟩
  ·rw [if_neg c6] at H
   have c6b0 : (t312 == 0) = false := beq_eq_false_iff_ne.mpr c6
   have c6b1 : (t312 != 0) = true := bne_iff_ne.mpr c6
   (first | rw [c6b0] | (simp only [i64_w, i32_w]; rw [c6b0]) | skip)
   have H' := Aside0.mk H
   clear H
   go_wp2
   repeat (go_quiet (fail); try go_wp2)
   go_meet
   case rel => exact ⟨_, (true), (by first | rfl | (simp; done) | (simp [*]; done)), H', ⟨by first | omega | exact Nat.le_refl _⟩, ⟨by (with_reducible repeat (first | apply ra | apply rb | apply rc)); exact HO314.out⟩, ⟨by (with_reducible repeat (first | refine kc ?_ _ | refine kb ?_ | refine ka ?_ _)); exact BK310.out⟩, ⟨by repeat (first | (with_reducible first | exact HB.out | apply below_alloc | apply pw_below_drewN | apply below_drew1 | refine below_set ?_ GE310.out) | exact HB.out)⟩⟩
 case rest =>
  clear HC3
  try clear c1
  try clear p2
  try clear c6
  try clear c6b0
  try clear c6b1
  obtain ⟨kq, x22_2, rfl, HA, HJ2, HO_4, BK310, HB⟩ := hcut
  cases kq with
  | zero => exact absurd HA.out (by simp [prebendref27_Parse.j0])
  | succ kj2 =>
   have H := HA.out
   clear HA
   simp only [prebendref27_Parse.j0] at H
   by_cases c8 : x22_2 = true
   ·subst c8
    have H1 : (some (0, (⟨#[]⟩ : ByteArray), (⟨#[]⟩ : ByteArray), ([] : List Int), 11)) = some (r1, r2, r3, r4, r5) := by rw [if_pos rfl] at H; exact H
    clear H
    have H := H1
    clear H1
    simp only [Option.some.injEq, Prod.mk.injEq] at H
    obtain ⟨rfl, rfl, rfl, rfl, rfl⟩ := H
    have hcz9_0 : wc.cell? ⟨gb310, 0, none⟩ = some (.int .i64 0) := (blk_cell BK310.out 0).trans rfl
    have hcz9_1 : wc.cell? ⟨gb310, 1, none⟩ = some (.string (⟨#[]⟩ : ByteArray)) := (blk_cell BK310.out 1).trans rfl
    have hcz9_2 : wc.cell? ⟨gb310, 2, none⟩ = some (.string (⟨#[]⟩ : ByteArray)) := (blk_cell BK310.out 2).trans rfl
    have hcz9_3 : wc.cell? ⟨gb310, 3, none⟩ = some (.slice none 0 0) := (blk_cell BK310.out 3).trans rfl
    have hfz9_0 := blk_frozen BK310.out 0
    have hfz9_1 := blk_frozen BK310.out 1
    have hfz9_2 := blk_frozen BK310.out 2
    have hfz9_3 := blk_frozen BK310.out 3
    go_wp2
    repeat (go_quiet (fail); try go_wp2)
    refine bodyPost_ret (results_ct rfl _ _ gb310 24 #[.int .i64 0, .string (⟨#[]⟩ : ByteArray), .string (⟨#[]⟩ : ByteArray), .slice none 0 0] (0, 0) _ rfl (by (with_reducible repeat (first | refine kc ?_ _ | refine kb ?_ | refine ka ?_ _)); refine blk_put (cs := #[.int .i64 0, .string (⟨#[]⟩ : ByteArray), .string (⟨#[]⟩ : ByteArray), .slice none 0 0]) ?_ 3 _ rfl; (with_reducible repeat (first | refine kc ?_ _ | refine kb ?_ | refine ka ?_ _)); refine blk_put (cs := #[.int .i64 0, .string (⟨#[]⟩ : ByteArray), .string (⟨#[]⟩ : ByteArray), .slice none 0 0]) ?_ 2 _ rfl; (with_reducible repeat (first | refine kc ?_ _ | refine kb ?_ | refine ka ?_ _)); refine blk_put (cs := #[.int .i64 0, .string (⟨#[]⟩ : ByteArray), .string (⟨#[]⟩ : ByteArray), .slice none 0 0]) ?_ 1 _ rfl; (with_reducible repeat (first | refine kc ?_ _ | refine kb ?_ | refine ka ?_ _)); refine blk_put (cs := #[.int .i64 0, .string (⟨#[]⟩ : ByteArray), .string (⟨#[]⟩ : ByteArray), .slice none 0 0]) ?_ 0 _ rfl; (with_reducible repeat (first | refine kc ?_ _ | refine kb ?_ | refine ka ?_ _)); exact BK310.out) Tryd.underlying24 rfl (by kernel_rfl)) rfl ?_
    exact ⟨_, by first | rfl | (simp [errW_none, errW_some] <;> rfl) | (simp [*, errW_none, errW_some] <;> rfl), by first | exact Kd.R_nil _ _ _ _ _ | exact Kd.N_nil _ _ _ _ _ | exact Kd.V_nil _ _ _ _ _ | exact Kd.Q_nil _ _ _ _ _ | exact Kd.S_nil _ _ _ _ _, by repeat (first | (with_reducible first | exact HB.out | apply below_alloc | apply pw_below_drewN | apply below_drew1 | refine below_set ?_ GE310.out) | exact HB.out)⟩
   ·replace c8 := Bool.eq_false_iff.mpr c8
    subst c8
    have H1 : (prebendref27_Parse.l0 kj2 t311 1 0 (⟨#[]⟩ : ByteArray) (⟨#[]⟩ : ByteArray)) = some (r1, r2, r3, r4, r5) := by rw [if_neg (show ¬ (false = true) by decide)] at H; exact H
    clear H
    have H := H1
    clear H1
    have H' := Aside0.mk H
    clear H
    go_wp2_with (first | ((with_reducible refine gate_dst (N := 6) rfl ?_); (try (refine gate_guard (by rfl) ?_; dsimp only)); refine box_event ?hg (N := 6) ?hd (cs := #[.int .i64 0, .string (⟨#[]⟩ : ByteArray), .string (⟨#[]⟩ : ByteArray), .slice none 0 0]) (t := 24) ?hr ?_; (case hd => rfl); (case hg => rfl); (case hr => first | (go_simp; done) | (go_simp; rfl)); intro gb315 hg w10 hbox hb; have n0_ := Aside0.mk (Kd.R_below (by (with_reducible repeat (first | apply ra | apply rb | apply rc)); exact HO_4.out) hb); have n1_ := Aside0.mk (blk_below (g := gb310) (o := .cells #[.int .i64 0, .string (⟨#[]⟩ : ByteArray), .string (⟨#[]⟩ : ByteArray), .slice none 0 0] 24 (0, 0)) (by (with_reducible repeat (first | refine kc ?_ _ | refine kb ?_ | refine ka ?_ _)); exact BK310.out) hb); have n2_ := Aside0.mk (below_step (by repeat (first | (with_reducible first | exact HB.out | apply below_alloc | apply pw_below_drewN | apply below_drew1 | refine below_set ?_ GE310.out) | exact HB.out)) hb); have n3_ := Aside0.mk (hbox); have n4_ := Aside0.mk ((by rw [hg]; exact (below_size (by repeat (first | (with_reducible first | exact HB.out | apply below_alloc | apply pw_below_drewN | apply below_drew1 | refine below_set ?_ GE310.out) | exact HB.out))) : w.heap.size ≤ gb315)); have n5_ := Aside0.mk ((by rw [hg]; exact (below_size (by repeat (first | (with_reducible first | exact HB.out | apply below_alloc | apply pw_below_drewN | apply below_drew1 | refine below_set ?_ GE310.out) | exact HB.out))) : w.heap.size ≤ gb315)); have n6_ := Aside0.mk ((by rw [hg]; exact Nat.ne_of_lt (blk_lt (g := gb310) (o := .cells #[.int .i64 0, .string (⟨#[]⟩ : ByteArray), .string (⟨#[]⟩ : ByteArray), .slice none 0 0] 24 (0, 0)) (by (with_reducible repeat (first | refine kc ?_ _ | refine kb ?_ | refine ka ?_ _)); exact BK310.out)) : gb310 ≠ gb315)); have n7_ := Aside0.mk ((by rw [hg]; exact Nat.ne_of_gt (blk_lt (g := gb310) (o := .cells #[.int .i64 0, .string (⟨#[]⟩ : ByteArray), .string (⟨#[]⟩ : ByteArray), .slice none 0 0] 24 (0, 0)) (by (with_reducible repeat (first | refine kc ?_ _ | refine kb ?_ | refine ka ?_ _)); exact BK310.out)) : gb315 ≠ gb310)); clear HO_4; clear BK310; clear HB; have HO_4 := n0_; have BK310 := n1_; have HB := n2_; have BK315 := n3_; have GW315 := n4_; have GE315 := n5_; have NB310_315 := n6_; have NB315_310 := n7_; clear n0_ n1_ n2_ n3_ n4_ n5_ n6_ n7_; clear hb hbox hg; have hnb11 := NB315_310.out; have hnc11 := NB310_315.out; have hcz12_0 : w10.cell? ⟨gb315, 0, none⟩ = some (.int .i64 0) := (blk_cell BK315.out 0).trans rfl; have hcz12_1 : w10.cell? ⟨gb315, 1, none⟩ = some (.string (⟨#[]⟩ : ByteArray)) := (blk_cell BK315.out 1).trans rfl; have hcz12_2 : w10.cell? ⟨gb315, 2, none⟩ = some (.string (⟨#[]⟩ : ByteArray)) := (blk_cell BK315.out 2).trans rfl; have hcz12_3 : w10.cell? ⟨gb315, 3, none⟩ = some (.slice none 0 0) := (blk_cell BK315.out 3).trans rfl; have hfz12_0 := blk_frozen BK315.out 0; have hfz12_1 := blk_frozen BK315.out 1; have hfz12_2 := blk_frozen BK315.out 2; have hfz12_3 := blk_frozen BK315.out 3))
    repeat (go_quiet (first | ((with_reducible refine gate_dst (N := 6) rfl ?_); (try (refine gate_guard (by rfl) ?_; dsimp only)); refine box_event ?hg (N := 6) ?hd (cs := #[.int .i64 0, .string (⟨#[]⟩ : ByteArray), .string (⟨#[]⟩ : ByteArray), .slice none 0 0]) (t := 24) ?hr ?_; (case hd => rfl); (case hg => rfl); (case hr => first | (go_simp; done) | (go_simp; rfl)); intro gb315 hg w10 hbox hb; have n0_ := Aside0.mk (Kd.R_below (by (with_reducible repeat (first | apply ra | apply rb | apply rc)); exact HO_4.out) hb); have n1_ := Aside0.mk (blk_below (g := gb310) (o := .cells #[.int .i64 0, .string (⟨#[]⟩ : ByteArray), .string (⟨#[]⟩ : ByteArray), .slice none 0 0] 24 (0, 0)) (by (with_reducible repeat (first | refine kc ?_ _ | refine kb ?_ | refine ka ?_ _)); exact BK310.out) hb); have n2_ := Aside0.mk (below_step (by repeat (first | (with_reducible first | exact HB.out | apply below_alloc | apply pw_below_drewN | apply below_drew1 | refine below_set ?_ GE310.out) | exact HB.out)) hb); have n3_ := Aside0.mk (hbox); have n4_ := Aside0.mk ((by rw [hg]; exact (below_size (by repeat (first | (with_reducible first | exact HB.out | apply below_alloc | apply pw_below_drewN | apply below_drew1 | refine below_set ?_ GE310.out) | exact HB.out))) : w.heap.size ≤ gb315)); have n5_ := Aside0.mk ((by rw [hg]; exact (below_size (by repeat (first | (with_reducible first | exact HB.out | apply below_alloc | apply pw_below_drewN | apply below_drew1 | refine below_set ?_ GE310.out) | exact HB.out))) : w.heap.size ≤ gb315)); have n6_ := Aside0.mk ((by rw [hg]; exact Nat.ne_of_lt (blk_lt (g := gb310) (o := .cells #[.int .i64 0, .string (⟨#[]⟩ : ByteArray), .string (⟨#[]⟩ : ByteArray), .slice none 0 0] 24 (0, 0)) (by (with_reducible repeat (first | refine kc ?_ _ | refine kb ?_ | refine ka ?_ _)); exact BK310.out)) : gb310 ≠ gb315)); have n7_ := Aside0.mk ((by rw [hg]; exact Nat.ne_of_gt (blk_lt (g := gb310) (o := .cells #[.int .i64 0, .string (⟨#[]⟩ : ByteArray), .string (⟨#[]⟩ : ByteArray), .slice none 0 0] 24 (0, 0)) (by (with_reducible repeat (first | refine kc ?_ _ | refine kb ?_ | refine ka ?_ _)); exact BK310.out)) : gb315 ≠ gb310)); clear HO_4; clear BK310; clear HB; have HO_4 := n0_; have BK310 := n1_; have HB := n2_; have BK315 := n3_; have GW315 := n4_; have GE315 := n5_; have NB310_315 := n6_; have NB315_310 := n7_; clear n0_ n1_ n2_ n3_ n4_ n5_ n6_ n7_; clear hb hbox hg; have hnb11 := NB315_310.out; have hnc11 := NB310_315.out; have hcz12_0 : w10.cell? ⟨gb315, 0, none⟩ = some (.int .i64 0) := (blk_cell BK315.out 0).trans rfl; have hcz12_1 : w10.cell? ⟨gb315, 1, none⟩ = some (.string (⟨#[]⟩ : ByteArray)) := (blk_cell BK315.out 1).trans rfl; have hcz12_2 : w10.cell? ⟨gb315, 2, none⟩ = some (.string (⟨#[]⟩ : ByteArray)) := (blk_cell BK315.out 2).trans rfl; have hcz12_3 : w10.cell? ⟨gb315, 3, none⟩ = some (.slice none 0 0) := (blk_cell BK315.out 3).trans rfl; have hfz12_0 := blk_frozen BK315.out 0; have hfz12_1 := blk_frozen BK315.out 1; have hfz12_2 := blk_frozen BK315.out 2; have hfz12_3 := blk_frozen BK315.out 3)); try go_wp2_with (first | ((with_reducible refine gate_dst (N := 6) rfl ?_); (try (refine gate_guard (by rfl) ?_; dsimp only)); refine box_event ?hg (N := 6) ?hd (cs := #[.int .i64 0, .string (⟨#[]⟩ : ByteArray), .string (⟨#[]⟩ : ByteArray), .slice none 0 0]) (t := 24) ?hr ?_; (case hd => rfl); (case hg => rfl); (case hr => first | (go_simp; done) | (go_simp; rfl)); intro gb315 hg w10 hbox hb; have n0_ := Aside0.mk (Kd.R_below (by (with_reducible repeat (first | apply ra | apply rb | apply rc)); exact HO_4.out) hb); have n1_ := Aside0.mk (blk_below (g := gb310) (o := .cells #[.int .i64 0, .string (⟨#[]⟩ : ByteArray), .string (⟨#[]⟩ : ByteArray), .slice none 0 0] 24 (0, 0)) (by (with_reducible repeat (first | refine kc ?_ _ | refine kb ?_ | refine ka ?_ _)); exact BK310.out) hb); have n2_ := Aside0.mk (below_step (by repeat (first | (with_reducible first | exact HB.out | apply below_alloc | apply pw_below_drewN | apply below_drew1 | refine below_set ?_ GE310.out) | exact HB.out)) hb); have n3_ := Aside0.mk (hbox); have n4_ := Aside0.mk ((by rw [hg]; exact (below_size (by repeat (first | (with_reducible first | exact HB.out | apply below_alloc | apply pw_below_drewN | apply below_drew1 | refine below_set ?_ GE310.out) | exact HB.out))) : w.heap.size ≤ gb315)); have n5_ := Aside0.mk ((by rw [hg]; exact (below_size (by repeat (first | (with_reducible first | exact HB.out | apply below_alloc | apply pw_below_drewN | apply below_drew1 | refine below_set ?_ GE310.out) | exact HB.out))) : w.heap.size ≤ gb315)); have n6_ := Aside0.mk ((by rw [hg]; exact Nat.ne_of_lt (blk_lt (g := gb310) (o := .cells #[.int .i64 0, .string (⟨#[]⟩ : ByteArray), .string (⟨#[]⟩ : ByteArray), .slice none 0 0] 24 (0, 0)) (by (with_reducible repeat (first | refine kc ?_ _ | refine kb ?_ | refine ka ?_ _)); exact BK310.out)) : gb310 ≠ gb315)); have n7_ := Aside0.mk ((by rw [hg]; exact Nat.ne_of_gt (blk_lt (g := gb310) (o := .cells #[.int .i64 0, .string (⟨#[]⟩ : ByteArray), .string (⟨#[]⟩ : ByteArray), .slice none 0 0] 24 (0, 0)) (by (with_reducible repeat (first | refine kc ?_ _ | refine kb ?_ | refine ka ?_ _)); exact BK310.out)) : gb315 ≠ gb310)); clear HO_4; clear BK310; clear HB; have HO_4 := n0_; have BK310 := n1_; have HB := n2_; have BK315 := n3_; have GW315 := n4_; have GE315 := n5_; have NB310_315 := n6_; have NB315_310 := n7_; clear n0_ n1_ n2_ n3_ n4_ n5_ n6_ n7_; clear hb hbox hg; have hnb11 := NB315_310.out; have hnc11 := NB310_315.out; have hcz12_0 : w10.cell? ⟨gb315, 0, none⟩ = some (.int .i64 0) := (blk_cell BK315.out 0).trans rfl; have hcz12_1 : w10.cell? ⟨gb315, 1, none⟩ = some (.string (⟨#[]⟩ : ByteArray)) := (blk_cell BK315.out 1).trans rfl; have hcz12_2 : w10.cell? ⟨gb315, 2, none⟩ = some (.string (⟨#[]⟩ : ByteArray)) := (blk_cell BK315.out 2).trans rfl; have hcz12_3 : w10.cell? ⟨gb315, 3, none⟩ = some (.slice none 0 0) := (blk_cell BK315.out 3).trans rfl; have hfz12_0 := blk_frozen BK315.out 0; have hfz12_1 := blk_frozen BK315.out 1; have hfz12_2 := blk_frozen BK315.out 2; have hfz12_3 := blk_frozen BK315.out 3)))
    go_loopg [7] kj2 (fun kq v7 w' => ∃ (x7_2 : Int) (x316000_2 : Int), v7 = .int .i64 x7_2 ∧ Aside0 (prebendref27_Parse.l0 kq t311 x7_2 x316000_2 (⟨#[]⟩ : ByteArray) (⟨#[]⟩ : ByteArray) = some (r1, r2, r3, r4, r5)) ∧ Aside0 (kq ≤ kj2) ∧ Aside0 (Kd.R Kd.string 9 w' w.heap.size (fun _ => True) v313 t311) ∧ Aside0 (w'.heap[gb310]? = some (.cells #[.int .i64 0, .string (⟨#[]⟩ : ByteArray), .string (⟨#[]⟩ : ByteArray), (.slice none 0 0)] 24 (0, 0))) ∧ Aside0 (w'.heap[gb315]? = some (.cells #[.int .i64 x316000_2, .string (⟨#[]⟩ : ByteArray), .string (⟨#[]⟩ : ByteArray), (.slice none 0 0)] 24 (0, 0))) ∧ Aside0 (Below w.heap.size w w'))
    case atStart => exact ⟨(1), (0), (by first | rfl | (simp; done) | (simp [*]; done)), H', ⟨Nat.le_refl _⟩, ⟨by (with_reducible repeat (first | apply ra | apply rb | apply rc)); exact Kd.R_mono (Kd.R_far (p := ⟨gb315, 3, none⟩) (Kd.R_far (p := ⟨gb315, 2, none⟩) (Kd.R_far (p := ⟨gb315, 1, none⟩) (Kd.R_far (p := ⟨gb315, 0, none⟩) (Kd.R_types HO_4.out BK315.out (by decide)) (fun _ hk => hk.2) (.int .i64 0)) (fun _ hk => hk.2) (.string (⟨#[]⟩ : ByteArray))) (fun _ hk => hk.2) (.string (⟨#[]⟩ : ByteArray))) (fun _ hk => hk.2) (.slice none 0 0)) (fun _ hk => trivial)⟩, ⟨by (with_reducible repeat (first | refine kc ?_ _ | refine kb ?_ | refine ka ?_ _)); refine blk_far ?_ NB310_315.out _; (with_reducible repeat (first | refine kc ?_ _ | refine kb ?_ | refine ka ?_ _)); refine blk_far ?_ NB310_315.out _; (with_reducible repeat (first | refine kc ?_ _ | refine kb ?_ | refine ka ?_ _)); refine blk_far ?_ NB310_315.out _; (with_reducible repeat (first | refine kc ?_ _ | refine kb ?_ | refine ka ?_ _)); refine blk_far ?_ NB310_315.out _; (with_reducible repeat (first | refine kc ?_ _ | refine kb ?_ | refine ka ?_ _)); exact BK310.out⟩, ⟨by (with_reducible repeat (first | refine kc ?_ _ | refine kb ?_ | refine ka ?_ _)); refine blk_put (cs := #[.int .i64 0, .string (⟨#[]⟩ : ByteArray), .string (⟨#[]⟩ : ByteArray), .slice none 0 0]) ?_ 3 _ rfl; (with_reducible repeat (first | refine kc ?_ _ | refine kb ?_ | refine ka ?_ _)); refine blk_put (cs := #[.int .i64 0, .string (⟨#[]⟩ : ByteArray), .string (⟨#[]⟩ : ByteArray), .slice none 0 0]) ?_ 2 _ rfl; (with_reducible repeat (first | refine kc ?_ _ | refine kb ?_ | refine ka ?_ _)); refine blk_put (cs := #[.int .i64 0, .string (⟨#[]⟩ : ByteArray), .string (⟨#[]⟩ : ByteArray), .slice none 0 0]) ?_ 1 _ rfl; (with_reducible repeat (first | refine kc ?_ _ | refine kb ?_ | refine ka ?_ _)); refine blk_put (cs := #[.int .i64 0, .string (⟨#[]⟩ : ByteArray), .string (⟨#[]⟩ : ByteArray), .slice none 0 0]) ?_ 0 _ rfl; (with_reducible repeat (first | refine kc ?_ _ | refine kb ?_ | refine ka ?_ _)); exact BK315.out⟩, ⟨by repeat (first | (with_reducible first | exact HB.out | apply below_alloc | apply pw_below_drewN | apply below_drew1 | refine below_set ?_ GE310.out | refine below_set ?_ GE315.out) | exact HB.out)⟩⟩
    case round =>
     clear H'
     try clear c1
     try clear p2
     try clear c6
     try clear c6b0
     try clear c6b1
     try clear c8
     try clear c11
     try clear hcz12_0
     try clear hcz12_1
     try clear hcz12_2
     try clear hcz12_3
     try clear hcz9_0
     try clear hcz9_1
     try clear hcz9_2
     try clear hcz9_3
     try clear hfz12_0
     try clear hfz12_1
     try clear hfz12_2
     try clear hfz12_3
     try clear hfz9_0
     try clear hfz9_1
     try clear hfz9_2
     try clear hfz9_3
     try clear p2
     obtain ⟨x7_2, x316000_2, rfl, HA, HK2, HO_4, BK310, BK315, HB⟩ := hrel
     cases gk with
     | zero => exact absurd HA.out (by simp [prebendref27_Parse.l0])
     | succ k2 =>
      have H := HA.out
      clear HA
      simp only [prebendref27_Parse.l0] at H
      by_cases c13 : x7_2 ≤ 28
      ·rw [if_pos c13] at H
       have c13b0 : decide (x7_2 ≤ 28) = true := decide_eq_true c13
       clear c13
       replace H := Option.bind_eq_some_iff.mp H
       obtain ⟨t316, A140, H⟩ := H
       replace H : (if t316.toList = ([] : List UInt8) then (prebendref27_Parse.l0 k2 t311 (wrap64 (x7_2 + 1)) x316000_2 (⟨#[]⟩ : ByteArray) (⟨#[]⟩ : ByteArray)) else ((prebendref27_word.f x7_2).bind fun t317 => (if 0 < (t311.length : Int) then (if t317.toList = (rdOf ByteArray.empty t311 0).toList then (prebendref27_Parse.l0 k2 t311 (wrap64 (x7_2 + 1)) x7_2 (⟨#[]⟩ : ByteArray) (⟨#[]⟩ : ByteArray)) else (prebendref27_Parse.l0 k2 t311 (wrap64 (x7_2 + 1)) x316000_2 (⟨#[]⟩ : ByteArray) (⟨#[]⟩ : ByteArray))) else (none)))) = some (r1, r2, r3, r4, r5) := H
       have A14 := Aside0.mk A140
       clear A140
       by_cases c15 : t316.toList = ([] : List UInt8)
       ·rw [if_pos c15] at H
        have c15b0 : (t316.toList == ([] : List UInt8)) = true := beq_iff_eq.mpr c15
        have c15e0 : (t316).toList.isEmpty = true := by cases h_ : (t316).toList with | nil => (first | rfl | (rw [h_] at c15b0; cases c15b0)) | cons => (first | rfl | (rw [h_] at c15b0; cases c15b0))
        have c15e1 : (!(t316).toList.isEmpty) = false := by rw [c15e0]; rfl
        have c15e2 : ¬ ((!(t316).toList.isEmpty) = true) := by rw [c15e1]; decide
        have c15b1 : (t316.toList != ([] : List UInt8)) = false := bne_eq_false_iff_eq.mpr c15
        clear c15
        have H' := Aside0.mk H
        clear H
        go_wp2_with (first | (go_at_call 36; (with_reducible refine (prebendref27_word.calls x7_2 t316 _ A14.out).mono ?_); rintro e w' ⟨rfl, ⟨nd, rfl⟩⟩; (try first | exact ⟨rfl, _, World.drewN_drewN _ _ _⟩ | exact ⟨rfl, _, Eq.trans (World.drewN_drewN _ _ _) (congrArg (World.drewN _) (Nat.add_assoc _ _ _))⟩)))
        repeat (go_quiet (first | (go_at_call 36; (with_reducible refine (prebendref27_word.calls x7_2 t316 _ A14.out).mono ?_); rintro e w' ⟨rfl, ⟨nd, rfl⟩⟩; (try first | exact ⟨rfl, _, World.drewN_drewN _ _ _⟩ | exact ⟨rfl, _, Eq.trans (World.drewN_drewN _ _ _) (congrArg (World.drewN _) (Nat.add_assoc _ _ _))⟩))); try go_wp2_with (first | (go_at_call 36; (with_reducible refine (prebendref27_word.calls x7_2 t316 _ A14.out).mono ?_); rintro e w' ⟨rfl, ⟨nd, rfl⟩⟩; (try first | exact ⟨rfl, _, World.drewN_drewN _ _ _⟩ | exact ⟨rfl, _, Eq.trans (World.drewN_drewN _ _ _) (congrArg (World.drewN _) (Nat.add_assoc _ _ _))⟩))))
        go_roundg k2
        case measure => have := HJ2.out; have := HK2.out; omega
        case rel => exact ⟨(wrap64 (x7_2 + 1)), (x316000_2), (by first | rfl | (simp; done) | (simp [*]; done)), H', ⟨by have := HJ2.out; have := HK2.out; omega⟩, ⟨by (with_reducible repeat (first | apply ra | apply rb | apply rc)); exact HO_4.out⟩, ⟨by (with_reducible repeat (first | refine kc ?_ _ | refine kb ?_ | refine ka ?_ _)); exact BK310.out⟩, ⟨by (with_reducible repeat (first | refine kc ?_ _ | refine kb ?_ | refine ka ?_ _)); exact BK315.out⟩, ⟨by repeat (first | (with_reducible first | exact HB.out | apply below_alloc | apply pw_below_drewN | apply below_drew1 | refine below_set ?_ GE310.out | refine below_set ?_ GE315.out) | exact HB.out)⟩⟩
       ·rw [if_neg c15] at H
        have c15b0 : (t316.toList == ([] : List UInt8)) = false := beq_eq_false_iff_ne.mpr c15
        have c15e0 : (t316).toList.isEmpty = false := by cases h_ : (t316).toList with | nil => (first | rfl | (rw [h_] at c15b0; cases c15b0)) | cons => (first | rfl | (rw [h_] at c15b0; cases c15b0))
        have c15e1 : (!(t316).toList.isEmpty) = true := by rw [c15e0]; rfl
        have c15e2 : ¬ ((!(t316).toList.isEmpty) = false) := by rw [c15e1]; decide
        have c15b1 : (t316.toList != ([] : List UInt8)) = true := bne_iff_ne.mpr c15
        replace H := Option.bind_eq_some_iff.mp H
        obtain ⟨t317, A160, H⟩ := H
        replace H : (if 0 < (t311.length : Int) then (if t317.toList = (rdOf ByteArray.empty t311 0).toList then (prebendref27_Parse.l0 k2 t311 (wrap64 (x7_2 + 1)) x7_2 (⟨#[]⟩ : ByteArray) (⟨#[]⟩ : ByteArray)) else (prebendref27_Parse.l0 k2 t311 (wrap64 (x7_2 + 1)) x316000_2 (⟨#[]⟩ : ByteArray) (⟨#[]⟩ : ByteArray))) else (none)) = some (r1, r2, r3, r4, r5) := H
        have A16 := Aside0.mk A160
        clear A160
        by_cases c17 : 0 < (t311.length : Int)
        ·rw [if_pos c17] at H
         have c17b0 : decide (0 < (t311.length : Int)) = true := decide_eq_true c17
         have c17b1 : decide (0 < t311.length) = true := decide_eq_true (by omega)
         clear c17
         by_cases c18 : t317.toList = (rdOf ByteArray.empty t311 0).toList
         ·rw [if_pos c18] at H
          have c18b0 : (t317.toList == (rdOf ByteArray.empty t311 0).toList) = true := beq_iff_eq.mpr c18
          have c18b1 : (t317.toList != (rdOf ByteArray.empty t311 0).toList) = false := bne_eq_false_iff_eq.mpr c18
          clear c18
          have H' := Aside0.mk H
          clear H
          have e317 : t316 = t317 := Option.some.inj (A14.out.symm.trans A16.out)
          subst e317
          obtain ⟨Ao19, co19, eo19⟩ := Kd.R_slice HO_4.out
          subst eo19
          have p318 : 0 ≤ (0 : Int) := (by omega)
          have q318 : 0 < (t311.length : Int) := of_decide_eq_true (by first | (with_reducible assumption) | assumption)
          obtain ⟨ad318, e318, hx318_0⟩ := Kd.at_string (Kd.R_reads' HO_4.out).2.2 0 p318 q318
          cases e318
          have qi318 : (0 < t311.length) = True := eq_true (by omega)
          (try rw [show ((0 : Int)).toNat = 0 from rfl] at hx318_0)
          (try rw [Addr.add_zero'] at hx318_0)
          replace p318 := eq_true p318
          replace q318 := eq_true q318
          have hnb20 := NB315_310.out
          have hnc20 := NB310_315.out
          have hcz21_0 : wr.cell? ⟨gb315, 0, none⟩ = some (.int .i64 x316000_2) := (blk_cell BK315.out 0).trans rfl
          have hcz21_1 : wr.cell? ⟨gb315, 1, none⟩ = some (.string (⟨#[]⟩ : ByteArray)) := (blk_cell BK315.out 1).trans rfl
          have hcz21_2 : wr.cell? ⟨gb315, 2, none⟩ = some (.string (⟨#[]⟩ : ByteArray)) := (blk_cell BK315.out 2).trans rfl
          have hcz21_3 : wr.cell? ⟨gb315, 3, none⟩ = some (.slice none 0 0) := (blk_cell BK315.out 3).trans rfl
          have hfz21_0 := blk_frozen BK315.out 0
          have hfz21_1 := blk_frozen BK315.out 1
          have hfz21_2 := blk_frozen BK315.out 2
          have hfz21_3 := blk_frozen BK315.out 3
          go_wp2_with (first | (go_at_call 36; (with_reducible refine (prebendref27_word.calls x7_2 t316 _ A14.out).mono ?_); rintro e w' ⟨rfl, ⟨nd, rfl⟩⟩; (try first | exact ⟨rfl, _, World.drewN_drewN _ _ _⟩ | exact ⟨rfl, _, Eq.trans (World.drewN_drewN _ _ _) (congrArg (World.drewN _) (Nat.add_assoc _ _ _))⟩)))
          repeat (go_quiet (first | (go_at_call 36; (with_reducible refine (prebendref27_word.calls x7_2 t316 _ A14.out).mono ?_); rintro e w' ⟨rfl, ⟨nd, rfl⟩⟩; (try first | exact ⟨rfl, _, World.drewN_drewN _ _ _⟩ | exact ⟨rfl, _, Eq.trans (World.drewN_drewN _ _ _) (congrArg (World.drewN _) (Nat.add_assoc _ _ _))⟩))); try go_wp2_with (first | (go_at_call 36; (with_reducible refine (prebendref27_word.calls x7_2 t316 _ A14.out).mono ?_); rintro e w' ⟨rfl, ⟨nd, rfl⟩⟩; (try first | exact ⟨rfl, _, World.drewN_drewN _ _ _⟩ | exact ⟨rfl, _, Eq.trans (World.drewN_drewN _ _ _) (congrArg (World.drewN _) (Nat.add_assoc _ _ _))⟩)) | (go_at_call 36; (with_reducible refine (prebendref27_word.calls x7_2 t317 _ A16.out).mono ?_); rintro e w' ⟨rfl, ⟨nd, rfl⟩⟩; (try clear A16); (try first | exact ⟨rfl, _, World.drewN_drewN _ _ _⟩ | exact ⟨rfl, _, Eq.trans (World.drewN_drewN _ _ _) (congrArg (World.drewN _) (Nat.add_assoc _ _ _))⟩); obtain ⟨Ao19, co19, eo19⟩ := Kd.R_slice HO_4.out; subst eo19; have p318 : 0 ≤ (0 : Int) := (by omega); have q318 : 0 < (t311.length : Int) := of_decide_eq_true (by first | (with_reducible assumption) | assumption); obtain ⟨ad318, e318, hx318_0⟩ := Kd.at_string (Kd.R_reads' HO_4.out).2.2 0 p318 q318; cases e318; have qi318 : (0 < t311.length) = True := eq_true (by omega); (try rw [show ((0 : Int)).toNat = 0 from rfl] at hx318_0); (try rw [Addr.add_zero'] at hx318_0); replace p318 := eq_true p318; replace q318 := eq_true q318; have hnb20 := NB315_310.out; have hnc20 := NB310_315.out; have hcz21_0 : wr.cell? ⟨gb315, 0, none⟩ = some (.int .i64 x316000_2) := (blk_cell BK315.out 0).trans rfl; have hcz21_1 : wr.cell? ⟨gb315, 1, none⟩ = some (.string (⟨#[]⟩ : ByteArray)) := (blk_cell BK315.out 1).trans rfl; have hcz21_2 : wr.cell? ⟨gb315, 2, none⟩ = some (.string (⟨#[]⟩ : ByteArray)) := (blk_cell BK315.out 2).trans rfl; have hcz21_3 : wr.cell? ⟨gb315, 3, none⟩ = some (.slice none 0 0) := (blk_cell BK315.out 3).trans rfl; have hfz21_0 := blk_frozen BK315.out 0; have hfz21_1 := blk_frozen BK315.out 1; have hfz21_2 := blk_frozen BK315.out 2; have hfz21_3 := blk_frozen BK315.out 3)))
          go_roundg k2
          case measure => have := HJ2.out; have := HK2.out; omega
          case rel => exact ⟨(wrap64 (x7_2 + 1)), (x7_2), (by first | rfl | (simp; done) | (simp [*]; done)), H', ⟨by have := HJ2.out; have := HK2.out; omega⟩, ⟨by (with_reducible repeat (first | apply ra | apply rb | apply rc)); exact Kd.R_mono (Kd.R_far (p := ⟨gb315, 0, none⟩) (Kd.R_types HO_4.out BK315.out (by decide)) (fun _ hk => hk.2) (.int .i64 x7_2)) (fun _ hk => trivial)⟩, ⟨by (with_reducible repeat (first | refine kc ?_ _ | refine kb ?_ | refine ka ?_ _)); refine blk_far ?_ NB310_315.out _; (with_reducible repeat (first | refine kc ?_ _ | refine kb ?_ | refine ka ?_ _)); exact BK310.out⟩, ⟨by (with_reducible repeat (first | refine kc ?_ _ | refine kb ?_ | refine ka ?_ _)); refine blk_put (cs := #[.int .i64 x316000_2, .string (⟨#[]⟩ : ByteArray), .string (⟨#[]⟩ : ByteArray), .slice none 0 0]) ?_ 0 _ rfl; (with_reducible repeat (first | refine kc ?_ _ | refine kb ?_ | refine ka ?_ _)); exact BK315.out⟩, ⟨by repeat (first | (with_reducible first | exact HB.out | apply below_alloc | apply pw_below_drewN | apply below_drew1 | refine below_set ?_ GE310.out | refine below_set ?_ GE315.out) | exact HB.out)⟩⟩
         ·rw [if_neg c18] at H
          have c18b0 : (t317.toList == (rdOf ByteArray.empty t311 0).toList) = false := beq_eq_false_iff_ne.mpr c18
          have c18b1 : (t317.toList != (rdOf ByteArray.empty t311 0).toList) = true := bne_iff_ne.mpr c18
          have H' := Aside0.mk H
          clear H
          have e317 : t316 = t317 := Option.some.inj (A14.out.symm.trans A16.out)
          subst e317
          obtain ⟨Ao22, co22, eo22⟩ := Kd.R_slice HO_4.out
          subst eo22
          have p318 : 0 ≤ (0 : Int) := (by omega)
          have q318 : 0 < (t311.length : Int) := of_decide_eq_true (by first | (with_reducible assumption) | assumption)
          obtain ⟨ad318, e318, hx318_0⟩ := Kd.at_string (Kd.R_reads' HO_4.out).2.2 0 p318 q318
          cases e318
          have qi318 : (0 < t311.length) = True := eq_true (by omega)
          (try rw [show ((0 : Int)).toNat = 0 from rfl] at hx318_0)
          (try rw [Addr.add_zero'] at hx318_0)
          replace p318 := eq_true p318
          replace q318 := eq_true q318
          go_wp2_with (first | (go_at_call 36; (with_reducible refine (prebendref27_word.calls x7_2 t316 _ A14.out).mono ?_); rintro e w' ⟨rfl, ⟨nd, rfl⟩⟩; (try first | exact ⟨rfl, _, World.drewN_drewN _ _ _⟩ | exact ⟨rfl, _, Eq.trans (World.drewN_drewN _ _ _) (congrArg (World.drewN _) (Nat.add_assoc _ _ _))⟩)))
          repeat (go_quiet (first | (go_at_call 36; (with_reducible refine (prebendref27_word.calls x7_2 t316 _ A14.out).mono ?_); rintro e w' ⟨rfl, ⟨nd, rfl⟩⟩; (try first | exact ⟨rfl, _, World.drewN_drewN _ _ _⟩ | exact ⟨rfl, _, Eq.trans (World.drewN_drewN _ _ _) (congrArg (World.drewN _) (Nat.add_assoc _ _ _))⟩))); try go_wp2_with (first | (go_at_call 36; (with_reducible refine (prebendref27_word.calls x7_2 t316 _ A14.out).mono ?_); rintro e w' ⟨rfl, ⟨nd, rfl⟩⟩; (try first | exact ⟨rfl, _, World.drewN_drewN _ _ _⟩ | exact ⟨rfl, _, Eq.trans (World.drewN_drewN _ _ _) (congrArg (World.drewN _) (Nat.add_assoc _ _ _))⟩)) | (go_at_call 36; (with_reducible refine (prebendref27_word.calls x7_2 t317 _ A16.out).mono ?_); rintro e w' ⟨rfl, ⟨nd, rfl⟩⟩; (try clear A16); (try first | exact ⟨rfl, _, World.drewN_drewN _ _ _⟩ | exact ⟨rfl, _, Eq.trans (World.drewN_drewN _ _ _) (congrArg (World.drewN _) (Nat.add_assoc _ _ _))⟩); obtain ⟨Ao22, co22, eo22⟩ := Kd.R_slice HO_4.out; subst eo22; have p318 : 0 ≤ (0 : Int) := (by omega); have q318 : 0 < (t311.length : Int) := of_decide_eq_true (by first | (with_reducible assumption) | assumption); obtain ⟨ad318, e318, hx318_0⟩ := Kd.at_string (Kd.R_reads' HO_4.out).2.2 0 p318 q318; cases e318; have qi318 : (0 < t311.length) = True := eq_true (by omega); (try rw [show ((0 : Int)).toNat = 0 from rfl] at hx318_0); (try rw [Addr.add_zero'] at hx318_0); replace p318 := eq_true p318; replace q318 := eq_true q318)))
          go_roundg k2
          case measure => have := HJ2.out; have := HK2.out; omega
          case rel => exact ⟨(wrap64 (x7_2 + 1)), (x316000_2), (by first | rfl | (simp; done) | (simp [*]; done)), H', ⟨by have := HJ2.out; have := HK2.out; omega⟩, ⟨by (with_reducible repeat (first | apply ra | apply rb | apply rc)); exact HO_4.out⟩, ⟨by (with_reducible repeat (first | refine kc ?_ _ | refine kb ?_ | refine ka ?_ _)); exact BK310.out⟩, ⟨by (with_reducible repeat (first | refine kc ?_ _ | refine kb ?_ | refine ka ?_ _)); exact BK315.out⟩, ⟨by repeat (first | (with_reducible first | exact HB.out | apply below_alloc | apply pw_below_drewN | apply below_drew1 | refine below_set ?_ GE310.out | refine below_set ?_ GE315.out) | exact HB.out)⟩⟩
        ·rw [if_neg c17] at H
         exact absurd H (by simp)
      ·rw [if_neg c13] at H
       have c13b0 : decide (x7_2 ≤ 28) = false := decide_eq_false c13
       clear c13
       have H' := Aside0.mk H
       clear H
       go_wp2
       repeat (go_quiet (fail); try go_wp2)
       go_loopg [8] k2 (fun kq v8 w' => ∃ (x8_3 : Int) (x316001_3 : ByteArray) (x316002_3 : ByteArray) (x316003_3 : List Int) (u316003 : Value), v8 = .int .i64 x8_3 ∧ Aside0 (prebendref27_Parse.l1 kq t311 x8_3 x316000_2 x316001_3 x316002_3 x316003_3 = some (r1, r2, r3, r4, r5)) ∧ Aside0 (kq ≤ k2) ∧ Aside0 (Kd.R Kd.string 9 w' w.heap.size (fun _ => True) v313 t311) ∧ Aside0 (Kd.R (Kd.int .i64) 3 w' w.heap.size (fun _ => True) u316003 x316003_3) ∧ Aside0 (w'.heap[gb310]? = some (.cells #[.int .i64 0, .string (⟨#[]⟩ : ByteArray), .string (⟨#[]⟩ : ByteArray), (.slice none 0 0)] 24 (0, 0))) ∧ Aside0 (w'.heap[gb315]? = some (.cells #[.int .i64 x316000_2, .string x316001_3, .string x316002_3, u316003] 24 (0, 0))) ∧ Aside0 (Below w.heap.size w w'))
       case atStart => exact ⟨(1), ((⟨#[]⟩ : ByteArray)), ((⟨#[]⟩ : ByteArray)), (([] : List Int)), (.slice none 0 0), (by first | rfl | (simp; done) | (simp [*]; done)), H', ⟨Nat.le_refl _⟩, ⟨by (with_reducible repeat (first | apply ra | apply rb | apply rc)); exact HO_4.out⟩, ⟨by first | exact Kd.R_nil _ _ _ _ _ | exact Kd.N_nil _ _ _ _ _ | exact Kd.V_nil _ _ _ _ _ | exact Kd.Q_nil _ _ _ _ _ | exact Kd.S_nil _ _ _ _ _⟩, ⟨by (with_reducible repeat (first | refine kc ?_ _ | refine kb ?_ | refine ka ?_ _)); exact BK310.out⟩, ⟨by (with_reducible repeat (first | refine kc ?_ _ | refine kb ?_ | refine ka ?_ _)); exact BK315.out⟩, ⟨by repeat (first | (with_reducible first | exact HB.out | apply below_alloc | apply pw_below_drewN | apply below_drew1 | refine below_set ?_ GE310.out | refine below_set ?_ GE315.out) | exact HB.out)⟩⟩
       case round =>
        clear H'
        try clear c1
        try clear c2
        try clear p2
        try clear p3
        try clear q3
        try clear hx3
        try clear qi3
        try clear c6
        try clear c6b0
        try clear c6b1
        try clear p6
        try clear c8
        try clear c11
        try clear c13
        try clear c13b0
        try clear c15
        try clear c15b0
        try clear c15b1
        try clear c17
        try clear c17b0
        try clear c17b1
        try clear c18
        try clear c18b0
        try clear c18b1
        try clear c19
        try clear c20
        try clear hcz12_0
        try clear hcz12_1
        try clear hcz12_2
        try clear hcz12_3
        try clear hcz21_0
        try clear hcz21_1
        try clear hcz21_2
        try clear hcz21_3
        try clear hcz9_0
        try clear hcz9_1
        try clear hcz9_2
        try clear hcz9_3
        try clear hfz12_0
        try clear hfz12_1
        try clear hfz12_2
        try clear hfz12_3
        try clear hfz21_0
        try clear hfz21_1
        try clear hfz21_2
        try clear hfz21_3
        try clear hfz9_0
        try clear hfz9_1
        try clear hfz9_2
        try clear hfz9_3
        try clear hx318_0
        try clear p2
        try clear p318
        try clear q318
        obtain ⟨x8_3, x316001_3, x316002_3, x316003_3, u316003, rfl, HA, HK3, HO_4, HO_316003, BK310, BK315, HB⟩ := hrel
        cases gk with
        | zero => exact absurd HA.out (by simp [prebendref27_Parse.l1])
        | succ k3 =>
         have H := HA.out
         clear HA
         simp only [prebendref27_Parse.l1] at H
         by_cases c23 : x8_3 < (t311.length : Int)
         ·rw [if_pos c23] at H
          have c23b0 : decide (x8_3 < (t311.length : Int)) = true := decide_eq_true c23
          clear c23
          by_cases c24 : 0 ≤ x8_3
          ·rw [if_pos c24] at H
           have c24b0 : decide (0 ≤ x8_3) = true := decide_eq_true c24
           clear c24
           replace H := Option.bind_eq_some_iff.mp H
           obtain ⟨⟨t320, t321⟩, A250, H⟩ := H
           replace H : (if t321 = true then (if 0 ≤ (wrap64 (x8_3 - 1)) then (if (wrap64 (x8_3 - 1)) < (t311.length : Int) then (if (rdOf ByteArray.empty t311 (wrap64 (x8_3 - 1))).toList = ([110, 97, 109, 101] : List UInt8) then (prebendref27_Parse.j3 k3 t311 x8_3 t320 false x316000_2 x316001_3 x316002_3 x316003_3) else (prebendref27_Parse.j3 k3 t311 x8_3 t320 ((rdOf ByteArray.empty t311 (wrap64 (x8_3 - 1))).toList != ([107, 101, 121] : List UInt8)) x316000_2 x316001_3 x316002_3 x316003_3)) else (none)) else (none)) else (prebendref27_Parse.j3 k3 t311 x8_3 t320 false x316000_2 x316001_3 x316002_3 x316003_3)) = some (r1, r2, r3, r4, r5) := H
           have A25 := Aside0.mk A250
           clear A250
           have HC26 := Aside0.mk H
           clear H
           obtain ⟨Ao27, co27, eo27⟩ := Kd.R_slice HO_4.out
           subst eo27
           have p319 : 0 ≤ (x8_3 : Int) := of_decide_eq_true (by first | (with_reducible assumption) | assumption)
           have q319 : x8_3 < (t311.length : Int) := of_decide_eq_true (by first | (with_reducible assumption) | assumption)
           obtain ⟨ad319, e319, hx319_0⟩ := Kd.at_string (Kd.R_reads' HO_4.out).2.2 x8_3 p319 q319
           cases e319
           replace p319 := eq_true p319
           replace q319 := eq_true q319
           go_upto_region 14 with (first | (go_at_call 29; (with_reducible refine (prebendref26_Number.calls k3 (rdOf ByteArray.empty t311 x8_3) t320 t321 _ A25.out).mono ?_); rintro e w28 ⟨rfl, hb⟩; have n0_ := Aside0.mk (Kd.R_below (by (with_reducible repeat (first | apply ra | apply rb | apply rc)); exact HO_4.out) hb); have n1_ := Aside0.mk (Kd.R_below (by (with_reducible repeat (first | apply ra | apply rb | apply rc)); exact HO_316003.out) hb); have n2_ := Aside0.mk (blk_below (g := gb310) (o := .cells #[.int .i64 0, .string (⟨#[]⟩ : ByteArray), .string (⟨#[]⟩ : ByteArray), .slice none 0 0] 24 (0, 0)) (by (with_reducible repeat (first | refine kc ?_ _ | refine kb ?_ | refine ka ?_ _)); exact BK310.out) hb); have n3_ := Aside0.mk (blk_below (g := gb315) (o := .cells #[.int .i64 x316000_2, .string x316001_3, .string x316002_3, u316003] 24 (0, 0)) (by (with_reducible repeat (first | refine kc ?_ _ | refine kb ?_ | refine ka ?_ _)); exact BK315.out) hb); have n4_ := Aside0.mk (below_step (by repeat (first | (with_reducible first | exact HB.out | apply below_alloc | apply pw_below_drewN | apply below_drew1 | refine below_set ?_ GE310.out | refine below_set ?_ GE315.out) | exact HB.out)) hb); clear HO_4; clear HO_316003; clear BK310; clear BK315; clear HB; have HO_4 := n0_; have HO_316003 := n1_; have BK310 := n2_; have BK315 := n3_; have HB := n4_; clear n0_ n1_ n2_ n3_ n4_; (try clear hb); (try clear hb2); (try clear hk); (try clear hi)))
           repeat (go_quiet (first | (go_at_call 29; (with_reducible refine (prebendref26_Number.calls k3 (rdOf ByteArray.empty t311 x8_3) t320 t321 _ A25.out).mono ?_); rintro e w28 ⟨rfl, hb⟩; have n0_ := Aside0.mk (Kd.R_below (by (with_reducible repeat (first | apply ra | apply rb | apply rc)); exact HO_4.out) hb); have n1_ := Aside0.mk (Kd.R_below (by (with_reducible repeat (first | apply ra | apply rb | apply rc)); exact HO_316003.out) hb); have n2_ := Aside0.mk (blk_below (g := gb310) (o := .cells #[.int .i64 0, .string (⟨#[]⟩ : ByteArray), .string (⟨#[]⟩ : ByteArray), .slice none 0 0] 24 (0, 0)) (by (with_reducible repeat (first | refine kc ?_ _ | refine kb ?_ | refine ka ?_ _)); exact BK310.out) hb); have n3_ := Aside0.mk (blk_below (g := gb315) (o := .cells #[.int .i64 x316000_2, .string x316001_3, .string x316002_3, u316003] 24 (0, 0)) (by (with_reducible repeat (first | refine kc ?_ _ | refine kb ?_ | refine ka ?_ _)); exact BK315.out) hb); have n4_ := Aside0.mk (below_step (by repeat (first | (with_reducible first | exact HB.out | apply below_alloc | apply pw_below_drewN | apply below_drew1 | refine below_set ?_ GE310.out | refine below_set ?_ GE315.out) | exact HB.out)) hb); clear HO_4; clear HO_316003; clear BK310; clear BK315; clear HB; have HO_4 := n0_; have HO_316003 := n1_; have BK310 := n2_; have BK315 := n3_; have HB := n4_; clear n0_ n1_ n2_ n3_ n4_; (try clear hb); (try clear hb2); (try clear hk); (try clear hi))); go_upto_region 14 with (first | (go_at_call 29; (with_reducible refine (prebendref26_Number.calls k3 (rdOf ByteArray.empty t311 x8_3) t320 t321 _ A25.out).mono ?_); rintro e w28 ⟨rfl, hb⟩; have n0_ := Aside0.mk (Kd.R_below (by (with_reducible repeat (first | apply ra | apply rb | apply rc)); exact HO_4.out) hb); have n1_ := Aside0.mk (Kd.R_below (by (with_reducible repeat (first | apply ra | apply rb | apply rc)); exact HO_316003.out) hb); have n2_ := Aside0.mk (blk_below (g := gb310) (o := .cells #[.int .i64 0, .string (⟨#[]⟩ : ByteArray), .string (⟨#[]⟩ : ByteArray), .slice none 0 0] 24 (0, 0)) (by (with_reducible repeat (first | refine kc ?_ _ | refine kb ?_ | refine ka ?_ _)); exact BK310.out) hb); have n3_ := Aside0.mk (blk_below (g := gb315) (o := .cells #[.int .i64 x316000_2, .string x316001_3, .string x316002_3, u316003] 24 (0, 0)) (by (with_reducible repeat (first | refine kc ?_ _ | refine kb ?_ | refine ka ?_ _)); exact BK315.out) hb); have n4_ := Aside0.mk (below_step (by repeat (first | (with_reducible first | exact HB.out | apply below_alloc | apply pw_below_drewN | apply below_drew1 | refine below_set ?_ GE310.out | refine below_set ?_ GE315.out) | exact HB.out)) hb); clear HO_4; clear HO_316003; clear BK310; clear BK315; clear HB; have HO_4 := n0_; have HO_316003 := n1_; have BK310 := n2_; have BK315 := n3_; have HB := n4_; clear n0_ n1_ n2_ n3_ n4_; (try clear hb); (try clear hb2); (try clear hk); (try clear hi))))
           (try simp only [Act.put, List.setIfInBounds_toArray, List.set_cons_zero, List.set_cons_succ])
           go_cut [72] (fun v72 wc => ∃ (kq : Nat) (x72_25 : Bool), v72 = .bool x72_25 ∧ Aside0 (prebendref27_Parse.j3 kq t311 x8_3 t320 x72_25 x316000_2 x316001_3 x316002_3 x316003_3 = some (r1, r2, r3, r4, r5)) ∧ Aside0 (kq ≤ k3) ∧ Aside0 (Kd.R Kd.string 9 wc w.heap.size (fun _ => True) (.slice (some ad319) t311.length co27) t311) ∧ Aside0 (Kd.R (Kd.int .i64) 3 wc w.heap.size (fun _ => True) u316003 x316003_3) ∧ Aside0 (wc.heap[gb310]? = some (.cells #[.int .i64 0, .string (⟨#[]⟩ : ByteArray), .string (⟨#[]⟩ : ByteArray), (.slice none 0 0)] 24 (0, 0))) ∧ Aside0 (wc.heap[gb315]? = some (.cells #[.int .i64 x316000_2, .string x316001_3, .string x316002_3, u316003] 24 (0, 0))) ∧ Aside0 (Below w.heap.size w wc))
           case first =>
            have H := HC26.out
            clear HC26
            by_cases c29 : t321 = true
            ·subst c29
             have H1 : (if 0 ≤ (wrap64 (x8_3 - 1)) then (if (wrap64 (x8_3 - 1)) < (t311.length : Int) then (if (rdOf ByteArray.empty t311 (wrap64 (x8_3 - 1))).toList = ([110, 97, 109, 101] : List UInt8) then (prebendref27_Parse.j3 k3 t311 x8_3 t320 false x316000_2 x316001_3 x316002_3 x316003_3) else (prebendref27_Parse.j3 k3 t311 x8_3 t320 ((rdOf ByteArray.empty t311 (wrap64 (x8_3 - 1))).toList != ([107, 101, 121] : List UInt8)) x316000_2 x316001_3 x316002_3 x316003_3)) else (none)) else (none)) = some (r1, r2, r3, r4, r5) := by rw [if_pos rfl] at H; exact H
             clear H
             have H := H1
             clear H1
             obtain ⟨ji30, hji30⟩ : ∃ j_ : Int, (wrap64 (x8_3 - 1)) = j_ := ⟨_, rfl⟩
             replace H : (if 0 ≤ (ji30) then (if (ji30) < (t311.length : Int) then (if (rdOf ByteArray.empty t311 (ji30)).toList = ([110, 97, 109, 101] : List UInt8) then (prebendref27_Parse.j3 k3 t311 x8_3 t320 false x316000_2 x316001_3 x316002_3 x316003_3) else (prebendref27_Parse.j3 k3 t311 x8_3 t320 ((rdOf ByteArray.empty t311 (ji30)).toList != ([107, 101, 121] : List UInt8)) x316000_2 x316001_3 x316002_3 x316003_3)) else (none)) else (none)) = some (r1, r2, r3, r4, r5) := by first | (rw [hji30] at H; exact H) | (simp only [hji30] at H ⊢; exact H)
             have hji30w : (IntKind.i64.wrap (x8_3 - 1)) = ji30 := (i64_w _).trans hji30
             by_cases c31 : 0 ≤ (ji30)
             ·rw [if_pos c31] at H
              have c31b0 : decide (0 ≤ (ji30)) = true := decide_eq_true c31
              clear c31
              (first | rw [c31b0] | (simp only [i64_w, i32_w]; rw [c31b0]) | skip)
              by_cases c32 : (ji30) < (t311.length : Int)
              ·rw [if_pos c32] at H
               have c32b0 : decide ((ji30) < (t311.length : Int)) = true := decide_eq_true c32
               clear c32
               by_cases c33 : (rdOf ByteArray.empty t311 (ji30)).toList = ([110, 97, 109, 101] : List UInt8)
               ·rw [if_pos c33] at H
                have c33b0 : ((rdOf ByteArray.empty t311 (ji30)).toList == ([110, 97, 109, 101] : List UInt8)) = true := beq_iff_eq.mpr c33
                have c33b1 : ((rdOf ByteArray.empty t311 (ji30)).toList != ([110, 97, 109, 101] : List UInt8)) = false := bne_eq_false_iff_eq.mpr c33
                clear c33
                have H' := Aside0.mk H
                clear H
                have p322 : 0 ≤ ((ji30) : Int) := of_decide_eq_true (by first | (with_reducible assumption) | assumption)
                have q322 : (ji30) < (t311.length : Int) := of_decide_eq_true (by first | (with_reducible assumption) | assumption)
                obtain ⟨ad322, e322, hx322_0⟩ := Kd.at_string (Kd.R_reads' HO_4.out).2.2 (ji30) p322 q322
                obtain rfl : ad319 = ad322 := (by injection e322)
                replace p322 := eq_true p322
                replace q322 := eq_true q322
                go_wp2
                repeat (go_quiet (fail); try go_wp2)
                go_meet
                case rel => exact ⟨_, (false), (by first | rfl | (simp; done) | (simp [*]; done)), H', ⟨by have := HJ2.out; have := HK2.out; have := HK3.out; first | omega | exact Nat.le_refl _⟩, ⟨by (with_reducible repeat (first | apply ra | apply rb | apply rc)); exact HO_4.out⟩, ⟨by (with_reducible repeat (first | apply ra | apply rb | apply rc)); exact HO_316003.out⟩, ⟨by (with_reducible repeat (first | refine kc ?_ _ | refine kb ?_ | refine ka ?_ _)); exact BK310.out⟩, ⟨by (with_reducible repeat (first | refine kc ?_ _ | refine kb ?_ | refine ka ?_ _)); exact BK315.out⟩, ⟨by repeat (first | (with_reducible first | exact HB.out | apply below_alloc | apply pw_below_drewN | apply below_drew1 | refine below_set ?_ GE310.out | refine below_set ?_ GE315.out) | exact HB.out)⟩⟩
               ·rw [if_neg c33] at H
                have c33b0 : ((rdOf ByteArray.empty t311 (ji30)).toList == ([110, 97, 109, 101] : List UInt8)) = false := beq_eq_false_iff_ne.mpr c33
                have c33b1 : ((rdOf ByteArray.empty t311 (ji30)).toList != ([110, 97, 109, 101] : List UInt8)) = true := bne_iff_ne.mpr c33
                have H' := Aside0.mk H
                clear H
                have p322 : 0 ≤ ((ji30) : Int) := of_decide_eq_true (by first | (with_reducible assumption) | assumption)
                have q322 : (ji30) < (t311.length : Int) := of_decide_eq_true (by first | (with_reducible assumption) | assumption)
                obtain ⟨ad322, e322, hx322_0⟩ := Kd.at_string (Kd.R_reads' HO_4.out).2.2 (ji30) p322 q322
                obtain rfl : ad319 = ad322 := (by injection e322)
                replace p322 := eq_true p322
                replace q322 := eq_true q322
                have p323 : 0 ≤ ((ji30) : Int) := of_decide_eq_true (by first | (with_reducible assumption) | assumption)
                have q323 : (ji30) < (t311.length : Int) := of_decide_eq_true (by first | (with_reducible assumption) | assumption)
                obtain ⟨ad323, e323, hx323_0⟩ := Kd.at_string (Kd.R_reads' HO_4.out).2.2 (ji30) p323 q323
                obtain rfl : ad319 = ad323 := (by injection e323)
                replace p323 := eq_true p323
                replace q323 := eq_true q323
                go_wp2
                repeat (go_quiet (fail); try go_wp2)
                go_meet
                case rel => exact ⟨_, (((rdOf ByteArray.empty t311 (ji30)).toList != ([107, 101, 121] : List UInt8))), (by first | rfl | (simp; done) | (simp only [← hji30] <;> (first | rfl | simp)) | (simp [*]; done)), H', ⟨by have := HJ2.out; have := HK2.out; have := HK3.out; first | omega | exact Nat.le_refl _⟩, ⟨by (with_reducible repeat (first | apply ra | apply rb | apply rc)); exact HO_4.out⟩, ⟨by (with_reducible repeat (first | apply ra | apply rb | apply rc)); exact HO_316003.out⟩, ⟨by (with_reducible repeat (first | refine kc ?_ _ | refine kb ?_ | refine ka ?_ _)); exact BK310.out⟩, ⟨by (with_reducible repeat (first | refine kc ?_ _ | refine kb ?_ | refine ka ?_ _)); exact BK315.out⟩, ⟨by repeat (first | (with_reducible first | exact HB.out | apply below_alloc | apply pw_below_drewN | apply below_drew1 | refine below_set ?_ GE310.out | refine below_set ?_ GE315.out) | exact HB.out)⟩⟩
              ·rw [if_neg c32] at H
               exact absurd H (by simp)
             ·rw [if_neg c31] at H
              exact absurd H (by simp)
            ·replace c29 := Bool.eq_false_iff.mpr c29
             subst c29
             have H1 : (prebendref27_Parse.j3 k3 t311 x8_3 t320 false x316000_2 x316001_3 x316002_3 x316003_3) = some (r1, r2, r3, r4, r5) := by rw [if_neg (show ¬ (false = true) by decide)] at H; exact H
             clear H
             have H := H1
             clear H1
             have H' := Aside0.mk H
             clear H
             go_wp2
             repeat (go_quiet (fail); try go_wp2)
             go_meet
             case rel => exact ⟨_, (false), (by first | rfl | (simp; done) | (simp [*]; done)), H', ⟨by have := HJ2.out; have := HK2.out; have := HK3.out; first | omega | exact Nat.le_refl _⟩, ⟨by (with_reducible repeat (first | apply ra | apply rb | apply rc)); exact HO_4.out⟩, ⟨by (with_reducible repeat (first | apply ra | apply rb | apply rc)); exact HO_316003.out⟩, ⟨by (with_reducible repeat (first | refine kc ?_ _ | refine kb ?_ | refine ka ?_ _)); exact BK310.out⟩, ⟨by (with_reducible repeat (first | refine kc ?_ _ | refine kb ?_ | refine ka ?_ _)); exact BK315.out⟩, ⟨by repeat (first | (with_reducible first | exact HB.out | apply below_alloc | apply pw_below_drewN | apply below_drew1 | refine below_set ?_ GE310.out | refine below_set ?_ GE315.out) | exact HB.out)⟩⟩
           case rest =>
            clear HC26
            try clear c1
            try clear c2
            try clear p2
            try clear c3
            try clear p3
            try clear q3
            try clear hx3
            try clear qi3
            try clear c6
            try clear c6b0
            try clear c6b1
            try clear p6
            try clear c8
            try clear c11
            try clear c13
            try clear c13b0
            try clear c15
            try clear c15b0
            try clear c15b1
            try clear c17
            try clear c17b0
            try clear c17b1
            try clear c18
            try clear c18b0
            try clear c18b1
            try clear c19
            try clear c20
            try clear c23
            try clear c23b0
            try clear c24
            try clear c24b0
            try clear c29
            try clear c31
            try clear c31b0
            try clear p31
            try clear q31
            try clear hx31
            try clear qi31
            try clear c32
            try clear c32b0
            try clear p32
            try clear q32
            try clear hx32
            try clear c33
            try clear c33b0
            try clear c33b1
            try clear hcz12_0
            try clear hcz12_1
            try clear hcz12_2
            try clear hcz12_3
            try clear hcz21_0
            try clear hcz21_1
            try clear hcz21_2
            try clear hcz21_3
            try clear hcz9_0
            try clear hcz9_1
            try clear hcz9_2
            try clear hcz9_3
            try clear hfz12_0
            try clear hfz12_1
            try clear hfz12_2
            try clear hfz12_3
            try clear hfz21_0
            try clear hfz21_1
            try clear hfz21_2
            try clear hfz21_3
            try clear hfz9_0
            try clear hfz9_1
            try clear hfz9_2
            try clear hfz9_3
            try clear hx318_0
            try clear hx319_0
            try clear hx322_0
            try clear hx323_0
            try clear p2
            try clear p3
            try clear p318
            try clear p319
            try clear p322
            try clear p323
            try clear p6
            try clear q3
            try clear q318
            try clear q319
            try clear q322
            try clear q323
            obtain ⟨kq, x72_25, rfl, HA, HJ25, HO_4, HO_316003, BK310, BK315, HB⟩ := hcut
            cases kq with
            | zero => exact absurd HA.out (by simp [prebendref27_Parse.j3])
            | succ kj25 =>
             have H := HA.out
             clear HA
             simp only [prebendref27_Parse.j3] at H
             by_cases c34 : x72_25 = true
             ·subst c34
              have H1 : (if x316003_3.length < 17592186044416 then (prebendref27_Parse.l1 kj25 t311 (wrap64 (x8_3 + 1)) x316000_2 x316001_3 x316002_3 (x316003_3 ++ [t320])) else (none)) = some (r1, r2, r3, r4, r5) := by rw [if_pos rfl] at H; exact H
              clear H
              have H := H1
              clear H1
              by_cases c35 : x316003_3.length < 17592186044416
              ·rw [if_pos c35] at H
               have LMc35 := Aside0.mk c35
               clear c35
               obtain ⟨y324, hy324⟩ : ∃ y_ : List Int, y_ = (x316003_3 ++ [t320]) := ⟨_, rfl⟩
               replace H : (prebendref27_Parse.l1 kj25 t311 (wrap64 (x8_3 + 1)) x316000_2 x316001_3 x316002_3 y324) = some (r1, r2, r3, r4, r5) := by first | (rw [hy324]; with_reducible exact H) | (have H2_ := (Option.bind_some _ _).symm.trans H; rw [hy324]; with_reducible exact H2_) | (have H2_ := (Option.bind_some _ _).symm.trans H; with_reducible exact H2_) | with_reducible exact H | (rw [hy324]; exact H) | exact H
               have Ny324 := Aside0.mk hy324
               clear hy324
               have H' := Aside0.mk H
               clear H
               have hnb36 := NB315_310.out
               have hnc36 := NB310_315.out
               have hcz37_0 : wc.cell? ⟨gb315, 0, none⟩ = some (.int .i64 x316000_2) := (blk_cell BK315.out 0).trans rfl
               have hcz37_1 : wc.cell? ⟨gb315, 1, none⟩ = some (.string x316001_3) := (blk_cell BK315.out 1).trans rfl
               have hcz37_2 : wc.cell? ⟨gb315, 2, none⟩ = some (.string x316002_3) := (blk_cell BK315.out 2).trans rfl
               have hcz37_3 : wc.cell? ⟨gb315, 3, none⟩ = some (u316003) := (blk_cell BK315.out 3).trans rfl
               have hfz37_0 := blk_frozen BK315.out 0
               have hfz37_1 := blk_frozen BK315.out 1
               have hfz37_2 := blk_frozen BK315.out 2
               have hfz37_3 := blk_frozen BK315.out 3
               go_wp2_with (first | ((with_reducible refine gate_builtin (b := .append) (xs := #[.tmp 74, .tmp 76]) rfl ?_); (try (refine gate_guard (by rfl) ?_; dsimp only)); at_builtin; refine Kd.R_append (Kd.int .i64) (w0 := w) w.heap.size rfl (.tmp 74) (.tmp 76) 22 3 (.int .i64 0) 8 rfl Tryd.underlying22 info3 rfl (by decide) (by omega) u316003 x316003_3 t320 [.int .i64 t320] (fun _ => True) (fun _ => False) rfl rfl ?aP (fun _ hk => hk.elim) ?aF ?aO ?aB ?aS ?aL ?_; (case aP => exact rfl); (case aB => exact (by repeat (first | (with_reducible first | exact HB.out | apply below_alloc | apply pw_below_drewN | apply below_drew1 | refine below_set ?_ GE310.out | refine below_set ?_ GE315.out) | exact HB.out))); (case aF => exact (fun _ _ => trivial)); (case aO => exact (by (with_reducible repeat (first | apply ra | apply rb | apply rc)); exact HO_316003.out)); (case aS => exact (below_size (by repeat (first | (with_reducible first | exact HB.out | apply below_alloc | apply pw_below_drewN | apply below_drew1 | refine below_set ?_ GE310.out | refine below_set ?_ GE315.out) | exact HB.out)))); (case aL => have := LMc35.out; omega); intro v325 w38 ho hb hg hat; rw [← Ny324.out] at ho; have n0_ := Aside0.mk (Kd.R_over' (by (with_reducible repeat (first | apply ra | apply rb | apply rc)); exact HO_4.out) (Kd.R_typed (by (with_reducible repeat (first | apply ra | apply rb | apply rc)); exact HO_316003.out)) (by decide) hg); have n1_ := Aside0.mk (blk_grown (g := gb310) (o := .cells #[.int .i64 0, .string (⟨#[]⟩ : ByteArray), .string (⟨#[]⟩ : ByteArray), .slice none 0 0] 24 (0, 0)) (by (with_reducible repeat (first | refine kc ?_ _ | refine kb ?_ | refine ka ?_ _)); exact BK310.out) hg (Kd.R_ne HO_316003.out BK310.out (by decide))); have n2_ := Aside0.mk (blk_grown (g := gb315) (o := .cells #[.int .i64 x316000_2, .string x316001_3, .string x316002_3, u316003] 24 (0, 0)) (by (with_reducible repeat (first | refine kc ?_ _ | refine kb ?_ | refine ka ?_ _)); exact BK315.out) hg (Kd.R_ne HO_316003.out BK315.out (by decide))); have n3_ := Aside0.mk (hb); have n4_ := Aside0.mk (ho); clear HO_4; clear BK310; clear BK315; clear HB; clear HO_316003; have HO_4 := n0_; have BK310 := n1_; have BK315 := n2_; have HB := n3_; have HO326 := n4_; clear n0_ n1_ n2_ n3_ n4_; clear ho hb hg hat; obtain ⟨Ao39, co39, eo39⟩ := Kd.R_slice HO326.out; subst eo39; have hcz40_0 : w38.cell? ⟨gb315, 0, none⟩ = some (.int .i64 x316000_2) := (blk_cell BK315.out 0).trans rfl; have hcz40_1 : w38.cell? ⟨gb315, 1, none⟩ = some (.string x316001_3) := (blk_cell BK315.out 1).trans rfl; have hcz40_2 : w38.cell? ⟨gb315, 2, none⟩ = some (.string x316002_3) := (blk_cell BK315.out 2).trans rfl; have hcz40_3 : w38.cell? ⟨gb315, 3, none⟩ = some (u316003) := (blk_cell BK315.out 3).trans rfl; have hfz40_0 := blk_frozen BK315.out 0; have hfz40_1 := blk_frozen BK315.out 1; have hfz40_2 := blk_frozen BK315.out 2; have hfz40_3 := blk_frozen BK315.out 3))
               repeat (go_quiet (first | ((with_reducible refine gate_builtin (b := .append) (xs := #[.tmp 74, .tmp 76]) rfl ?_); (try (refine gate_guard (by rfl) ?_; dsimp only)); at_builtin; refine Kd.R_append (Kd.int .i64) (w0 := w) w.heap.size rfl (.tmp 74) (.tmp 76) 22 3 (.int .i64 0) 8 rfl Tryd.underlying22 info3 rfl (by decide) (by omega) u316003 x316003_3 t320 [.int .i64 t320] (fun _ => True) (fun _ => False) rfl rfl ?aP (fun _ hk => hk.elim) ?aF ?aO ?aB ?aS ?aL ?_; (case aP => exact rfl); (case aB => exact (by repeat (first | (with_reducible first | exact HB.out | apply below_alloc | apply pw_below_drewN | apply below_drew1 | refine below_set ?_ GE310.out | refine below_set ?_ GE315.out) | exact HB.out))); (case aF => exact (fun _ _ => trivial)); (case aO => exact (by (with_reducible repeat (first | apply ra | apply rb | apply rc)); exact HO_316003.out)); (case aS => exact (below_size (by repeat (first | (with_reducible first | exact HB.out | apply below_alloc | apply pw_below_drewN | apply below_drew1 | refine below_set ?_ GE310.out | refine below_set ?_ GE315.out) | exact HB.out)))); (case aL => have := LMc35.out; omega); intro v325 w38 ho hb hg hat; rw [← Ny324.out] at ho; have n0_ := Aside0.mk (Kd.R_over' (by (with_reducible repeat (first | apply ra | apply rb | apply rc)); exact HO_4.out) (Kd.R_typed (by (with_reducible repeat (first | apply ra | apply rb | apply rc)); exact HO_316003.out)) (by decide) hg); have n1_ := Aside0.mk (blk_grown (g := gb310) (o := .cells #[.int .i64 0, .string (⟨#[]⟩ : ByteArray), .string (⟨#[]⟩ : ByteArray), .slice none 0 0] 24 (0, 0)) (by (with_reducible repeat (first | refine kc ?_ _ | refine kb ?_ | refine ka ?_ _)); exact BK310.out) hg (Kd.R_ne HO_316003.out BK310.out (by decide))); have n2_ := Aside0.mk (blk_grown (g := gb315) (o := .cells #[.int .i64 x316000_2, .string x316001_3, .string x316002_3, u316003] 24 (0, 0)) (by (with_reducible repeat (first | refine kc ?_ _ | refine kb ?_ | refine ka ?_ _)); exact BK315.out) hg (Kd.R_ne HO_316003.out BK315.out (by decide))); have n3_ := Aside0.mk (hb); have n4_ := Aside0.mk (ho); clear HO_4; clear BK310; clear BK315; clear HB; clear HO_316003; have HO_4 := n0_; have BK310 := n1_; have BK315 := n2_; have HB := n3_; have HO326 := n4_; clear n0_ n1_ n2_ n3_ n4_; clear ho hb hg hat; obtain ⟨Ao39, co39, eo39⟩ := Kd.R_slice HO326.out; subst eo39; have hcz40_0 : w38.cell? ⟨gb315, 0, none⟩ = some (.int .i64 x316000_2) := (blk_cell BK315.out 0).trans rfl; have hcz40_1 : w38.cell? ⟨gb315, 1, none⟩ = some (.string x316001_3) := (blk_cell BK315.out 1).trans rfl; have hcz40_2 : w38.cell? ⟨gb315, 2, none⟩ = some (.string x316002_3) := (blk_cell BK315.out 2).trans rfl; have hcz40_3 : w38.cell? ⟨gb315, 3, none⟩ = some (u316003) := (blk_cell BK315.out 3).trans rfl; have hfz40_0 := blk_frozen BK315.out 0; have hfz40_1 := blk_frozen BK315.out 1; have hfz40_2 := blk_frozen BK315.out 2; have hfz40_3 := blk_frozen BK315.out 3)); try go_wp2_with (first | ((with_reducible refine gate_builtin (b := .append) (xs := #[.tmp 74, .tmp 76]) rfl ?_); (try (refine gate_guard (by rfl) ?_; dsimp only)); at_builtin; refine Kd.R_append (Kd.int .i64) (w0 := w) w.heap.size rfl (.tmp 74) (.tmp 76) 22 3 (.int .i64 0) 8 rfl Tryd.underlying22 info3 rfl (by decide) (by omega) u316003 x316003_3 t320 [.int .i64 t320] (fun _ => True) (fun _ => False) rfl rfl ?aP (fun _ hk => hk.elim) ?aF ?aO ?aB ?aS ?aL ?_; (case aP => exact rfl); (case aB => exact (by repeat (first | (with_reducible first | exact HB.out | apply below_alloc | apply pw_below_drewN | apply below_drew1 | refine below_set ?_ GE310.out | refine below_set ?_ GE315.out) | exact HB.out))); (case aF => exact (fun _ _ => trivial)); (case aO => exact (by (with_reducible repeat (first | apply ra | apply rb | apply rc)); exact HO_316003.out)); (case aS => exact (below_size (by repeat (first | (with_reducible first | exact HB.out | apply below_alloc | apply pw_below_drewN | apply below_drew1 | refine below_set ?_ GE310.out | refine below_set ?_ GE315.out) | exact HB.out)))); (case aL => have := LMc35.out; omega); intro v325 w38 ho hb hg hat; rw [← Ny324.out] at ho; have n0_ := Aside0.mk (Kd.R_over' (by (with_reducible repeat (first | apply ra | apply rb | apply rc)); exact HO_4.out) (Kd.R_typed (by (with_reducible repeat (first | apply ra | apply rb | apply rc)); exact HO_316003.out)) (by decide) hg); have n1_ := Aside0.mk (blk_grown (g := gb310) (o := .cells #[.int .i64 0, .string (⟨#[]⟩ : ByteArray), .string (⟨#[]⟩ : ByteArray), .slice none 0 0] 24 (0, 0)) (by (with_reducible repeat (first | refine kc ?_ _ | refine kb ?_ | refine ka ?_ _)); exact BK310.out) hg (Kd.R_ne HO_316003.out BK310.out (by decide))); have n2_ := Aside0.mk (blk_grown (g := gb315) (o := .cells #[.int .i64 x316000_2, .string x316001_3, .string x316002_3, u316003] 24 (0, 0)) (by (with_reducible repeat (first | refine kc ?_ _ | refine kb ?_ | refine ka ?_ _)); exact BK315.out) hg (Kd.R_ne HO_316003.out BK315.out (by decide))); have n3_ := Aside0.mk (hb); have n4_ := Aside0.mk (ho); clear HO_4; clear BK310; clear BK315; clear HB; clear HO_316003; have HO_4 := n0_; have BK310 := n1_; have BK315 := n2_; have HB := n3_; have HO326 := n4_; clear n0_ n1_ n2_ n3_ n4_; clear ho hb hg hat; obtain ⟨Ao39, co39, eo39⟩ := Kd.R_slice HO326.out; subst eo39; have hcz40_0 : w38.cell? ⟨gb315, 0, none⟩ = some (.int .i64 x316000_2) := (blk_cell BK315.out 0).trans rfl; have hcz40_1 : w38.cell? ⟨gb315, 1, none⟩ = some (.string x316001_3) := (blk_cell BK315.out 1).trans rfl; have hcz40_2 : w38.cell? ⟨gb315, 2, none⟩ = some (.string x316002_3) := (blk_cell BK315.out 2).trans rfl; have hcz40_3 : w38.cell? ⟨gb315, 3, none⟩ = some (u316003) := (blk_cell BK315.out 3).trans rfl; have hfz40_0 := blk_frozen BK315.out 0; have hfz40_1 := blk_frozen BK315.out 1; have hfz40_2 := blk_frozen BK315.out 2; have hfz40_3 := blk_frozen BK315.out 3)))
               go_roundg kj25
               case measure => have := HJ2.out; have := HK2.out; have := HK3.out; have := HJ25.out; omega
               case rel => exact ⟨(wrap64 (x8_3 + 1)), (x316001_3), (x316002_3), (y324), (.slice Ao39 y324.length co39), (by first | rfl | (simp; done) | (simp [*]; done)), H', ⟨by have := HJ2.out; have := HK2.out; have := HK3.out; have := HJ25.out; omega⟩, ⟨by (with_reducible repeat (first | apply ra | apply rb | apply rc)); exact Kd.R_mono (Kd.R_far (p := ⟨gb315, 3, none⟩) (Kd.R_types HO_4.out BK315.out (by decide)) (fun _ hk => hk.2) (.slice Ao39 y324.length co39)) (fun _ hk => trivial)⟩, ⟨by (with_reducible repeat (first | apply ra | apply rb | apply rc)); exact Kd.R_mono (Kd.R_far (p := ⟨gb315, 3, none⟩) (Kd.R_types HO326.out BK315.out (by decide)) (fun _ hk => hk.2) (.slice Ao39 y324.length co39)) (fun _ hk => trivial)⟩, ⟨by (with_reducible repeat (first | refine kc ?_ _ | refine kb ?_ | refine ka ?_ _)); refine blk_far ?_ NB310_315.out _; (with_reducible repeat (first | refine kc ?_ _ | refine kb ?_ | refine ka ?_ _)); exact BK310.out⟩, ⟨by (with_reducible repeat (first | refine kc ?_ _ | refine kb ?_ | refine ka ?_ _)); refine blk_put (cs := #[.int .i64 x316000_2, .string x316001_3, .string x316002_3, u316003]) ?_ 3 _ rfl; (with_reducible repeat (first | refine kc ?_ _ | refine kb ?_ | refine ka ?_ _)); exact BK315.out⟩, ⟨by repeat (first | (with_reducible first | exact HB.out | apply below_alloc | apply pw_below_drewN | apply below_drew1 | refine below_set ?_ GE310.out | refine below_set ?_ GE315.out) | exact HB.out)⟩⟩
              ·rw [if_neg c35] at H
               exact absurd H (by simp)
             ·replace c34 := Bool.eq_false_iff.mpr c34
              subst c34
              have H1 : (if 0 ≤ x8_3 then (if x8_3 < (t311.length : Int) then (if (rdOf ByteArray.empty t311 x8_3).toList = ([110, 97, 109, 101] : List UInt8) then (if (wrap64 (x8_3 + 1)) < (t311.length : Int) then (prebendref27_Parse.j4 kj25 t311 x8_3 (x316002_3.toList == ([] : List UInt8)) x316000_2 x316001_3 x316002_3 x316003_3) else (prebendref27_Parse.j4 kj25 t311 x8_3 false x316000_2 x316001_3 x316002_3 x316003_3)) else (prebendref27_Parse.j4 kj25 t311 x8_3 false x316000_2 x316001_3 x316002_3 x316003_3)) else (none)) else (none)) = some (r1, r2, r3, r4, r5) := by rw [if_neg (show ¬ (false = true) by decide)] at H; exact H
              clear H
              have H := H1
              clear H1
              have HC41 := Aside0.mk H
              clear H
              go_upto_region 16 with (fail)
              repeat (go_quiet (fail); go_upto_region 16 with (fail))
              go_cut [95] (fun v95 wc => ∃ (kq : Nat) (x95_40 : Bool), v95 = .bool x95_40 ∧ Aside0 (prebendref27_Parse.j4 kq t311 x8_3 x95_40 x316000_2 x316001_3 x316002_3 x316003_3 = some (r1, r2, r3, r4, r5)) ∧ Aside0 (kq ≤ kj25) ∧ Aside0 (Kd.R Kd.string 9 wc w.heap.size (fun _ => True) (.slice (some ad319) t311.length co27) t311) ∧ Aside0 (Kd.R (Kd.int .i64) 3 wc w.heap.size (fun _ => True) u316003 x316003_3) ∧ Aside0 (wc.heap[gb310]? = some (.cells #[.int .i64 0, .string (⟨#[]⟩ : ByteArray), .string (⟨#[]⟩ : ByteArray), (.slice none 0 0)] 24 (0, 0))) ∧ Aside0 (wc.heap[gb315]? = some (.cells #[.int .i64 x316000_2, .string x316001_3, .string x316002_3, u316003] 24 (0, 0))) ∧ Aside0 (Below w.heap.size w wc))
              case first =>
               have H := HC41.out
               clear HC41
               by_cases c42 : 0 ≤ x8_3
               ·rw [if_pos c42] at H
                have c42b0 : decide (0 ≤ x8_3) = true := decide_eq_true c42
                clear c42
                (first | rw [c42b0] | (simp only [i64_w, i32_w]; rw [c42b0]) | skip)
                by_cases c43 : x8_3 < (t311.length : Int)
                ·rw [if_pos c43] at H
                 have c43b0 : decide (x8_3 < (t311.length : Int)) = true := decide_eq_true c43
                 clear c43
                 by_cases c44 : (rdOf ByteArray.empty t311 x8_3).toList = ([110, 97, 109, 101] : List UInt8)
                 ·rw [if_pos c44] at H
                  have c44b0 : ((rdOf ByteArray.empty t311 x8_3).toList == ([110, 97, 109, 101] : List UInt8)) = true := beq_iff_eq.mpr c44
                  have c44b1 : ((rdOf ByteArray.empty t311 x8_3).toList != ([110, 97, 109, 101] : List UInt8)) = false := bne_eq_false_iff_eq.mpr c44
                  clear c44
                  by_cases c45 : (wrap64 (x8_3 + 1)) < (t311.length : Int)
                  ·rw [if_pos c45] at H
                   have c45b0 : decide ((wrap64 (x8_3 + 1)) < (t311.length : Int)) = true := decide_eq_true c45
                   clear c45
                   have H' := Aside0.mk H
                   clear H
                   have p327 : 0 ≤ (x8_3 : Int) := of_decide_eq_true (by first | (with_reducible assumption) | assumption)
                   have q327 : x8_3 < (t311.length : Int) := of_decide_eq_true (by first | (with_reducible assumption) | assumption)
                   obtain ⟨ad327, e327, hx327_0⟩ := Kd.at_string (Kd.R_reads' HO_4.out).2.2 x8_3 p327 q327
                   obtain rfl : ad319 = ad327 := (by injection e327)
                   replace p327 := eq_true p327
                   replace q327 := eq_true q327
                   have hnb46 := NB315_310.out
                   have hnc46 := NB310_315.out
                   have hcz47_0 : wc.cell? ⟨gb315, 0, none⟩ = some (.int .i64 x316000_2) := (blk_cell BK315.out 0).trans rfl
                   have hcz47_1 : wc.cell? ⟨gb315, 1, none⟩ = some (.string x316001_3) := (blk_cell BK315.out 1).trans rfl
                   have hcz47_2 : wc.cell? ⟨gb315, 2, none⟩ = some (.string x316002_3) := (blk_cell BK315.out 2).trans rfl
                   have hcz47_3 : wc.cell? ⟨gb315, 3, none⟩ = some (u316003) := (blk_cell BK315.out 3).trans rfl
                   have hfz47_0 := blk_frozen BK315.out 0
                   have hfz47_1 := blk_frozen BK315.out 1
                   have hfz47_2 := blk_frozen BK315.out 2
                   have hfz47_3 := blk_frozen BK315.out 3
                   go_wp2
                   repeat (go_quiet (fail); try go_wp2)
                   go_meet
                   case rel => exact ⟨_, ((x316002_3.toList == ([] : List UInt8))), (by first | rfl | (simp; done) | (simp [*]; done)), H', ⟨by have := HJ2.out; have := HK2.out; have := HK3.out; have := HJ25.out; first | omega | exact Nat.le_refl _⟩, ⟨by (with_reducible repeat (first | apply ra | apply rb | apply rc)); exact HO_4.out⟩, ⟨by (with_reducible repeat (first | apply ra | apply rb | apply rc)); exact HO_316003.out⟩, ⟨by (with_reducible repeat (first | refine kc ?_ _ | refine kb ?_ | refine ka ?_ _)); exact BK310.out⟩, ⟨by (with_reducible repeat (first | refine kc ?_ _ | refine kb ?_ | refine ka ?_ _)); exact BK315.out⟩, ⟨by repeat (first | (with_reducible first | exact HB.out | apply below_alloc | apply pw_below_drewN | apply below_drew1 | refine below_set ?_ GE310.out | refine below_set ?_ GE315.out) | exact HB.out)⟩⟩
                  ·rw [if_neg c45] at H
                   have c45b0 : decide ((wrap64 (x8_3 + 1)) < (t311.length : Int)) = false := decide_eq_false c45
                   clear c45
                   have H' := Aside0.mk H
                   clear H
                   have p327 : 0 ≤ (x8_3 : Int) := of_decide_eq_true (by first | (with_reducible assumption) | assumption)
                   have q327 : x8_3 < (t311.length : Int) := of_decide_eq_true (by first | (with_reducible assumption) | assumption)
                   obtain ⟨ad327, e327, hx327_0⟩ := Kd.at_string (Kd.R_reads' HO_4.out).2.2 x8_3 p327 q327
                   obtain rfl : ad319 = ad327 := (by injection e327)
                   replace p327 := eq_true p327
                   replace q327 := eq_true q327
                   go_wp2
                   repeat (go_quiet (fail); try go_wp2)
                   go_meet
                   case rel => exact ⟨_, (false), (by first | rfl | (simp; done) | (simp [*]; done)), H', ⟨by have := HJ2.out; have := HK2.out; have := HK3.out; have := HJ25.out; first | omega | exact Nat.le_refl _⟩, ⟨by (with_reducible repeat (first | apply ra | apply rb | apply rc)); exact HO_4.out⟩, ⟨by (with_reducible repeat (first | apply ra | apply rb | apply rc)); exact HO_316003.out⟩, ⟨by (with_reducible repeat (first | refine kc ?_ _ | refine kb ?_ | refine ka ?_ _)); exact BK310.out⟩, ⟨by (with_reducible repeat (first | refine kc ?_ _ | refine kb ?_ | refine ka ?_ _)); exact BK315.out⟩, ⟨by repeat (first | (with_reducible first | exact HB.out | apply below_alloc | apply pw_below_drewN | apply below_drew1 | refine below_set ?_ GE310.out | refine below_set ?_ GE315.out) | exact HB.out)⟩⟩
                 ·rw [if_neg c44] at H
                  have c44b0 : ((rdOf ByteArray.empty t311 x8_3).toList == ([110, 97, 109, 101] : List UInt8)) = false := beq_eq_false_iff_ne.mpr c44
                  have c44b1 : ((rdOf ByteArray.empty t311 x8_3).toList != ([110, 97, 109, 101] : List UInt8)) = true := bne_iff_ne.mpr c44
                  have H' := Aside0.mk H
                  clear H
                  have p327 : 0 ≤ (x8_3 : Int) := of_decide_eq_true (by first | (with_reducible assumption) | assumption)
                  have q327 : x8_3 < (t311.length : Int) := of_decide_eq_true (by first | (with_reducible assumption) | assumption)
                  obtain ⟨ad327, e327, hx327_0⟩ := Kd.at_string (Kd.R_reads' HO_4.out).2.2 x8_3 p327 q327
                  obtain rfl : ad319 = ad327 := (by injection e327)
                  replace p327 := eq_true p327
                  replace q327 := eq_true q327
                  go_wp2
                  repeat (go_quiet (fail); try go_wp2)
                  go_meet
                  case rel => exact ⟨_, (false), (by first | rfl | (simp; done) | (simp [*]; done)), H', ⟨by have := HJ2.out; have := HK2.out; have := HK3.out; have := HJ25.out; first | omega | exact Nat.le_refl _⟩, ⟨by (with_reducible repeat (first | apply ra | apply rb | apply rc)); exact HO_4.out⟩, ⟨by (with_reducible repeat (first | apply ra | apply rb | apply rc)); exact HO_316003.out⟩, ⟨by (with_reducible repeat (first | refine kc ?_ _ | refine kb ?_ | refine ka ?_ _)); exact BK310.out⟩, ⟨by (with_reducible repeat (first | refine kc ?_ _ | refine kb ?_ | refine ka ?_ _)); exact BK315.out⟩, ⟨by repeat (first | (with_reducible first | exact HB.out | apply below_alloc | apply pw_below_drewN | apply below_drew1 | refine below_set ?_ GE310.out | refine below_set ?_ GE315.out) | exact HB.out)⟩⟩
                ·rw [if_neg c43] at H
                 exact absurd H (by simp)
               ·rw [if_neg c42] at H
                exact absurd H (by simp)
              case rest =>
               clear HC41
               try clear c1
               try clear c2
               try clear p2
               try clear c3
               try clear p3
               try clear q3
               try clear hx3
               try clear qi3
               try clear c4
               try clear c6
               try clear c6b0
               try clear c6b1
               try clear p6
               try clear c8
               try clear c11
               try clear c13
               try clear c13b0
               try clear c15
               try clear c15b0
               try clear c15b1
               try clear c17
               try clear c17b0
               try clear c17b1
               try clear c18
               try clear c18b0
               try clear c18b1
               try clear c19
               try clear c20
               try clear c23
               try clear c23b0
               try clear c24
               try clear c24b0
               try clear c29
               try clear c31
               try clear c31b0
               try clear p31
               try clear q31
               try clear hx31
               try clear qi31
               try clear c32
               try clear c32b0
               try clear p32
               try clear q32
               try clear hx32
               try clear c33
               try clear c33b0
               try clear c33b1
               try clear c34
               try clear c35
               try clear c36
               try clear c42
               try clear c42b0
               try clear c43
               try clear c43b0
               try clear c44
               try clear c44b0
               try clear c44b1
               try clear c45
               try clear c45b0
               try clear c46
               try clear hcz12_0
               try clear hcz12_1
               try clear hcz12_2
               try clear hcz12_3
               try clear hcz21_0
               try clear hcz21_1
               try clear hcz21_2
               try clear hcz21_3
               try clear hcz37_0
               try clear hcz37_1
               try clear hcz37_2
               try clear hcz37_3
               try clear hcz40_0
               try clear hcz40_1
               try clear hcz40_2
               try clear hcz40_3
               try clear hcz47_0
               try clear hcz47_1
               try clear hcz47_2
               try clear hcz47_3
               try clear hcz9_0
               try clear hcz9_1
               try clear hcz9_2
               try clear hcz9_3
               try clear hfz12_0
               try clear hfz12_1
               try clear hfz12_2
               try clear hfz12_3
               try clear hfz21_0
               try clear hfz21_1
               try clear hfz21_2
               try clear hfz21_3
               try clear hfz37_0
               try clear hfz37_1
               try clear hfz37_2
               try clear hfz37_3
               try clear hfz40_0
               try clear hfz40_1
               try clear hfz40_2
               try clear hfz40_3
               try clear hfz47_0
               try clear hfz47_1
               try clear hfz47_2
               try clear hfz47_3
               try clear hfz9_0
               try clear hfz9_1
               try clear hfz9_2
               try clear hfz9_3
               try clear hx318_0
               try clear hx319_0
               try clear hx322_0
               try clear hx323_0
               try clear hx327_0
               try clear p2
               try clear p3
               try clear p31
               try clear p318
               try clear p319
               try clear p32
               try clear p322
               try clear p323
               try clear p327
               try clear p6
               try clear q3
               try clear q31
               try clear q318
               try clear q319
               try clear q32
               try clear q322
               try clear q323
               try clear q327
               obtain ⟨kq, x95_40, rfl, HA, HJ40, HO_4, HO_316003, BK310, BK315, HB⟩ := hcut
               cases kq with
               | zero => exact absurd HA.out (by simp [prebendref27_Parse.j4])
               | succ kj40 =>
                have H := HA.out
                clear HA
                simp only [prebendref27_Parse.j4] at H
                by_cases c48 : x95_40 = true
                ·subst c48
                 have H1 : (if 0 ≤ (wrap64 (x8_3 + 1)) then (if (wrap64 (x8_3 + 1)) < (t311.length : Int) then (prebendref27_Parse.l1 kj40 t311 (wrap64 ((wrap64 (x8_3 + 1)) + 1)) x316000_2 x316001_3 (rdOf ByteArray.empty t311 (wrap64 (x8_3 + 1))) x316003_3) else (none)) else (none)) = some (r1, r2, r3, r4, r5) := by rw [if_pos rfl] at H; exact H
                 clear H
                 have H := H1
                 clear H1
                 obtain ⟨ji49, hji49⟩ : ∃ j_ : Int, (wrap64 (x8_3 + 1)) = j_ := ⟨_, rfl⟩
                 replace H : (if 0 ≤ (ji49) then (if (ji49) < (t311.length : Int) then (prebendref27_Parse.l1 kj40 t311 (wrap64 ((ji49) + 1)) x316000_2 x316001_3 (rdOf ByteArray.empty t311 (ji49)) x316003_3) else (none)) else (none)) = some (r1, r2, r3, r4, r5) := by first | (rw [hji49] at H; exact H) | (simp only [hji49] at H ⊢; exact H)
                 have hji49w : (IntKind.i64.wrap (x8_3 + 1)) = ji49 := (i64_w _).trans hji49
                 by_cases c50 : 0 ≤ (ji49)
                 ·rw [if_pos c50] at H
                  have c50b0 : decide (0 ≤ (ji49)) = true := decide_eq_true c50
                  clear c50
                  by_cases c51 : (ji49) < (t311.length : Int)
                  ·rw [if_pos c51] at H
                   have c51b0 : decide ((ji49) < (t311.length : Int)) = true := decide_eq_true c51
                   clear c51
                   have H' := Aside0.mk H
                   clear H
                   have p328 : 0 ≤ ((ji49) : Int) := of_decide_eq_true (by first | (with_reducible assumption) | assumption)
                   have q328 : (ji49) < (t311.length : Int) := of_decide_eq_true (by first | (with_reducible assumption) | assumption)
                   obtain ⟨ad328, e328, hx328_0⟩ := Kd.at_string (Kd.R_reads' HO_4.out).2.2 (ji49) p328 q328
                   obtain rfl : ad319 = ad328 := (by injection e328)
                   replace p328 := eq_true p328
                   replace q328 := eq_true q328
                   have hnb52 := NB315_310.out
                   have hnc52 := NB310_315.out
                   have hcz53_0 : wc.cell? ⟨gb315, 0, none⟩ = some (.int .i64 x316000_2) := (blk_cell BK315.out 0).trans rfl
                   have hcz53_1 : wc.cell? ⟨gb315, 1, none⟩ = some (.string x316001_3) := (blk_cell BK315.out 1).trans rfl
                   have hcz53_2 : wc.cell? ⟨gb315, 2, none⟩ = some (.string x316002_3) := (blk_cell BK315.out 2).trans rfl
                   have hcz53_3 : wc.cell? ⟨gb315, 3, none⟩ = some (u316003) := (blk_cell BK315.out 3).trans rfl
                   have hfz53_0 := blk_frozen BK315.out 0
                   have hfz53_1 := blk_frozen BK315.out 1
                   have hfz53_2 := blk_frozen BK315.out 2
                   have hfz53_3 := blk_frozen BK315.out 3
                   go_wp2
                   repeat (go_quiet (fail); try go_wp2)
                   go_roundg kj40
                   case measure => have := HJ2.out; have := HK2.out; have := HK3.out; have := HJ25.out; have := HJ40.out; omega
                   case rel => exact ⟨(wrap64 ((ji49) + 1)), (x316001_3), (rdOf ByteArray.empty t311 (ji49)), (x316003_3), (u316003), (by first | rfl | (simp; done) | (simp only [← hji49] <;> (first | rfl | simp)) | (simp [*]; done)), H', ⟨by have := HJ2.out; have := HK2.out; have := HK3.out; have := HJ25.out; have := HJ40.out; omega⟩, ⟨by (with_reducible repeat (first | apply ra | apply rb | apply rc)); exact Kd.R_mono (Kd.R_far (p := ⟨gb315, 2, none⟩) (Kd.R_types HO_4.out BK315.out (by decide)) (fun _ hk => hk.2) (.string (rdOf ByteArray.empty t311 (ji49)))) (fun _ hk => trivial)⟩, ⟨by (with_reducible repeat (first | apply ra | apply rb | apply rc)); exact Kd.R_mono (Kd.R_far (p := ⟨gb315, 2, none⟩) (Kd.R_types HO_316003.out BK315.out (by decide)) (fun _ hk => hk.2) (.string (rdOf ByteArray.empty t311 (ji49)))) (fun _ hk => trivial)⟩, ⟨by (with_reducible repeat (first | refine kc ?_ _ | refine kb ?_ | refine ka ?_ _)); refine blk_far ?_ NB310_315.out _; (with_reducible repeat (first | refine kc ?_ _ | refine kb ?_ | refine ka ?_ _)); exact BK310.out⟩, ⟨by (with_reducible repeat (first | refine kc ?_ _ | refine kb ?_ | refine ka ?_ _)); refine blk_put (cs := #[.int .i64 x316000_2, .string x316001_3, .string x316002_3, u316003]) ?_ 2 _ rfl; (with_reducible repeat (first | refine kc ?_ _ | refine kb ?_ | refine ka ?_ _)); exact BK315.out⟩, ⟨by repeat (first | (with_reducible first | exact HB.out | apply below_alloc | apply pw_below_drewN | apply below_drew1 | refine below_set ?_ GE310.out | refine below_set ?_ GE315.out) | exact HB.out)⟩⟩
                  ·rw [if_neg c51] at H
                   exact absurd H (by simp)
                 ·rw [if_neg c50] at H
                  exact absurd H (by simp)
                ·replace c48 := Bool.eq_false_iff.mpr c48
                 subst c48
                 have H1 : (if 0 ≤ x8_3 then (if x8_3 < (t311.length : Int) then (if (rdOf ByteArray.empty t311 x8_3).toList = ([107, 101, 121] : List UInt8) then (if (wrap64 (x8_3 + 1)) < (t311.length : Int) then (if x316001_3.toList = ([] : List UInt8) then (if 0 ≤ (wrap64 (x8_3 + 1)) then (prebendref27_Parse.l1 kj40 t311 (wrap64 ((wrap64 (x8_3 + 1)) + 1)) x316000_2 (rdOf ByteArray.empty t311 (wrap64 (x8_3 + 1))) x316002_3 x316003_3) else (none)) else (prebendref27_Parse.l1 kj40 t311 (wrap64 (x8_3 + 1)) x316000_2 x316001_3 x316002_3 x316003_3)) else (prebendref27_Parse.l1 kj40 t311 (wrap64 (x8_3 + 1)) x316000_2 x316001_3 x316002_3 x316003_3)) else (prebendref27_Parse.l1 kj40 t311 (wrap64 (x8_3 + 1)) x316000_2 x316001_3 x316002_3 x316003_3)) else (none)) else (none)) = some (r1, r2, r3, r4, r5) := by rw [if_neg (show ¬ (false = true) by decide)] at H; exact H
                 clear H
                 have H := H1
                 clear H1
                 by_cases c54 : 0 ≤ x8_3
                 ·rw [if_pos c54] at H
                  have c54b0 : decide (0 ≤ x8_3) = true := decide_eq_true c54
                  clear c54
                  by_cases c55 : x8_3 < (t311.length : Int)
                  ·rw [if_pos c55] at H
                   have c55b0 : decide (x8_3 < (t311.length : Int)) = true := decide_eq_true c55
                   clear c55
                   by_cases c56 : (rdOf ByteArray.empty t311 x8_3).toList = ([107, 101, 121] : List UInt8)
                   ·rw [if_pos c56] at H
                    have c56b0 : ((rdOf ByteArray.empty t311 x8_3).toList == ([107, 101, 121] : List UInt8)) = true := beq_iff_eq.mpr c56
                    have c56b1 : ((rdOf ByteArray.empty t311 x8_3).toList != ([107, 101, 121] : List UInt8)) = false := bne_eq_false_iff_eq.mpr c56
                    clear c56
                    by_cases c57 : (wrap64 (x8_3 + 1)) < (t311.length : Int)
                    ·rw [if_pos c57] at H
                     have c57b0 : decide ((wrap64 (x8_3 + 1)) < (t311.length : Int)) = true := decide_eq_true c57
                     clear c57
                     by_cases c58 : x316001_3.toList = ([] : List UInt8)
                     ·rw [if_pos c58] at H
                      have c58b0 : (x316001_3.toList == ([] : List UInt8)) = true := beq_iff_eq.mpr c58
                      have c58e0 : (x316001_3).toList.isEmpty = true := by cases h_ : (x316001_3).toList with | nil => (first | rfl | (rw [h_] at c58b0; cases c58b0)) | cons => (first | rfl | (rw [h_] at c58b0; cases c58b0))
                      have c58e1 : (!(x316001_3).toList.isEmpty) = false := by rw [c58e0]; rfl
                      have c58e2 : ¬ ((!(x316001_3).toList.isEmpty) = true) := by rw [c58e1]; decide
                      have c58b1 : (x316001_3.toList != ([] : List UInt8)) = false := bne_eq_false_iff_eq.mpr c58
                      clear c58
                      obtain ⟨ji59, hji59⟩ : ∃ j_ : Int, (wrap64 (x8_3 + 1)) = j_ := ⟨_, rfl⟩
                      replace H : (if 0 ≤ (ji59) then (prebendref27_Parse.l1 kj40 t311 (wrap64 ((ji59) + 1)) x316000_2 (rdOf ByteArray.empty t311 (ji59)) x316002_3 x316003_3) else (none)) = some (r1, r2, r3, r4, r5) := by first | (rw [hji59] at H; exact H) | (simp only [hji59] at H ⊢; exact H)
                      (try rw [hji59] at c57b0)
                      have hji59w : (IntKind.i64.wrap (x8_3 + 1)) = ji59 := (i64_w _).trans hji59
                      by_cases c60 : 0 ≤ (ji59)
                      ·rw [if_pos c60] at H
                       have c60b0 : decide (0 ≤ (ji59)) = true := decide_eq_true c60
                       clear c60
                       have H' := Aside0.mk H
                       clear H
                       have p329 : 0 ≤ (x8_3 : Int) := of_decide_eq_true (by first | (with_reducible assumption) | assumption)
                       have q329 : x8_3 < (t311.length : Int) := of_decide_eq_true (by first | (with_reducible assumption) | assumption)
                       obtain ⟨ad329, e329, hx329_0⟩ := Kd.at_string (Kd.R_reads' HO_4.out).2.2 x8_3 p329 q329
                       obtain rfl : ad319 = ad329 := (by injection e329)
                       replace p329 := eq_true p329
                       replace q329 := eq_true q329
                       have hnb61 := NB315_310.out
                       have hnc61 := NB310_315.out
                       have hcz62_0 : wc.cell? ⟨gb315, 0, none⟩ = some (.int .i64 x316000_2) := (blk_cell BK315.out 0).trans rfl
                       have hcz62_1 : wc.cell? ⟨gb315, 1, none⟩ = some (.string x316001_3) := (blk_cell BK315.out 1).trans rfl
                       have hcz62_2 : wc.cell? ⟨gb315, 2, none⟩ = some (.string x316002_3) := (blk_cell BK315.out 2).trans rfl
                       have hcz62_3 : wc.cell? ⟨gb315, 3, none⟩ = some (u316003) := (blk_cell BK315.out 3).trans rfl
                       have hfz62_0 := blk_frozen BK315.out 0
                       have hfz62_1 := blk_frozen BK315.out 1
                       have hfz62_2 := blk_frozen BK315.out 2
                       have hfz62_3 := blk_frozen BK315.out 3
                       have p330 : 0 ≤ ((ji59) : Int) := of_decide_eq_true (by first | (with_reducible assumption) | assumption)
                       have q330 : (ji59) < (t311.length : Int) := of_decide_eq_true (by first | (with_reducible assumption) | assumption)
                       obtain ⟨ad330, e330, hx330_0⟩ := Kd.at_string (Kd.R_reads' HO_4.out).2.2 (ji59) p330 q330
                       obtain rfl : ad319 = ad330 := (by injection e330)
                       replace p330 := eq_true p330
                       replace q330 := eq_true q330
                       go_wp2
                       repeat (go_quiet (fail); try go_wp2)
                       go_roundg kj40
                       case measure => have := HJ2.out; have := HK2.out; have := HK3.out; have := HJ25.out; have := HJ40.out; omega
                       case rel => exact ⟨(wrap64 ((ji59) + 1)), (rdOf ByteArray.empty t311 (ji59)), (x316002_3), (x316003_3), (u316003), (by first | rfl | (simp; done) | (simp only [← hji59] <;> (first | rfl | simp)) | (simp [*]; done)), H', ⟨by have := HJ2.out; have := HK2.out; have := HK3.out; have := HJ25.out; have := HJ40.out; omega⟩, ⟨by (with_reducible repeat (first | apply ra | apply rb | apply rc)); exact Kd.R_mono (Kd.R_far (p := ⟨gb315, 1, none⟩) (Kd.R_types HO_4.out BK315.out (by decide)) (fun _ hk => hk.2) (.string (rdOf ByteArray.empty t311 (ji59)))) (fun _ hk => trivial)⟩, ⟨by (with_reducible repeat (first | apply ra | apply rb | apply rc)); exact Kd.R_mono (Kd.R_far (p := ⟨gb315, 1, none⟩) (Kd.R_types HO_316003.out BK315.out (by decide)) (fun _ hk => hk.2) (.string (rdOf ByteArray.empty t311 (ji59)))) (fun _ hk => trivial)⟩, ⟨by (with_reducible repeat (first | refine kc ?_ _ | refine kb ?_ | refine ka ?_ _)); refine blk_far ?_ NB310_315.out _; (with_reducible repeat (first | refine kc ?_ _ | refine kb ?_ | refine ka ?_ _)); exact BK310.out⟩, ⟨by (with_reducible repeat (first | refine kc ?_ _ | refine kb ?_ | refine ka ?_ _)); refine blk_put (cs := #[.int .i64 x316000_2, .string x316001_3, .string x316002_3, u316003]) ?_ 1 _ rfl; (with_reducible repeat (first | refine kc ?_ _ | refine kb ?_ | refine ka ?_ _)); exact BK315.out⟩, ⟨by repeat (first | (with_reducible first | exact HB.out | apply below_alloc | apply pw_below_drewN | apply below_drew1 | refine below_set ?_ GE310.out | refine below_set ?_ GE315.out) | exact HB.out)⟩⟩
                      ·rw [if_neg c60] at H
                       exact absurd H (by simp)
                     ·rw [if_neg c58] at H
                      have c58b0 : (x316001_3.toList == ([] : List UInt8)) = false := beq_eq_false_iff_ne.mpr c58
                      have c58e0 : (x316001_3).toList.isEmpty = false := by cases h_ : (x316001_3).toList with | nil => (first | rfl | (rw [h_] at c58b0; cases c58b0)) | cons => (first | rfl | (rw [h_] at c58b0; cases c58b0))
                      have c58e1 : (!(x316001_3).toList.isEmpty) = true := by rw [c58e0]; rfl
                      have c58e2 : ¬ ((!(x316001_3).toList.isEmpty) = false) := by rw [c58e1]; decide
                      have c58b1 : (x316001_3.toList != ([] : List UInt8)) = true := bne_iff_ne.mpr c58
                      have H' := Aside0.mk H
                      clear H
                      have p329 : 0 ≤ (x8_3 : Int) := of_decide_eq_true (by first | (with_reducible assumption) | assumption)
                      have q329 : x8_3 < (t311.length : Int) := of_decide_eq_true (by first | (with_reducible assumption) | assumption)
                      obtain ⟨ad329, e329, hx329_0⟩ := Kd.at_string (Kd.R_reads' HO_4.out).2.2 x8_3 p329 q329
                      obtain rfl : ad319 = ad329 := (by injection e329)
                      replace p329 := eq_true p329
                      replace q329 := eq_true q329
                      have hnb63 := NB315_310.out
                      have hnc63 := NB310_315.out
                      have hcz64_0 : wc.cell? ⟨gb315, 0, none⟩ = some (.int .i64 x316000_2) := (blk_cell BK315.out 0).trans rfl
                      have hcz64_1 : wc.cell? ⟨gb315, 1, none⟩ = some (.string x316001_3) := (blk_cell BK315.out 1).trans rfl
                      have hcz64_2 : wc.cell? ⟨gb315, 2, none⟩ = some (.string x316002_3) := (blk_cell BK315.out 2).trans rfl
                      have hcz64_3 : wc.cell? ⟨gb315, 3, none⟩ = some (u316003) := (blk_cell BK315.out 3).trans rfl
                      have hfz64_0 := blk_frozen BK315.out 0
                      have hfz64_1 := blk_frozen BK315.out 1
                      have hfz64_2 := blk_frozen BK315.out 2
                      have hfz64_3 := blk_frozen BK315.out 3
                      go_wp2
                      repeat (go_quiet (fail); try go_wp2)
                      go_roundg kj40
                      case measure => have := HJ2.out; have := HK2.out; have := HK3.out; have := HJ25.out; have := HJ40.out; omega
                      case rel => exact ⟨(wrap64 (x8_3 + 1)), (x316001_3), (x316002_3), (x316003_3), (u316003), (by first | rfl | (simp; done) | (simp [*]; done)), H', ⟨by have := HJ2.out; have := HK2.out; have := HK3.out; have := HJ25.out; have := HJ40.out; omega⟩, ⟨by (with_reducible repeat (first | apply ra | apply rb | apply rc)); exact HO_4.out⟩, ⟨by (with_reducible repeat (first | apply ra | apply rb | apply rc)); exact HO_316003.out⟩, ⟨by (with_reducible repeat (first | refine kc ?_ _ | refine kb ?_ | refine ka ?_ _)); exact BK310.out⟩, ⟨by (with_reducible repeat (first | refine kc ?_ _ | refine kb ?_ | refine ka ?_ _)); exact BK315.out⟩, ⟨by repeat (first | (with_reducible first | exact HB.out | apply below_alloc | apply pw_below_drewN | apply below_drew1 | refine below_set ?_ GE310.out | refine below_set ?_ GE315.out) | exact HB.out)⟩⟩
                    ·rw [if_neg c57] at H
                     have c57b0 : decide ((wrap64 (x8_3 + 1)) < (t311.length : Int)) = false := decide_eq_false c57
                     clear c57
                     have H' := Aside0.mk H
                     clear H
                     have p329 : 0 ≤ (x8_3 : Int) := of_decide_eq_true (by first | (with_reducible assumption) | assumption)
                     have q329 : x8_3 < (t311.length : Int) := of_decide_eq_true (by first | (with_reducible assumption) | assumption)
                     obtain ⟨ad329, e329, hx329_0⟩ := Kd.at_string (Kd.R_reads' HO_4.out).2.2 x8_3 p329 q329
                     obtain rfl : ad319 = ad329 := (by injection e329)
                     replace p329 := eq_true p329
                     replace q329 := eq_true q329
                     go_wp2
                     repeat (go_quiet (fail); try go_wp2)
                     go_roundg kj40
                     case measure => have := HJ2.out; have := HK2.out; have := HK3.out; have := HJ25.out; have := HJ40.out; omega
                     case rel => exact ⟨(wrap64 (x8_3 + 1)), (x316001_3), (x316002_3), (x316003_3), (u316003), (by first | rfl | (simp; done) | (simp [*]; done)), H', ⟨by have := HJ2.out; have := HK2.out; have := HK3.out; have := HJ25.out; have := HJ40.out; omega⟩, ⟨by (with_reducible repeat (first | apply ra | apply rb | apply rc)); exact HO_4.out⟩, ⟨by (with_reducible repeat (first | apply ra | apply rb | apply rc)); exact HO_316003.out⟩, ⟨by (with_reducible repeat (first | refine kc ?_ _ | refine kb ?_ | refine ka ?_ _)); exact BK310.out⟩, ⟨by (with_reducible repeat (first | refine kc ?_ _ | refine kb ?_ | refine ka ?_ _)); exact BK315.out⟩, ⟨by repeat (first | (with_reducible first | exact HB.out | apply below_alloc | apply pw_below_drewN | apply below_drew1 | refine below_set ?_ GE310.out | refine below_set ?_ GE315.out) | exact HB.out)⟩⟩
                   ·rw [if_neg c56] at H
                    have c56b0 : ((rdOf ByteArray.empty t311 x8_3).toList == ([107, 101, 121] : List UInt8)) = false := beq_eq_false_iff_ne.mpr c56
                    have c56b1 : ((rdOf ByteArray.empty t311 x8_3).toList != ([107, 101, 121] : List UInt8)) = true := bne_iff_ne.mpr c56
                    have H' := Aside0.mk H
                    clear H
                    have p329 : 0 ≤ (x8_3 : Int) := of_decide_eq_true (by first | (with_reducible assumption) | assumption)
                    have q329 : x8_3 < (t311.length : Int) := of_decide_eq_true (by first | (with_reducible assumption) | assumption)
                    obtain ⟨ad329, e329, hx329_0⟩ := Kd.at_string (Kd.R_reads' HO_4.out).2.2 x8_3 p329 q329
                    obtain rfl : ad319 = ad329 := (by injection e329)
                    replace p329 := eq_true p329
                    replace q329 := eq_true q329
                    go_wp2
                    repeat (go_quiet (fail); try go_wp2)
                    go_roundg kj40
                    case measure => have := HJ2.out; have := HK2.out; have := HK3.out; have := HJ25.out; have := HJ40.out; omega
                    case rel => exact ⟨(wrap64 (x8_3 + 1)), (x316001_3), (x316002_3), (x316003_3), (u316003), (by first | rfl | (simp; done) | (simp [*]; done)), H', ⟨by have := HJ2.out; have := HK2.out; have := HK3.out; have := HJ25.out; have := HJ40.out; omega⟩, ⟨by (with_reducible repeat (first | apply ra | apply rb | apply rc)); exact HO_4.out⟩, ⟨by (with_reducible repeat (first | apply ra | apply rb | apply rc)); exact HO_316003.out⟩, ⟨by (with_reducible repeat (first | refine kc ?_ _ | refine kb ?_ | refine ka ?_ _)); exact BK310.out⟩, ⟨by (with_reducible repeat (first | refine kc ?_ _ | refine kb ?_ | refine ka ?_ _)); exact BK315.out⟩, ⟨by repeat (first | (with_reducible first | exact HB.out | apply below_alloc | apply pw_below_drewN | apply below_drew1 | refine below_set ?_ GE310.out | refine below_set ?_ GE315.out) | exact HB.out)⟩⟩
                  ·rw [if_neg c55] at H
                   exact absurd H (by simp)
                 ·rw [if_neg c54] at H
                  exact absurd H (by simp)
          ·rw [if_neg c24] at H
           exact absurd H (by simp)
         ·rw [if_neg c23] at H
          have c23b0 : decide (x8_3 < (t311.length : Int)) = false := decide_eq_false c23
          clear c23
          by_cases c65 : x316000_2 = 0
          ·rw [if_pos c65] at H
           have c65b0 : (x316000_2 == 0) = true := beq_iff_eq.mpr c65
           have c65b1 : (x316000_2 != 0) = false := bne_eq_false_iff_eq.mpr c65
           clear c65
           simp only [Option.some.injEq, Prod.mk.injEq] at H
           obtain ⟨rfl, rfl, rfl, rfl, rfl⟩ := H
           obtain ⟨Ao66, co66, eo66⟩ := Kd.R_slice HO_4.out
           subst eo66
           have hnb67 := NB315_310.out
           have hnc67 := NB310_315.out
           have hcz68_0 : wr.cell? ⟨gb315, 0, none⟩ = some (.int .i64 x316000_2) := (blk_cell BK315.out 0).trans rfl
           have hcz68_1 : wr.cell? ⟨gb315, 1, none⟩ = some (.string x316001_3) := (blk_cell BK315.out 1).trans rfl
           have hcz68_2 : wr.cell? ⟨gb315, 2, none⟩ = some (.string x316002_3) := (blk_cell BK315.out 2).trans rfl
           have hcz68_3 : wr.cell? ⟨gb315, 3, none⟩ = some (u316003) := (blk_cell BK315.out 3).trans rfl
           have hfz68_0 := blk_frozen BK315.out 0
           have hfz68_1 := blk_frozen BK315.out 1
           have hfz68_2 := blk_frozen BK315.out 2
           have hfz68_3 := blk_frozen BK315.out 3
           have hcz69_0 : wr.cell? ⟨gb310, 0, none⟩ = some (.int .i64 0) := (blk_cell BK310.out 0).trans rfl
           have hcz69_1 : wr.cell? ⟨gb310, 1, none⟩ = some (.string (⟨#[]⟩ : ByteArray)) := (blk_cell BK310.out 1).trans rfl
           have hcz69_2 : wr.cell? ⟨gb310, 2, none⟩ = some (.string (⟨#[]⟩ : ByteArray)) := (blk_cell BK310.out 2).trans rfl
           have hcz69_3 : wr.cell? ⟨gb310, 3, none⟩ = some (.slice none 0 0) := (blk_cell BK310.out 3).trans rfl
           have hfz69_0 := blk_frozen BK310.out 0
           have hfz69_1 := blk_frozen BK310.out 1
           have hfz69_2 := blk_frozen BK310.out 2
           have hfz69_3 := blk_frozen BK310.out 3
           go_wp2
           repeat (go_quiet (fail); try go_wp2)
           refine bodyPost_ret (results_ct rfl _ _ gb310 24 #[.int .i64 0, .string (⟨#[]⟩ : ByteArray), .string (⟨#[]⟩ : ByteArray), .slice none 0 0] (0, 0) _ rfl (by (with_reducible repeat (first | refine kc ?_ _ | refine kb ?_ | refine ka ?_ _)); refine blk_put (cs := #[.int .i64 0, .string (⟨#[]⟩ : ByteArray), .string (⟨#[]⟩ : ByteArray), .slice none 0 0]) ?_ 3 _ rfl; (with_reducible repeat (first | refine kc ?_ _ | refine kb ?_ | refine ka ?_ _)); refine blk_put (cs := #[.int .i64 0, .string (⟨#[]⟩ : ByteArray), .string (⟨#[]⟩ : ByteArray), .slice none 0 0]) ?_ 2 _ rfl; (with_reducible repeat (first | refine kc ?_ _ | refine kb ?_ | refine ka ?_ _)); refine blk_put (cs := #[.int .i64 0, .string (⟨#[]⟩ : ByteArray), .string (⟨#[]⟩ : ByteArray), .slice none 0 0]) ?_ 1 _ rfl; (with_reducible repeat (first | refine kc ?_ _ | refine kb ?_ | refine ka ?_ _)); refine blk_put (cs := #[.int .i64 0, .string (⟨#[]⟩ : ByteArray), .string (⟨#[]⟩ : ByteArray), .slice none 0 0]) ?_ 0 _ rfl; (with_reducible repeat (first | refine kc ?_ _ | refine kb ?_ | refine ka ?_ _)); exact BK310.out) Tryd.underlying24 rfl (by kernel_rfl)) rfl ?_
           exact ⟨_, by first | rfl | (simp [errW_none, errW_some] <;> rfl) | (simp [*, errW_none, errW_some] <;> rfl), by first | exact Kd.R_nil _ _ _ _ _ | exact Kd.N_nil _ _ _ _ _ | exact Kd.V_nil _ _ _ _ _ | exact Kd.Q_nil _ _ _ _ _ | exact Kd.S_nil _ _ _ _ _, by repeat (first | (with_reducible first | exact HB.out | apply below_alloc | apply pw_below_drewN | apply below_drew1 | refine below_set ?_ GE310.out | refine below_set ?_ GE315.out) | exact HB.out)⟩
          ·rw [if_neg c65] at H
           have c65b0 : (x316000_2 == 0) = false := beq_eq_false_iff_ne.mpr c65
           have c65b1 : (x316000_2 != 0) = true := bne_iff_ne.mpr c65
           replace H := Option.bind_eq_some_iff.mp H
           obtain ⟨t331, A700, H⟩ := H
           replace H : ((prebendref26_Texts.f k3 t331 t311).bind fun t334 => (if t334 = true then (some (x316000_2, x316001_3, x316002_3, x316003_3, 0)) else (some (0, (⟨#[]⟩ : ByteArray), (⟨#[]⟩ : ByteArray), ([] : List Int), 11)))) = some (r1, r2, r3, r4, r5) := H
           have A70 := Aside0.mk A700
           clear A700
           replace H := Option.bind_eq_some_iff.mp H
           obtain ⟨t334, A710, H⟩ := H
           replace H : (if t334 = true then (some (x316000_2, x316001_3, x316002_3, x316003_3, 0)) else (some (0, (⟨#[]⟩ : ByteArray), (⟨#[]⟩ : ByteArray), ([] : List Int), 11))) = some (r1, r2, r3, r4, r5) := H
           have A71 := Aside0.mk A710
           clear A710
           by_cases c72 : t334 = true
           ·subst c72
            have H1 : (some (x316000_2, x316001_3, x316002_3, x316003_3, 0)) = some (r1, r2, r3, r4, r5) := by rw [if_pos rfl] at H; exact H
            clear H
            have H := H1
            clear H1
            simp only [Option.some.injEq, Prod.mk.injEq] at H
            obtain ⟨rfl, rfl, rfl, rfl, rfl⟩ := H
            obtain ⟨Ao73, co73, eo73⟩ := Kd.R_slice HO_4.out
            subst eo73
            have hnb74 := NB315_310.out
            have hnc74 := NB310_315.out
            have hcz75_0 : wr.cell? ⟨gb315, 0, none⟩ = some (.int .i64 x316000_2) := (blk_cell BK315.out 0).trans rfl
            have hcz75_1 : wr.cell? ⟨gb315, 1, none⟩ = some (.string x316001_3) := (blk_cell BK315.out 1).trans rfl
            have hcz75_2 : wr.cell? ⟨gb315, 2, none⟩ = some (.string x316002_3) := (blk_cell BK315.out 2).trans rfl
            have hcz75_3 : wr.cell? ⟨gb315, 3, none⟩ = some (u316003) := (blk_cell BK315.out 3).trans rfl
            have hfz75_0 := blk_frozen BK315.out 0
            have hfz75_1 := blk_frozen BK315.out 1
            have hfz75_2 := blk_frozen BK315.out 2
            have hfz75_3 := blk_frozen BK315.out 3
            obtain ⟨Ao76, co76, eo76⟩ := Kd.R_slice HO_316003.out
            subst eo76
            go_wp2_with (first | (go_at_call 37; (with_reducible refine (prebendref27_Words.calls k3 x316000_2 x316001_3 x316002_3 _ _ x316003_3 t331 _ ?side1 ?side2 A70.out).mono ?_); (case side1 => repeat (first | exact (Kd.R_reads' HO_316003.out).2.2 | (with_reducible refine Kd.C_alloc ?_ _) | (with_reducible refine Kd.C_drewN ?_ _) | (with_reducible refine Kd.C_drew ?_))); (case side2 => exact (Kd.R_reads' HO_316003.out).2.1); rintro e w77 ⟨v332, rfl, ho0, hb⟩; (try clear A70); have n0_ := Aside0.mk (Kd.R_elder' (by (with_reducible repeat (first | apply ra | apply rb | apply rc)); exact HO_4.out) (Kd.R_base ho0) hb); have n1_ := Aside0.mk (Kd.R_below (by (with_reducible repeat (first | apply ra | apply rb | apply rc)); exact HO_316003.out) hb); have n2_ := Aside0.mk (Kd.R_lower (Kd.R_new' ho0 (Kd.R_lt (by (with_reducible repeat (first | apply ra | apply rb | apply rc)); exact HO_4.out))) (below_size (by repeat (first | (with_reducible first | exact HB.out | apply below_alloc | apply pw_below_drewN | apply below_drew1 | refine below_set ?_ GE310.out | refine below_set ?_ GE315.out) | exact HB.out)))); have n3_ := Aside0.mk (blk_below (g := gb310) (o := .cells #[.int .i64 0, .string (⟨#[]⟩ : ByteArray), .string (⟨#[]⟩ : ByteArray), .slice none 0 0] 24 (0, 0)) (by (with_reducible repeat (first | refine kc ?_ _ | refine kb ?_ | refine ka ?_ _)); exact BK310.out) hb); have n4_ := Aside0.mk (blk_below (g := gb315) (o := .cells #[.int .i64 x316000_2, .string x316001_3, .string x316002_3, .slice Ao76 x316003_3.length co76] 24 (0, 0)) (by (with_reducible repeat (first | refine kc ?_ _ | refine kb ?_ | refine ka ?_ _)); exact BK315.out) hb); have n5_ := Aside0.mk (below_step (by repeat (first | (with_reducible first | exact HB.out | apply below_alloc | apply pw_below_drewN | apply below_drew1 | refine below_set ?_ GE310.out | refine below_set ?_ GE315.out) | exact HB.out)) hb); clear HO_4; clear HO_316003; clear BK310; clear BK315; clear HB; have HO_4 := n0_; have HO_316003 := n1_; have HO333 := n2_; have BK310 := n3_; have BK315 := n4_; have HB := n5_; clear n0_ n1_ n2_ n3_ n4_ n5_; (try clear hb); (try clear hb2); (try clear hk); (try clear hi); (try clear ho0); obtain ⟨Ao78, co78, eo78⟩ := Kd.R_slice HO333.out; subst eo78) | (go_at_call 25; (with_reducible refine (prebendref26_Texts.calls k3 _ _ t331 _ _ t311 true _ ?side1 ?side2 ?side3 ?side4 A71.out).mono ?_); (case side1 => repeat (first | exact (Kd.R_reads' HO333.out).2.2 | (with_reducible refine Kd.C_alloc ?_ _) | (with_reducible refine Kd.C_drewN ?_ _) | (with_reducible refine Kd.C_drew ?_))); (case side2 => exact (Kd.R_reads' HO333.out).2.1); (case side3 => repeat (first | exact (Kd.R_reads' HO_4.out).2.2 | (with_reducible refine Kd.C_alloc ?_ _) | (with_reducible refine Kd.C_drewN ?_ _) | (with_reducible refine Kd.C_drew ?_))); (case side4 => exact (Kd.R_reads' HO_4.out).2.1); rintro e w' ⟨rfl, ⟨nd, rfl⟩⟩; (try clear A71); (try first | exact ⟨rfl, _, World.drewN_drewN _ _ _⟩ | exact ⟨rfl, _, Eq.trans (World.drewN_drewN _ _ _) (congrArg (World.drewN _) (Nat.add_assoc _ _ _))⟩); have hcz79_0 : w77.cell? ⟨gb315, 0, none⟩ = some (.int .i64 x316000_2) := (blk_cell BK315.out 0).trans rfl; have hcz79_1 : w77.cell? ⟨gb315, 1, none⟩ = some (.string x316001_3) := (blk_cell BK315.out 1).trans rfl; have hcz79_2 : w77.cell? ⟨gb315, 2, none⟩ = some (.string x316002_3) := (blk_cell BK315.out 2).trans rfl; have hcz79_3 : w77.cell? ⟨gb315, 3, none⟩ = some (.slice Ao76 x316003_3.length co76) := (blk_cell BK315.out 3).trans rfl; have hfz79_0 := blk_frozen BK315.out 0; have hfz79_1 := blk_frozen BK315.out 1; have hfz79_2 := blk_frozen BK315.out 2; have hfz79_3 := blk_frozen BK315.out 3; have hcz80_0 : w77.cell? ⟨gb310, 0, none⟩ = some (.int .i64 0) := (blk_cell BK310.out 0).trans rfl; have hcz80_1 : w77.cell? ⟨gb310, 1, none⟩ = some (.string (⟨#[]⟩ : ByteArray)) := (blk_cell BK310.out 1).trans rfl; have hcz80_2 : w77.cell? ⟨gb310, 2, none⟩ = some (.string (⟨#[]⟩ : ByteArray)) := (blk_cell BK310.out 2).trans rfl; have hcz80_3 : w77.cell? ⟨gb310, 3, none⟩ = some (.slice none 0 0) := (blk_cell BK310.out 3).trans rfl; have hfz80_0 := blk_frozen BK310.out 0; have hfz80_1 := blk_frozen BK310.out 1; have hfz80_2 := blk_frozen BK310.out 2; have hfz80_3 := blk_frozen BK310.out 3))
            repeat (go_quiet (first | (go_at_call 37; (with_reducible refine (prebendref27_Words.calls k3 x316000_2 x316001_3 x316002_3 _ _ x316003_3 t331 _ ?side1 ?side2 A70.out).mono ?_); (case side1 => repeat (first | exact (Kd.R_reads' HO_316003.out).2.2 | (with_reducible refine Kd.C_alloc ?_ _) | (with_reducible refine Kd.C_drewN ?_ _) | (with_reducible refine Kd.C_drew ?_))); (case side2 => exact (Kd.R_reads' HO_316003.out).2.1); rintro e w77 ⟨v332, rfl, ho0, hb⟩; (try clear A70); have n0_ := Aside0.mk (Kd.R_elder' (by (with_reducible repeat (first | apply ra | apply rb | apply rc)); exact HO_4.out) (Kd.R_base ho0) hb); have n1_ := Aside0.mk (Kd.R_below (by (with_reducible repeat (first | apply ra | apply rb | apply rc)); exact HO_316003.out) hb); have n2_ := Aside0.mk (Kd.R_lower (Kd.R_new' ho0 (Kd.R_lt (by (with_reducible repeat (first | apply ra | apply rb | apply rc)); exact HO_4.out))) (below_size (by repeat (first | (with_reducible first | exact HB.out | apply below_alloc | apply pw_below_drewN | apply below_drew1 | refine below_set ?_ GE310.out | refine below_set ?_ GE315.out) | exact HB.out)))); have n3_ := Aside0.mk (blk_below (g := gb310) (o := .cells #[.int .i64 0, .string (⟨#[]⟩ : ByteArray), .string (⟨#[]⟩ : ByteArray), .slice none 0 0] 24 (0, 0)) (by (with_reducible repeat (first | refine kc ?_ _ | refine kb ?_ | refine ka ?_ _)); exact BK310.out) hb); have n4_ := Aside0.mk (blk_below (g := gb315) (o := .cells #[.int .i64 x316000_2, .string x316001_3, .string x316002_3, .slice Ao76 x316003_3.length co76] 24 (0, 0)) (by (with_reducible repeat (first | refine kc ?_ _ | refine kb ?_ | refine ka ?_ _)); exact BK315.out) hb); have n5_ := Aside0.mk (below_step (by repeat (first | (with_reducible first | exact HB.out | apply below_alloc | apply pw_below_drewN | apply below_drew1 | refine below_set ?_ GE310.out | refine below_set ?_ GE315.out) | exact HB.out)) hb); clear HO_4; clear HO_316003; clear BK310; clear BK315; clear HB; have HO_4 := n0_; have HO_316003 := n1_; have HO333 := n2_; have BK310 := n3_; have BK315 := n4_; have HB := n5_; clear n0_ n1_ n2_ n3_ n4_ n5_; (try clear hb); (try clear hb2); (try clear hk); (try clear hi); (try clear ho0); obtain ⟨Ao78, co78, eo78⟩ := Kd.R_slice HO333.out; subst eo78) | (go_at_call 25; (with_reducible refine (prebendref26_Texts.calls k3 _ _ t331 _ _ t311 true _ ?side1 ?side2 ?side3 ?side4 A71.out).mono ?_); (case side1 => repeat (first | exact (Kd.R_reads' HO333.out).2.2 | (with_reducible refine Kd.C_alloc ?_ _) | (with_reducible refine Kd.C_drewN ?_ _) | (with_reducible refine Kd.C_drew ?_))); (case side2 => exact (Kd.R_reads' HO333.out).2.1); (case side3 => repeat (first | exact (Kd.R_reads' HO_4.out).2.2 | (with_reducible refine Kd.C_alloc ?_ _) | (with_reducible refine Kd.C_drewN ?_ _) | (with_reducible refine Kd.C_drew ?_))); (case side4 => exact (Kd.R_reads' HO_4.out).2.1); rintro e w' ⟨rfl, ⟨nd, rfl⟩⟩; (try clear A71); (try first | exact ⟨rfl, _, World.drewN_drewN _ _ _⟩ | exact ⟨rfl, _, Eq.trans (World.drewN_drewN _ _ _) (congrArg (World.drewN _) (Nat.add_assoc _ _ _))⟩); have hcz79_0 : w77.cell? ⟨gb315, 0, none⟩ = some (.int .i64 x316000_2) := (blk_cell BK315.out 0).trans rfl; have hcz79_1 : w77.cell? ⟨gb315, 1, none⟩ = some (.string x316001_3) := (blk_cell BK315.out 1).trans rfl; have hcz79_2 : w77.cell? ⟨gb315, 2, none⟩ = some (.string x316002_3) := (blk_cell BK315.out 2).trans rfl; have hcz79_3 : w77.cell? ⟨gb315, 3, none⟩ = some (.slice Ao76 x316003_3.length co76) := (blk_cell BK315.out 3).trans rfl; have hfz79_0 := blk_frozen BK315.out 0; have hfz79_1 := blk_frozen BK315.out 1; have hfz79_2 := blk_frozen BK315.out 2; have hfz79_3 := blk_frozen BK315.out 3; have hcz80_0 : w77.cell? ⟨gb310, 0, none⟩ = some (.int .i64 0) := (blk_cell BK310.out 0).trans rfl; have hcz80_1 : w77.cell? ⟨gb310, 1, none⟩ = some (.string (⟨#[]⟩ : ByteArray)) := (blk_cell BK310.out 1).trans rfl; have hcz80_2 : w77.cell? ⟨gb310, 2, none⟩ = some (.string (⟨#[]⟩ : ByteArray)) := (blk_cell BK310.out 2).trans rfl; have hcz80_3 : w77.cell? ⟨gb310, 3, none⟩ = some (.slice none 0 0) := (blk_cell BK310.out 3).trans rfl; have hfz80_0 := blk_frozen BK310.out 0; have hfz80_1 := blk_frozen BK310.out 1; have hfz80_2 := blk_frozen BK310.out 2; have hfz80_3 := blk_frozen BK310.out 3)); try go_wp2_with (first | (go_at_call 37; (with_reducible refine (prebendref27_Words.calls k3 x316000_2 x316001_3 x316002_3 _ _ x316003_3 t331 _ ?side1 ?side2 A70.out).mono ?_); (case side1 => repeat (first | exact (Kd.R_reads' HO_316003.out).2.2 | (with_reducible refine Kd.C_alloc ?_ _) | (with_reducible refine Kd.C_drewN ?_ _) | (with_reducible refine Kd.C_drew ?_))); (case side2 => exact (Kd.R_reads' HO_316003.out).2.1); rintro e w77 ⟨v332, rfl, ho0, hb⟩; (try clear A70); have n0_ := Aside0.mk (Kd.R_elder' (by (with_reducible repeat (first | apply ra | apply rb | apply rc)); exact HO_4.out) (Kd.R_base ho0) hb); have n1_ := Aside0.mk (Kd.R_below (by (with_reducible repeat (first | apply ra | apply rb | apply rc)); exact HO_316003.out) hb); have n2_ := Aside0.mk (Kd.R_lower (Kd.R_new' ho0 (Kd.R_lt (by (with_reducible repeat (first | apply ra | apply rb | apply rc)); exact HO_4.out))) (below_size (by repeat (first | (with_reducible first | exact HB.out | apply below_alloc | apply pw_below_drewN | apply below_drew1 | refine below_set ?_ GE310.out | refine below_set ?_ GE315.out) | exact HB.out)))); have n3_ := Aside0.mk (blk_below (g := gb310) (o := .cells #[.int .i64 0, .string (⟨#[]⟩ : ByteArray), .string (⟨#[]⟩ : ByteArray), .slice none 0 0] 24 (0, 0)) (by (with_reducible repeat (first | refine kc ?_ _ | refine kb ?_ | refine ka ?_ _)); exact BK310.out) hb); have n4_ := Aside0.mk (blk_below (g := gb315) (o := .cells #[.int .i64 x316000_2, .string x316001_3, .string x316002_3, .slice Ao76 x316003_3.length co76] 24 (0, 0)) (by (with_reducible repeat (first | refine kc ?_ _ | refine kb ?_ | refine ka ?_ _)); exact BK315.out) hb); have n5_ := Aside0.mk (below_step (by repeat (first | (with_reducible first | exact HB.out | apply below_alloc | apply pw_below_drewN | apply below_drew1 | refine below_set ?_ GE310.out | refine below_set ?_ GE315.out) | exact HB.out)) hb); clear HO_4; clear HO_316003; clear BK310; clear BK315; clear HB; have HO_4 := n0_; have HO_316003 := n1_; have HO333 := n2_; have BK310 := n3_; have BK315 := n4_; have HB := n5_; clear n0_ n1_ n2_ n3_ n4_ n5_; (try clear hb); (try clear hb2); (try clear hk); (try clear hi); (try clear ho0); obtain ⟨Ao78, co78, eo78⟩ := Kd.R_slice HO333.out; subst eo78) | (go_at_call 25; (with_reducible refine (prebendref26_Texts.calls k3 _ _ t331 _ _ t311 true _ ?side1 ?side2 ?side3 ?side4 A71.out).mono ?_); (case side1 => repeat (first | exact (Kd.R_reads' HO333.out).2.2 | (with_reducible refine Kd.C_alloc ?_ _) | (with_reducible refine Kd.C_drewN ?_ _) | (with_reducible refine Kd.C_drew ?_))); (case side2 => exact (Kd.R_reads' HO333.out).2.1); (case side3 => repeat (first | exact (Kd.R_reads' HO_4.out).2.2 | (with_reducible refine Kd.C_alloc ?_ _) | (with_reducible refine Kd.C_drewN ?_ _) | (with_reducible refine Kd.C_drew ?_))); (case side4 => exact (Kd.R_reads' HO_4.out).2.1); rintro e w' ⟨rfl, ⟨nd, rfl⟩⟩; (try clear A71); (try first | exact ⟨rfl, _, World.drewN_drewN _ _ _⟩ | exact ⟨rfl, _, Eq.trans (World.drewN_drewN _ _ _) (congrArg (World.drewN _) (Nat.add_assoc _ _ _))⟩); have hcz79_0 : w77.cell? ⟨gb315, 0, none⟩ = some (.int .i64 x316000_2) := (blk_cell BK315.out 0).trans rfl; have hcz79_1 : w77.cell? ⟨gb315, 1, none⟩ = some (.string x316001_3) := (blk_cell BK315.out 1).trans rfl; have hcz79_2 : w77.cell? ⟨gb315, 2, none⟩ = some (.string x316002_3) := (blk_cell BK315.out 2).trans rfl; have hcz79_3 : w77.cell? ⟨gb315, 3, none⟩ = some (.slice Ao76 x316003_3.length co76) := (blk_cell BK315.out 3).trans rfl; have hfz79_0 := blk_frozen BK315.out 0; have hfz79_1 := blk_frozen BK315.out 1; have hfz79_2 := blk_frozen BK315.out 2; have hfz79_3 := blk_frozen BK315.out 3; have hcz80_0 : w77.cell? ⟨gb310, 0, none⟩ = some (.int .i64 0) := (blk_cell BK310.out 0).trans rfl; have hcz80_1 : w77.cell? ⟨gb310, 1, none⟩ = some (.string (⟨#[]⟩ : ByteArray)) := (blk_cell BK310.out 1).trans rfl; have hcz80_2 : w77.cell? ⟨gb310, 2, none⟩ = some (.string (⟨#[]⟩ : ByteArray)) := (blk_cell BK310.out 2).trans rfl; have hcz80_3 : w77.cell? ⟨gb310, 3, none⟩ = some (.slice none 0 0) := (blk_cell BK310.out 3).trans rfl; have hfz80_0 := blk_frozen BK310.out 0; have hfz80_1 := blk_frozen BK310.out 1; have hfz80_2 := blk_frozen BK310.out 2; have hfz80_3 := blk_frozen BK310.out 3)))
            refine bodyPost_ret (results_ct rfl _ _ gb310 24 #[.int .i64 x316000_2, .string x316001_3, .string x316002_3, .slice Ao76 x316003_3.length co76] (0, 0) _ rfl (by (with_reducible repeat (first | refine kc ?_ _ | refine kb ?_ | refine ka ?_ _)); refine blk_put (cs := #[.int .i64 x316000_2, .string x316001_3, .string x316002_3, .slice none 0 0]) ?_ 3 _ rfl; (with_reducible repeat (first | refine kc ?_ _ | refine kb ?_ | refine ka ?_ _)); refine blk_put (cs := #[.int .i64 x316000_2, .string x316001_3, .string (⟨#[]⟩ : ByteArray), .slice none 0 0]) ?_ 2 _ rfl; (with_reducible repeat (first | refine kc ?_ _ | refine kb ?_ | refine ka ?_ _)); refine blk_put (cs := #[.int .i64 x316000_2, .string (⟨#[]⟩ : ByteArray), .string (⟨#[]⟩ : ByteArray), .slice none 0 0]) ?_ 1 _ rfl; (with_reducible repeat (first | refine kc ?_ _ | refine kb ?_ | refine ka ?_ _)); refine blk_put (cs := #[.int .i64 0, .string (⟨#[]⟩ : ByteArray), .string (⟨#[]⟩ : ByteArray), .slice none 0 0]) ?_ 0 _ rfl; (with_reducible repeat (first | refine kc ?_ _ | refine kb ?_ | refine ka ?_ _)); exact BK310.out) Tryd.underlying24 rfl (by kernel_rfl)) rfl ?_
            exact ⟨_, by first | rfl | (simp [errW_none, errW_some] <;> rfl) | (simp [*, errW_none, errW_some] <;> rfl), by (with_reducible repeat (first | apply ra | apply rb | apply rc)); exact Kd.R_mono (Kd.R_far (p := ⟨gb310, 3, none⟩) (Kd.R_far (p := ⟨gb310, 2, none⟩) (Kd.R_far (p := ⟨gb310, 1, none⟩) (Kd.R_far (p := ⟨gb310, 0, none⟩) (Kd.R_types HO_316003.out BK310.out (by decide)) (fun _ hk => hk.2) (.int .i64 x316000_2)) (fun _ hk => hk.2) (.string x316001_3)) (fun _ hk => hk.2) (.string x316002_3)) (fun _ hk => hk.2) (.slice Ao76 x316003_3.length co76)) (fun _ hk => trivial), by repeat (first | (with_reducible first | exact HB.out | apply below_alloc | apply pw_below_drewN | apply below_drew1 | refine below_set ?_ GE310.out | refine below_set ?_ GE315.out) | exact HB.out)⟩
           ·replace c72 := Bool.eq_false_iff.mpr c72
            subst c72
            have H1 : (some (0, (⟨#[]⟩ : ByteArray), (⟨#[]⟩ : ByteArray), ([] : List Int), 11)) = some (r1, r2, r3, r4, r5) := by rw [if_neg (show ¬ (false = true) by decide)] at H; exact H
            clear H
            have H := H1
            clear H1
            simp only [Option.some.injEq, Prod.mk.injEq] at H
            obtain ⟨rfl, rfl, rfl, rfl, rfl⟩ := H
            obtain ⟨Ao81, co81, eo81⟩ := Kd.R_slice HO_4.out
            subst eo81
            have hnb82 := NB315_310.out
            have hnc82 := NB310_315.out
            have hcz83_0 : wr.cell? ⟨gb315, 0, none⟩ = some (.int .i64 x316000_2) := (blk_cell BK315.out 0).trans rfl
            have hcz83_1 : wr.cell? ⟨gb315, 1, none⟩ = some (.string x316001_3) := (blk_cell BK315.out 1).trans rfl
            have hcz83_2 : wr.cell? ⟨gb315, 2, none⟩ = some (.string x316002_3) := (blk_cell BK315.out 2).trans rfl
            have hcz83_3 : wr.cell? ⟨gb315, 3, none⟩ = some (u316003) := (blk_cell BK315.out 3).trans rfl
            have hfz83_0 := blk_frozen BK315.out 0
            have hfz83_1 := blk_frozen BK315.out 1
            have hfz83_2 := blk_frozen BK315.out 2
            have hfz83_3 := blk_frozen BK315.out 3
            obtain ⟨Ao84, co84, eo84⟩ := Kd.R_slice HO_316003.out
            subst eo84
            go_wp2_with (first | (go_at_call 37; (with_reducible refine (prebendref27_Words.calls k3 x316000_2 x316001_3 x316002_3 _ _ x316003_3 t331 _ ?side1 ?side2 A70.out).mono ?_); (case side1 => repeat (first | exact (Kd.R_reads' HO_316003.out).2.2 | (with_reducible refine Kd.C_alloc ?_ _) | (with_reducible refine Kd.C_drewN ?_ _) | (with_reducible refine Kd.C_drew ?_))); (case side2 => exact (Kd.R_reads' HO_316003.out).2.1); rintro e w85 ⟨v332, rfl, ho0, hb⟩; (try clear A70); have n0_ := Aside0.mk (Kd.R_elder' (by (with_reducible repeat (first | apply ra | apply rb | apply rc)); exact HO_4.out) (Kd.R_base ho0) hb); have n1_ := Aside0.mk (Kd.R_below (by (with_reducible repeat (first | apply ra | apply rb | apply rc)); exact HO_316003.out) hb); have n2_ := Aside0.mk (Kd.R_lower (Kd.R_new' ho0 (Kd.R_lt (by (with_reducible repeat (first | apply ra | apply rb | apply rc)); exact HO_4.out))) (below_size (by repeat (first | (with_reducible first | exact HB.out | apply below_alloc | apply pw_below_drewN | apply below_drew1 | refine below_set ?_ GE310.out | refine below_set ?_ GE315.out) | exact HB.out)))); have n3_ := Aside0.mk (blk_below (g := gb310) (o := .cells #[.int .i64 0, .string (⟨#[]⟩ : ByteArray), .string (⟨#[]⟩ : ByteArray), .slice none 0 0] 24 (0, 0)) (by (with_reducible repeat (first | refine kc ?_ _ | refine kb ?_ | refine ka ?_ _)); exact BK310.out) hb); have n4_ := Aside0.mk (blk_below (g := gb315) (o := .cells #[.int .i64 x316000_2, .string x316001_3, .string x316002_3, .slice Ao84 x316003_3.length co84] 24 (0, 0)) (by (with_reducible repeat (first | refine kc ?_ _ | refine kb ?_ | refine ka ?_ _)); exact BK315.out) hb); have n5_ := Aside0.mk (below_step (by repeat (first | (with_reducible first | exact HB.out | apply below_alloc | apply pw_below_drewN | apply below_drew1 | refine below_set ?_ GE310.out | refine below_set ?_ GE315.out) | exact HB.out)) hb); clear HO_4; clear HO_316003; clear BK310; clear BK315; clear HB; have HO_4 := n0_; have HO_316003 := n1_; have HO333 := n2_; have BK310 := n3_; have BK315 := n4_; have HB := n5_; clear n0_ n1_ n2_ n3_ n4_ n5_; (try clear hb); (try clear hb2); (try clear hk); (try clear hi); (try clear ho0); obtain ⟨Ao86, co86, eo86⟩ := Kd.R_slice HO333.out; subst eo86) | (go_at_call 25; (with_reducible refine (prebendref26_Texts.calls k3 _ _ t331 _ _ t311 false _ ?side1 ?side2 ?side3 ?side4 A71.out).mono ?_); (case side1 => repeat (first | exact (Kd.R_reads' HO333.out).2.2 | (with_reducible refine Kd.C_alloc ?_ _) | (with_reducible refine Kd.C_drewN ?_ _) | (with_reducible refine Kd.C_drew ?_))); (case side2 => exact (Kd.R_reads' HO333.out).2.1); (case side3 => repeat (first | exact (Kd.R_reads' HO_4.out).2.2 | (with_reducible refine Kd.C_alloc ?_ _) | (with_reducible refine Kd.C_drewN ?_ _) | (with_reducible refine Kd.C_drew ?_))); (case side4 => exact (Kd.R_reads' HO_4.out).2.1); rintro e w' ⟨rfl, ⟨nd, rfl⟩⟩; (try clear A71); (try first | exact ⟨rfl, _, World.drewN_drewN _ _ _⟩ | exact ⟨rfl, _, Eq.trans (World.drewN_drewN _ _ _) (congrArg (World.drewN _) (Nat.add_assoc _ _ _))⟩); have hcz87_0 : w85.cell? ⟨gb310, 0, none⟩ = some (.int .i64 0) := (blk_cell BK310.out 0).trans rfl; have hcz87_1 : w85.cell? ⟨gb310, 1, none⟩ = some (.string (⟨#[]⟩ : ByteArray)) := (blk_cell BK310.out 1).trans rfl; have hcz87_2 : w85.cell? ⟨gb310, 2, none⟩ = some (.string (⟨#[]⟩ : ByteArray)) := (blk_cell BK310.out 2).trans rfl; have hcz87_3 : w85.cell? ⟨gb310, 3, none⟩ = some (.slice none 0 0) := (blk_cell BK310.out 3).trans rfl; have hfz87_0 := blk_frozen BK310.out 0; have hfz87_1 := blk_frozen BK310.out 1; have hfz87_2 := blk_frozen BK310.out 2; have hfz87_3 := blk_frozen BK310.out 3))
            repeat (go_quiet (first | (go_at_call 37; (with_reducible refine (prebendref27_Words.calls k3 x316000_2 x316001_3 x316002_3 _ _ x316003_3 t331 _ ?side1 ?side2 A70.out).mono ?_); (case side1 => repeat (first | exact (Kd.R_reads' HO_316003.out).2.2 | (with_reducible refine Kd.C_alloc ?_ _) | (with_reducible refine Kd.C_drewN ?_ _) | (with_reducible refine Kd.C_drew ?_))); (case side2 => exact (Kd.R_reads' HO_316003.out).2.1); rintro e w85 ⟨v332, rfl, ho0, hb⟩; (try clear A70); have n0_ := Aside0.mk (Kd.R_elder' (by (with_reducible repeat (first | apply ra | apply rb | apply rc)); exact HO_4.out) (Kd.R_base ho0) hb); have n1_ := Aside0.mk (Kd.R_below (by (with_reducible repeat (first | apply ra | apply rb | apply rc)); exact HO_316003.out) hb); have n2_ := Aside0.mk (Kd.R_lower (Kd.R_new' ho0 (Kd.R_lt (by (with_reducible repeat (first | apply ra | apply rb | apply rc)); exact HO_4.out))) (below_size (by repeat (first | (with_reducible first | exact HB.out | apply below_alloc | apply pw_below_drewN | apply below_drew1 | refine below_set ?_ GE310.out | refine below_set ?_ GE315.out) | exact HB.out)))); have n3_ := Aside0.mk (blk_below (g := gb310) (o := .cells #[.int .i64 0, .string (⟨#[]⟩ : ByteArray), .string (⟨#[]⟩ : ByteArray), .slice none 0 0] 24 (0, 0)) (by (with_reducible repeat (first | refine kc ?_ _ | refine kb ?_ | refine ka ?_ _)); exact BK310.out) hb); have n4_ := Aside0.mk (blk_below (g := gb315) (o := .cells #[.int .i64 x316000_2, .string x316001_3, .string x316002_3, .slice Ao84 x316003_3.length co84] 24 (0, 0)) (by (with_reducible repeat (first | refine kc ?_ _ | refine kb ?_ | refine ka ?_ _)); exact BK315.out) hb); have n5_ := Aside0.mk (below_step (by repeat (first | (with_reducible first | exact HB.out | apply below_alloc | apply pw_below_drewN | apply below_drew1 | refine below_set ?_ GE310.out | refine below_set ?_ GE315.out) | exact HB.out)) hb); clear HO_4; clear HO_316003; clear BK310; clear BK315; clear HB; have HO_4 := n0_; have HO_316003 := n1_; have HO333 := n2_; have BK310 := n3_; have BK315 := n4_; have HB := n5_; clear n0_ n1_ n2_ n3_ n4_ n5_; (try clear hb); (try clear hb2); (try clear hk); (try clear hi); (try clear ho0); obtain ⟨Ao86, co86, eo86⟩ := Kd.R_slice HO333.out; subst eo86) | (go_at_call 25; (with_reducible refine (prebendref26_Texts.calls k3 _ _ t331 _ _ t311 false _ ?side1 ?side2 ?side3 ?side4 A71.out).mono ?_); (case side1 => repeat (first | exact (Kd.R_reads' HO333.out).2.2 | (with_reducible refine Kd.C_alloc ?_ _) | (with_reducible refine Kd.C_drewN ?_ _) | (with_reducible refine Kd.C_drew ?_))); (case side2 => exact (Kd.R_reads' HO333.out).2.1); (case side3 => repeat (first | exact (Kd.R_reads' HO_4.out).2.2 | (with_reducible refine Kd.C_alloc ?_ _) | (with_reducible refine Kd.C_drewN ?_ _) | (with_reducible refine Kd.C_drew ?_))); (case side4 => exact (Kd.R_reads' HO_4.out).2.1); rintro e w' ⟨rfl, ⟨nd, rfl⟩⟩; (try clear A71); (try first | exact ⟨rfl, _, World.drewN_drewN _ _ _⟩ | exact ⟨rfl, _, Eq.trans (World.drewN_drewN _ _ _) (congrArg (World.drewN _) (Nat.add_assoc _ _ _))⟩); have hcz87_0 : w85.cell? ⟨gb310, 0, none⟩ = some (.int .i64 0) := (blk_cell BK310.out 0).trans rfl; have hcz87_1 : w85.cell? ⟨gb310, 1, none⟩ = some (.string (⟨#[]⟩ : ByteArray)) := (blk_cell BK310.out 1).trans rfl; have hcz87_2 : w85.cell? ⟨gb310, 2, none⟩ = some (.string (⟨#[]⟩ : ByteArray)) := (blk_cell BK310.out 2).trans rfl; have hcz87_3 : w85.cell? ⟨gb310, 3, none⟩ = some (.slice none 0 0) := (blk_cell BK310.out 3).trans rfl; have hfz87_0 := blk_frozen BK310.out 0; have hfz87_1 := blk_frozen BK310.out 1; have hfz87_2 := blk_frozen BK310.out 2; have hfz87_3 := blk_frozen BK310.out 3)); try go_wp2_with (first | (go_at_call 37; (with_reducible refine (prebendref27_Words.calls k3 x316000_2 x316001_3 x316002_3 _ _ x316003_3 t331 _ ?side1 ?side2 A70.out).mono ?_); (case side1 => repeat (first | exact (Kd.R_reads' HO_316003.out).2.2 | (with_reducible refine Kd.C_alloc ?_ _) | (with_reducible refine Kd.C_drewN ?_ _) | (with_reducible refine Kd.C_drew ?_))); (case side2 => exact (Kd.R_reads' HO_316003.out).2.1); rintro e w85 ⟨v332, rfl, ho0, hb⟩; (try clear A70); have n0_ := Aside0.mk (Kd.R_elder' (by (with_reducible repeat (first | apply ra | apply rb | apply rc)); exact HO_4.out) (Kd.R_base ho0) hb); have n1_ := Aside0.mk (Kd.R_below (by (with_reducible repeat (first | apply ra | apply rb | apply rc)); exact HO_316003.out) hb); have n2_ := Aside0.mk (Kd.R_lower (Kd.R_new' ho0 (Kd.R_lt (by (with_reducible repeat (first | apply ra | apply rb | apply rc)); exact HO_4.out))) (below_size (by repeat (first | (with_reducible first | exact HB.out | apply below_alloc | apply pw_below_drewN | apply below_drew1 | refine below_set ?_ GE310.out | refine below_set ?_ GE315.out) | exact HB.out)))); have n3_ := Aside0.mk (blk_below (g := gb310) (o := .cells #[.int .i64 0, .string (⟨#[]⟩ : ByteArray), .string (⟨#[]⟩ : ByteArray), .slice none 0 0] 24 (0, 0)) (by (with_reducible repeat (first | refine kc ?_ _ | refine kb ?_ | refine ka ?_ _)); exact BK310.out) hb); have n4_ := Aside0.mk (blk_below (g := gb315) (o := .cells #[.int .i64 x316000_2, .string x316001_3, .string x316002_3, .slice Ao84 x316003_3.length co84] 24 (0, 0)) (by (with_reducible repeat (first | refine kc ?_ _ | refine kb ?_ | refine ka ?_ _)); exact BK315.out) hb); have n5_ := Aside0.mk (below_step (by repeat (first | (with_reducible first | exact HB.out | apply below_alloc | apply pw_below_drewN | apply below_drew1 | refine below_set ?_ GE310.out | refine below_set ?_ GE315.out) | exact HB.out)) hb); clear HO_4; clear HO_316003; clear BK310; clear BK315; clear HB; have HO_4 := n0_; have HO_316003 := n1_; have HO333 := n2_; have BK310 := n3_; have BK315 := n4_; have HB := n5_; clear n0_ n1_ n2_ n3_ n4_ n5_; (try clear hb); (try clear hb2); (try clear hk); (try clear hi); (try clear ho0); obtain ⟨Ao86, co86, eo86⟩ := Kd.R_slice HO333.out; subst eo86) | (go_at_call 25; (with_reducible refine (prebendref26_Texts.calls k3 _ _ t331 _ _ t311 false _ ?side1 ?side2 ?side3 ?side4 A71.out).mono ?_); (case side1 => repeat (first | exact (Kd.R_reads' HO333.out).2.2 | (with_reducible refine Kd.C_alloc ?_ _) | (with_reducible refine Kd.C_drewN ?_ _) | (with_reducible refine Kd.C_drew ?_))); (case side2 => exact (Kd.R_reads' HO333.out).2.1); (case side3 => repeat (first | exact (Kd.R_reads' HO_4.out).2.2 | (with_reducible refine Kd.C_alloc ?_ _) | (with_reducible refine Kd.C_drewN ?_ _) | (with_reducible refine Kd.C_drew ?_))); (case side4 => exact (Kd.R_reads' HO_4.out).2.1); rintro e w' ⟨rfl, ⟨nd, rfl⟩⟩; (try clear A71); (try first | exact ⟨rfl, _, World.drewN_drewN _ _ _⟩ | exact ⟨rfl, _, Eq.trans (World.drewN_drewN _ _ _) (congrArg (World.drewN _) (Nat.add_assoc _ _ _))⟩); have hcz87_0 : w85.cell? ⟨gb310, 0, none⟩ = some (.int .i64 0) := (blk_cell BK310.out 0).trans rfl; have hcz87_1 : w85.cell? ⟨gb310, 1, none⟩ = some (.string (⟨#[]⟩ : ByteArray)) := (blk_cell BK310.out 1).trans rfl; have hcz87_2 : w85.cell? ⟨gb310, 2, none⟩ = some (.string (⟨#[]⟩ : ByteArray)) := (blk_cell BK310.out 2).trans rfl; have hcz87_3 : w85.cell? ⟨gb310, 3, none⟩ = some (.slice none 0 0) := (blk_cell BK310.out 3).trans rfl; have hfz87_0 := blk_frozen BK310.out 0; have hfz87_1 := blk_frozen BK310.out 1; have hfz87_2 := blk_frozen BK310.out 2; have hfz87_3 := blk_frozen BK310.out 3)))
            refine bodyPost_ret (results_ct rfl _ _ gb310 24 #[.int .i64 0, .string (⟨#[]⟩ : ByteArray), .string (⟨#[]⟩ : ByteArray), .slice none 0 0] (0, 0) _ rfl (by (with_reducible repeat (first | refine kc ?_ _ | refine kb ?_ | refine ka ?_ _)); refine blk_put (cs := #[.int .i64 0, .string (⟨#[]⟩ : ByteArray), .string (⟨#[]⟩ : ByteArray), .slice none 0 0]) ?_ 3 _ rfl; (with_reducible repeat (first | refine kc ?_ _ | refine kb ?_ | refine ka ?_ _)); refine blk_put (cs := #[.int .i64 0, .string (⟨#[]⟩ : ByteArray), .string (⟨#[]⟩ : ByteArray), .slice none 0 0]) ?_ 2 _ rfl; (with_reducible repeat (first | refine kc ?_ _ | refine kb ?_ | refine ka ?_ _)); refine blk_put (cs := #[.int .i64 0, .string (⟨#[]⟩ : ByteArray), .string (⟨#[]⟩ : ByteArray), .slice none 0 0]) ?_ 1 _ rfl; (with_reducible repeat (first | refine kc ?_ _ | refine kb ?_ | refine ka ?_ _)); refine blk_put (cs := #[.int .i64 0, .string (⟨#[]⟩ : ByteArray), .string (⟨#[]⟩ : ByteArray), .slice none 0 0]) ?_ 0 _ rfl; (with_reducible repeat (first | refine kc ?_ _ | refine kb ?_ | refine ka ?_ _)); exact BK310.out) Tryd.underlying24 rfl (by kernel_rfl)) rfl ?_
            exact ⟨_, by first | rfl | (simp [errW_none, errW_some] <;> rfl) | (simp [*, errW_none, errW_some] <;> rfl), by first | exact Kd.R_nil _ _ _ _ _ | exact Kd.N_nil _ _ _ _ _ | exact Kd.V_nil _ _ _ _ _ | exact Kd.Q_nil _ _ _ _ _ | exact Kd.S_nil _ _ _ _ _, by repeat (first | (with_reducible first | exact HB.out | apply below_alloc | apply pw_below_drewN | apply below_drew1 | refine below_set ?_ GE310.out | refine below_set ?_ GE315.out) | exact HB.out)⟩

end Go.Proofs.YtkenihkjdbdlkaaDoor.QLineParses
