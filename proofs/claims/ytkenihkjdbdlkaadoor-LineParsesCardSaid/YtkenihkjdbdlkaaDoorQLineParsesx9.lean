/- Written by a program of this session (wip/tools/mp.sh): functions as Lean functions, with proofs that the calls come to what they say. Lean checks it. -/
import Derived.Test.YtkenihkjdbdlkaaDoorQLineParsesx0
import Derived.Test.YtkenihkjdbdlkaaDoorQLineParsesx7
import Derived.Test.YtkenihkjdbdlkaaDoorQLineParsesx8
namespace Go.Proofs.YtkenihkjdbdlkaaDoor.QLineParses
open Go.RowKit Go.Proofs.YtkenihkjdbdlkaaDoorW.PrintWords Go.Proofs.YtkenihkjdbdlkaaDoorW.PrintLast Go.Proofs.YtkenihkjdbdlkaaDoorW.PrintMore
attribute [local go_sem] max2_int min2_int max_two min_two max_three min_three max_four min_four   -- for this text's walks alone
set_option linter.unusedVariables false
set_option linter.unusedSimpArgs false

/-! ### prebendref27_Words: function 37 -/
def prebendref27_Words.l0 : Nat → List ByteArray → Int → Int → ByteArray → ByteArray → List Int → Option (List ByteArray)
 | 0, _, _, _, _, _, _ => none
 | k + 1, x3, x4, x262000, x262001, x262002, x262003 => if x4 < (x262003.length : Int) then (if 0 ≤ x4 then ((prebendref26_Num.f k (rd x262003 x4)).bind fun t267 => ((some (([t267] : List ByteArray) : List ByteArray)).bind fun y268 => (if x3.length + y268.length < 8796093022208 then (prebendref27_Words.l0 k (x3 ++ y268) (wrap64 (x4 + 1)) x262000 x262001 x262002 x262003) else (none)))) else (none)) else (if x262002.toList = ([] : List UInt8) then (if x262001.toList = ([] : List UInt8) then (some x3) else ((some (([(⟨#[107, 101, 121]⟩ : ByteArray)] : List ByteArray) : List ByteArray)).bind fun y274 => (if x3.length + y274.length < 8796093022208 then ((some (x3 ++ y274 : List ByteArray)).bind fun y277 => ((some (([x262001] : List ByteArray) : List ByteArray)).bind fun y280 => (if y277.length + y280.length < 8796093022208 then (some (y277 ++ y280)) else (none)))) else (none)))) else ((some (([(⟨#[110, 97, 109, 101]⟩ : ByteArray)] : List ByteArray) : List ByteArray)).bind fun y286 => (if x3.length + y286.length < 8796093022208 then ((some (x3 ++ y286 : List ByteArray)).bind fun y289 => ((some (([x262002] : List ByteArray) : List ByteArray)).bind fun y292 => (if y289.length + y292.length < 8796093022208 then ((some (y289 ++ y292 : List ByteArray)).bind fun y295 => (if x262001.toList = ([] : List UInt8) then (some y295) else ((some (([(⟨#[107, 101, 121]⟩ : ByteArray)] : List ByteArray) : List ByteArray)).bind fun y298 => (if y295.length + y298.length < 8796093022208 then ((some (y295 ++ y298 : List ByteArray)).bind fun y301 => ((some (([x262001] : List ByteArray) : List ByteArray)).bind fun y304 => (if y301.length + y304.length < 8796093022208 then (some (y301 ++ y304)) else (none)))) else (none))))) else (none)))) else (none))))
def prebendref27_Words.f (k : Nat) (a0_0 : Int) (a0_1 : ByteArray) (a0_2 : ByteArray) (l0_3 : List Int) : Option (List ByteArray) := (prebendref27_word.f a0_0).bind fun t262 => (prebendref27_Words.l0 k (([t262] : List ByteArray)) 0 a0_0 a0_1 a0_2 l0_3)
theorem prebendref27_Words.mono_l : ∀ k, (∀ y0 y1 y2 y3 y4 y5, LeO (prebendref27_Words.l0 k y0 y1 y2 y3 y4 y5) (prebendref27_Words.l0 (k + 1) y0 y1 y2 y3 y4 y5))
 | 0 => fun _ _ _ _ _ _ r h => by simp [prebendref27_Words.l0] at h
 | k + 1 => by
  have ih0 := prebendref27_Words.mono_l k
  ·intro y0 y1 y2 y3 y4 y5
   unfold prebendref27_Words.l0
   repeat' first
   | (with_reducible exact ih0 _ _ _ _ _ _)
   | (with_reducible exact prebendref26_Num.mono _ _)
   | (with_reducible exact LeO.refl _)
   | (with_reducible exact LeO.none _)
   | (with_reducible refine LeO.ite ?_ ?_)
   | (with_reducible refine LeO.bind ?_ (fun _ => ?_))
   | exact ih0 _ _ _ _ _ _
   | exact prebendref26_Num.mono _ _
   | exact LeO.none _
   | refine LeO.ite ?_ ?_
   | refine LeO.bind ?_ (fun _ => ?_)
theorem prebendref27_Words.mono : ∀ a0 a1 a2 a3 k, LeO (prebendref27_Words.f k a0 a1 a2 a3) (prebendref27_Words.f (k + 1) a0 a1 a2 a3) := by
 intro a0 a1 a2 a3 k
 have ih0 := prebendref27_Words.mono_l k
 unfold prebendref27_Words.f
 repeat' first
   | (with_reducible exact ih0 _ _ _ _ _ _)
   | (with_reducible exact prebendref26_Num.mono _ _)
   | (with_reducible exact LeO.refl _)
   | (with_reducible exact LeO.none _)
   | (with_reducible refine LeO.ite ?_ ?_)
   | (with_reducible refine LeO.bind ?_ (fun _ => ?_))
   | exact ih0 _ _ _ _ _ _
   | exact prebendref26_Num.mono _ _
   | exact LeO.none _
   | refine LeO.ite ?_ ?_
   | refine LeO.bind ?_ (fun _ => ?_)
def prebendref27_Words.T7 : Bool × List (List Nat × List Nat) := (true, [([], []), ([], []), ([0, 1], [0, 1]), ([], []), ([3], [3]), ([4], [4]), ([2, 5, 2], [2, 5]), ([6, 6, 0, 1, 2, 3, 4, 5, 6], [0, 6])])
def prebendref27_Words.B7 : List Nat := [0, 0, 3, 0, 8, 24, 63, 127]
theorem prebendref27_Words.tab7 : rtab .any (opsOf Tryd.f37 7) = prebendref27_Words.T7 := by kernel_rfl
theorem prebendref27_Words.bits7 : waitsOk prebendref27_Words.T7.2 prebendref27_Words.B7 = true := by kernel_rfl
def prebendref27_Words.T9 : Bool × List (List Nat × List Nat) := (true, [([], []), ([], []), ([0, 1], [0, 1]), ([], []), ([3], [3]), ([4], [4]), ([2, 5, 2], [2, 5]), ([6, 6, 0, 1, 2, 3, 4, 5, 6], [0, 6])])
def prebendref27_Words.B9 : List Nat := [0, 0, 3, 0, 8, 24, 63, 127]
theorem prebendref27_Words.tab9 : rtab .any (opsOf Tryd.f37 9) = prebendref27_Words.T9 := by kernel_rfl
theorem prebendref27_Words.bits9 : waitsOk prebendref27_Words.T9.2 prebendref27_Words.B9 = true := by kernel_rfl
set_option maxHeartbeats 8000000 in
set_option maxRecDepth 100000 in
theorem prebendref27_Words.calls (k : Nat) (a0_0 : Int) (a0_1 : ByteArray) (a0_2 : ByteArray) (A0_3 : Option Addr) (c0_3 : Nat) (l0_3 : List Int) (r : List ByteArray) (w : World) (hr0_3 : Kd.C (Kd.int .i64) w A0_3 l0_3.length l0_3) (hc0_3 : l0_3.length ≤ c0_3) (h : prebendref27_Words.f k a0_0 a0_1 a0_2 l0_3 = some r) :
  Calls Tryd.prog 37 #[.agg #[.int .i64 a0_0, .string a0_1, .string a0_2, .slice A0_3 l0_3.length c0_3]] w fun e w' => ∃ v0_ : Value, e = .returned (v0_) ∧ Kd.R Kd.string 9 w' w.heap.size (fun _ => True) v0_ r ∧ Below w.heap.size w w' := by
 have hu24 := Tryd.underlying24
 have HR0_3 := Aside0.mk hr0_3
 have HC0_3 := Aside0.mk hc0_3
 clear hr0_3 hc0_3
 have HB := Aside0.mk (Below.refl w.heap.size w)
 have H : ((prebendref27_word.f a0_0).bind fun t262 => (prebendref27_Words.l0 k (([t262] : List ByteArray)) 0 a0_0 a0_1 a0_2 l0_3)) = some r := h
 clear h
 replace H := Option.bind_eq_some_iff.mp H
 obtain ⟨t262, A20, H⟩ := H
 replace H : (prebendref27_Words.l0 k (([t262] : List ByteArray)) 0 a0_0 a0_1 a0_2 l0_3) = some r := H
 have A2 := Aside0.mk A20
 clear A20
 obtain ⟨y263, hy263⟩ : ∃ y_ : List ByteArray, y_ = (([t262] : List ByteArray)) := ⟨_, rfl⟩
 replace H : (prebendref27_Words.l0 k y263 0 a0_0 a0_1 a0_2 l0_3) = some r := by first | (rw [hy263]; with_reducible exact H) | (have H2_ := (Option.bind_some _ _).symm.trans H; rw [hy263]; with_reducible exact H2_) | (have H2_ := (Option.bind_some _ _).symm.trans H; with_reducible exact H2_) | with_reducible exact H | (rw [hy263]; exact H) | exact H
 have Ny263 := Aside0.mk hy263
 clear hy263
 have H' := Aside0.mk H
 clear H
 go_enter Tryd.func37, Tryd.ntmps37
 go_wp2_with (first | ((with_reducible refine gate_dst (N := 1) rfl ?_); refine box_event ?hg (N := 1) ?hd (cs := #[.int .i64 a0_0, .string a0_1, .string a0_2, .slice A0_3 l0_3.length c0_3]) (t := 24) ?hr ?_; (case hd => rfl); (case hg => rfl); (case hr => first | (go_simp; done) | (go_simp; rfl)); intro gb261 hg w3 hbox hb; have n0_ := Aside0.mk (below_step (by repeat (first | (with_reducible first | exact HB.out | apply below_alloc | apply pw_below_drewN | apply below_drew1) | exact HB.out)) hb); have n1_ := Aside0.mk (hbox); have n2_ := Aside0.mk ((by rw [hg]; exact (below_size (by repeat (first | (with_reducible first | exact HB.out | apply below_alloc | apply pw_below_drewN | apply below_drew1) | exact HB.out))) : w.heap.size ≤ gb261)); have n3_ := Aside0.mk ((by rw [hg]; exact (below_size (by repeat (first | (with_reducible first | exact HB.out | apply below_alloc | apply pw_below_drewN | apply below_drew1) | exact HB.out))) : w.heap.size ≤ gb261)); clear HB; have HB := n0_; have BK261 := n1_; have GW261 := n2_; have GE261 := n3_; clear n0_ n1_ n2_ n3_; clear hb hbox hg; have hcz4_0 : w3.cell? ⟨gb261, 0, none⟩ = some (.int .i64 a0_0) := (blk_cell BK261.out 0).trans rfl; have hcz4_1 : w3.cell? ⟨gb261, 1, none⟩ = some (.string a0_1) := (blk_cell BK261.out 1).trans rfl; have hcz4_2 : w3.cell? ⟨gb261, 2, none⟩ = some (.string a0_2) := (blk_cell BK261.out 2).trans rfl; have hcz4_3 : w3.cell? ⟨gb261, 3, none⟩ = some (.slice A0_3 l0_3.length c0_3) := (blk_cell BK261.out 3).trans rfl; have hfz4_0 := blk_frozen BK261.out 0; have hfz4_1 := blk_frozen BK261.out 1; have hfz4_2 := blk_frozen BK261.out 2; have hfz4_3 := blk_frozen BK261.out 3) | ((with_reducible refine gate_callee (f := 36) rfl ?_); refine goesL_ (some 7) rfl rfl Tryd.func36 (by kernel_rfl) rfl #[.int .i64 a0_0] rfl (by (try simp only [List.map_toArray, List.map_cons, List.map_nil]); first | done | rfl) ?_; (with_reducible refine (prebendref27_word.calls a0_0 t262 _ A2.out).mono ?_); rintro e w' ⟨rfl, ⟨nd, rfl⟩⟩; refine ⟨_, rfl, ?_⟩) | ((with_reducible refine gate_dst (N := 8) rfl ?_); refine Kd.R_lit Kd.string _ 9 ?hg (N := 8) ?hd (xs := ([t262] : List ByteArray)) (inner := [.string t262]) (ok := fun _ => True) (okp := fun _ => True) ?hr ?hp (fun _ hk => hk) trivial (Below.refl _ _) (Nat.le_refl _) (by simp) ?_; (case hd => rfl); (case hg => rfl); (case hr => first | (go_simp; done) | (go_simp; rfl)); (case hp => exact (Reps.one (show Kd.M Kd.string _ _ _ t262 [.string t262] from rfl) (Reps.none _ _))); intro v264 w5 ho6 hb hg_ hnew_; clear hg_ hnew_; (first | rw [← Ny263.out] at ho6 | (simp only [Int.reduceToNat] at ho6; rw [← Ny263.out] at ho6)); have n0_ := Aside0.mk (Kd.R_lower ho6 (below_size (by repeat (first | (with_reducible first | exact HB.out | apply below_alloc | apply pw_below_drewN | apply below_drew1 | refine below_set ?_ GE261.out) | exact HB.out)))); have n1_ := Aside0.mk (blk_below (g := gb261) (o := .cells #[.int .i64 a0_0, .string a0_1, .string a0_2, .slice A0_3 l0_3.length c0_3] 24 (0, 0)) (by (with_reducible repeat (first | refine kc ?_ _ | refine kb ?_ | refine ka ?_ _)); exact BK261.out) hb); have n2_ := Aside0.mk (below_step (by repeat (first | (with_reducible first | exact HB.out | apply below_alloc | apply pw_below_drewN | apply below_drew1 | refine below_set ?_ GE261.out) | exact HB.out)) hb); clear BK261; clear HB; have HO265 := n0_; have BK261 := n1_; have HB := n2_; clear n0_ n1_ n2_; clear hb ho6))
 go_loopg [3, 4] k (fun kq v3 v4 w' => ∃ (x3_1 : List ByteArray) (x4_1 : Int), v4 = .int .i64 x4_1 ∧ Aside0 (prebendref27_Words.l0 kq x3_1 x4_1 a0_0 a0_1 a0_2 l0_3 = some r) ∧ Aside0 (kq ≤ k) ∧ Aside0 (Kd.R Kd.string 9 w' w.heap.size (fun _ => True) v3 x3_1) ∧ Aside0 (w'.heap[gb261]? = some (.cells #[.int .i64 a0_0, .string a0_1, .string a0_2, (.slice A0_3 l0_3.length c0_3)] 24 (0, 0))) ∧ Aside0 (Below w.heap.size w w'))
 case atStart => exact ⟨(y263), (0), (by first | rfl | (simp; done) | (simp [*]; done)), H', ⟨Nat.le_refl _⟩, ⟨by (with_reducible repeat (first | apply ra | apply rb | apply rc)); exact HO265.out⟩, ⟨by (with_reducible repeat (first | refine kc ?_ _ | refine kb ?_ | refine ka ?_ _)); exact BK261.out⟩, ⟨by repeat (first | (with_reducible first | exact HB.out | apply below_alloc | apply pw_below_drewN | apply below_drew1 | refine below_set ?_ GE261.out) | exact HB.out)⟩⟩
 case round =>
  clear H'
  try clear p2
  try clear c3
  try clear hcz4_0
  try clear hcz4_1
  try clear hcz4_2
  try clear hcz4_3
  try clear hfz4_0
  try clear hfz4_1
  try clear hfz4_2
  try clear hfz4_3
  obtain ⟨x3_1, x4_1, rfl, HA, HK1, HO_3, BK261, HB⟩ := hrel
  cases gk with
  | zero => exact absurd HA.out (by simp [prebendref27_Words.l0])
  | succ k1 =>
   have H := HA.out
   clear HA
   simp only [prebendref27_Words.l0] at H
   by_cases c7 : x4_1 < (l0_3.length : Int)
   ·rw [if_pos c7] at H
    have c7b0 : decide (x4_1 < (l0_3.length : Int)) = true := decide_eq_true c7
    clear c7
    by_cases c8 : 0 ≤ x4_1
    ·rw [if_pos c8] at H
     have c8b0 : decide (0 ≤ x4_1) = true := decide_eq_true c8
     clear c8
     replace H := Option.bind_eq_some_iff.mp H
     obtain ⟨t267, A90, H⟩ := H
     replace H : ((some (([t267] : List ByteArray) : List ByteArray)).bind fun y268 => (if x3_1.length + y268.length < 8796093022208 then (prebendref27_Words.l0 k1 (x3_1 ++ y268) (wrap64 (x4_1 + 1)) a0_0 a0_1 a0_2 l0_3) else (none))) = some r := H
     have A9 := Aside0.mk A90
     clear A90
     obtain ⟨y268, hy268⟩ : ∃ y_ : List ByteArray, y_ = (([t267] : List ByteArray)) := ⟨_, rfl⟩
     replace H : (if x3_1.length + y268.length < 8796093022208 then (prebendref27_Words.l0 k1 (x3_1 ++ y268) (wrap64 (x4_1 + 1)) a0_0 a0_1 a0_2 l0_3) else (none)) = some r := by first | (rw [hy268]; with_reducible exact H) | (have H2_ := (Option.bind_some _ _).symm.trans H; rw [hy268]; with_reducible exact H2_) | (have H2_ := (Option.bind_some _ _).symm.trans H; with_reducible exact H2_) | with_reducible exact H | (rw [hy268]; exact H) | exact H
     have Ny268 := Aside0.mk hy268
     clear hy268
     by_cases c10 : x3_1.length + y268.length < 8796093022208
     ·rw [if_pos c10] at H
      have LMc10 := Aside0.mk c10
      clear c10
      obtain ⟨y271, hy271⟩ : ∃ y_ : List ByteArray, y_ = (x3_1 ++ y268) := ⟨_, rfl⟩
      replace H : (prebendref27_Words.l0 k1 y271 (wrap64 (x4_1 + 1)) a0_0 a0_1 a0_2 l0_3) = some r := by first | (rw [hy271]; with_reducible exact H) | (have H2_ := (Option.bind_some _ _).symm.trans H; rw [hy271]; with_reducible exact H2_) | (have H2_ := (Option.bind_some _ _).symm.trans H; with_reducible exact H2_) | with_reducible exact H | (rw [hy271]; exact H) | exact H
      have Ny271 := Aside0.mk hy271
      clear hy271
      have H' := Aside0.mk H
      clear H
      have hcz11_0 : wr.cell? ⟨gb261, 0, none⟩ = some (.int .i64 a0_0) := (blk_cell BK261.out 0).trans rfl
      have hcz11_1 : wr.cell? ⟨gb261, 1, none⟩ = some (.string a0_1) := (blk_cell BK261.out 1).trans rfl
      have hcz11_2 : wr.cell? ⟨gb261, 2, none⟩ = some (.string a0_2) := (blk_cell BK261.out 2).trans rfl
      have hcz11_3 : wr.cell? ⟨gb261, 3, none⟩ = some (.slice A0_3 l0_3.length c0_3) := (blk_cell BK261.out 3).trans rfl
      have hfz11_0 := blk_frozen BK261.out 0
      have hfz11_1 := blk_frozen BK261.out 1
      have hfz11_2 := blk_frozen BK261.out 2
      have hfz11_3 := blk_frozen BK261.out 3
      have p266 : 0 ≤ (x4_1 : Int) := of_decide_eq_true (by first | (with_reducible assumption) | assumption)
      have q266 : x4_1 < (l0_3.length : Int) := of_decide_eq_true (by first | (with_reducible assumption) | assumption)
      obtain ⟨ad266, e266, hx266_0⟩ := Kd.at_int HR0_3.out x4_1 p266 q266
      cases e266
      replace hx266_0 := (HB.out.cell (World.block_lt_of_cell? w _ hx266_0)).trans hx266_0
      replace p266 := eq_true p266
      replace q266 := eq_true q266
      go_wp2_with (first | ((with_reducible refine gate_callee (f := 30) rfl ?_); refine goesL_ (some 22) rfl rfl Tryd.func30 (by kernel_rfl) rfl #[.int .i64 (rd l0_3 x4_1)] rfl (by (try simp only [List.map_toArray, List.map_cons, List.map_nil]); first | done | rfl) ?_; (with_reducible refine (prebendref26_Num.calls k1 (rd l0_3 x4_1) t267 _ A9.out).mono ?_); rintro e w12 ⟨rfl, hb⟩; refine ⟨_, rfl, ?_⟩; have n0_ := Aside0.mk (Kd.R_below (by (with_reducible repeat (first | apply ra | apply rb | apply rc)); exact HO_3.out) hb); have n1_ := Aside0.mk (blk_below (g := gb261) (o := .cells #[.int .i64 a0_0, .string a0_1, .string a0_2, .slice (some ad266) l0_3.length c0_3] 24 (0, 0)) (by (with_reducible repeat (first | refine kc ?_ _ | refine kb ?_ | refine ka ?_ _)); exact BK261.out) hb); have n2_ := Aside0.mk (below_step (by repeat (first | (with_reducible first | exact HB.out | apply below_alloc | apply pw_below_drewN | apply below_drew1 | refine below_set ?_ GE261.out) | exact HB.out)) hb); clear HO_3; clear BK261; clear HB; have HO_3 := n0_; have BK261 := n1_; have HB := n2_; clear n0_ n1_ n2_; (try clear hb); (try clear hb2); (try clear hk); (try clear hi)) | ((with_reducible refine gate_dst (N := 23) rfl ?_); refine Kd.R_lit Kd.string _ 9 ?hg (N := 23) ?hd (xs := ([t267] : List ByteArray)) (inner := [.string t267]) (ok := fun _ => True) (okp := fun _ => True) ?hr ?hp (fun _ hk => hk) trivial (Below.refl _ _) (Nat.le_refl _) (by simp) ?_; (case hd => rfl); (case hg => rfl); (case hr => first | (go_simp; done) | (go_simp; rfl)); (case hp => exact (Reps.one (show Kd.M Kd.string _ _ _ t267 [.string t267] from rfl) (Reps.none _ _))); intro v269 w13 ho14 hb hg_ hnew_; clear hg_ hnew_; (first | rw [← Ny268.out] at ho14 | (simp only [Int.reduceToNat] at ho14; rw [← Ny268.out] at ho14)); have n0_ := Aside0.mk (Kd.R_elder' (by (with_reducible repeat (first | apply ra | apply rb | apply rc)); exact HO_3.out) (Kd.R_base ho14) hb); have n1_ := Aside0.mk (Kd.R_lower (Kd.R_new' ho14 (Kd.R_lt (by (with_reducible repeat (first | apply ra | apply rb | apply rc)); exact HO_3.out))) (below_size (by repeat (first | (with_reducible first | exact HB.out | apply below_alloc | apply pw_below_drewN | apply below_drew1 | refine below_set ?_ GE261.out) | exact HB.out)))); have n2_ := Aside0.mk (blk_below (g := gb261) (o := .cells #[.int .i64 a0_0, .string a0_1, .string a0_2, .slice (some ad266) l0_3.length c0_3] 24 (0, 0)) (by (with_reducible repeat (first | refine kc ?_ _ | refine kb ?_ | refine ka ?_ _)); exact BK261.out) hb); have n3_ := Aside0.mk (below_step (by repeat (first | (with_reducible first | exact HB.out | apply below_alloc | apply pw_below_drewN | apply below_drew1 | refine below_set ?_ GE261.out) | exact HB.out)) hb); clear HO_3; clear BK261; clear HB; have HO_3 := n0_; have HO270 := n1_; have BK261 := n2_; have HB := n3_; clear n0_ n1_ n2_ n3_; clear hb ho14; obtain ⟨Ao16, co16, eo16⟩ := Kd.R_slice HO270.out; subst eo16) | ((with_reducible refine gate_builtin (b := .append) (xs := #[.tmp 16, .tmp 23]) rfl ?_); at_builtin; refine Kd.R_append_rows Kd.string (w0 := w) w.heap.size rfl (.tmp 16) (.tmp 23) 45 9 (.string ⟨#[]⟩) 16 rfl Tryd.underlying45 info9 rfl (by decide) (by omega) u3 x3_1 y268 _ _ _ (fun k_ => some k_ ≠ (.slice Ao16 y268.length co16 : Value).ownBlock) (fun _ => False) rfl rfl ?aO ?aR (fun _ _ h => h) (fun _ h => h.elim) ?aF ?aB ?aS ?aL ?_; (case aR => repeat (first | exact (Kd.R_reads' HO270.out).2.2 | (with_reducible refine Kd.C_alloc ?_ _) | (with_reducible refine Kd.C_drewN ?_ _) | (with_reducible refine Kd.C_drew ?_))); (case aB => exact (by repeat (first | (with_reducible first | exact HB.out | apply below_alloc | apply pw_below_drewN | apply below_drew1 | refine below_set ?_ GE261.out) | exact HB.out))); (case aF => exact (fun k_ hk => Kd.fresh' (Kd.R_lt (by (with_reducible repeat (first | apply ra | apply rb | apply rc)); exact HO270.out)) k_ hk)); (case aO => exact (by (with_reducible repeat (first | apply ra | apply rb | apply rc)); exact Kd.R_mono HO_3.out (fun _ hk => hk.2))); (case aS => exact (below_size (by repeat (first | (with_reducible first | exact HB.out | apply below_alloc | apply pw_below_drewN | apply below_drew1 | refine below_set ?_ GE261.out) | exact HB.out)))); (case aL => have := LMc10.out; omega); intro v272 w15 ho hb hg hat; rw [← Ny271.out] at ho; have n0_ := Aside0.mk (blk_grown (g := gb261) (o := .cells #[.int .i64 a0_0, .string a0_1, .string a0_2, .slice (some ad266) l0_3.length c0_3] 24 (0, 0)) (by (with_reducible repeat (first | refine kc ?_ _ | refine kb ?_ | refine ka ?_ _)); exact BK261.out) hg (Kd.R_ne HO_3.out BK261.out (by decide))); have n1_ := Aside0.mk (Kd.R_after (ok := (fun _ => True)) (by (with_reducible repeat (first | apply ra | apply rb | apply rc)); exact HO270.out) hg hat); have n2_ := Aside0.mk (hb); have n3_ := Aside0.mk (ho); clear BK261; clear HO270; clear HB; clear HO_3; have BK261 := n0_; have HO270 := n1_; have HB := n2_; have HO273 := n3_; clear n0_ n1_ n2_ n3_; clear ho hb hg hat))
      go_roundg k1
      case measure => have := HK1.out; omega
      case rel => exact ⟨(y271), (wrap64 (x4_1 + 1)), (by first | rfl | (simp; done) | (simp [*]; done)), H', ⟨by have := HK1.out; omega⟩, ⟨by (with_reducible repeat (first | apply ra | apply rb | apply rc)); exact Kd.R_mono HO273.out (fun _ hk => trivial)⟩, ⟨by (with_reducible repeat (first | refine kc ?_ _ | refine kb ?_ | refine ka ?_ _)); exact BK261.out⟩, ⟨by repeat (first | (with_reducible first | exact HB.out | apply below_alloc | apply pw_below_drewN | apply below_drew1 | refine below_set ?_ GE261.out) | exact HB.out)⟩⟩
     ·rw [if_neg c10] at H
      exact absurd H (by simp)
    ·rw [if_neg c8] at H
     exact absurd H (by simp)
   ·rw [if_neg c7] at H
    have c7b0 : decide (x4_1 < (l0_3.length : Int)) = false := decide_eq_false c7
    clear c7
    by_cases c17 : a0_2.toList = ([] : List UInt8)
    ·rw [if_pos c17] at H
     have c17b0 : (a0_2.toList == ([] : List UInt8)) = true := beq_iff_eq.mpr c17
     have c17e0 : (a0_2).toList.isEmpty = true := by cases h_ : (a0_2).toList with | nil => (first | rfl | (rw [h_] at c17b0; cases c17b0)) | cons => (first | rfl | (rw [h_] at c17b0; cases c17b0))
     have c17e1 : (!(a0_2).toList.isEmpty) = false := by rw [c17e0]; rfl
     have c17e2 : ¬ ((!(a0_2).toList.isEmpty) = true) := by rw [c17e1]; decide
     have c17b1 : (a0_2.toList != ([] : List UInt8)) = false := bne_eq_false_iff_eq.mpr c17
     clear c17
     by_cases c18 : a0_1.toList = ([] : List UInt8)
     ·rw [if_pos c18] at H
      have c18b0 : (a0_1.toList == ([] : List UInt8)) = true := beq_iff_eq.mpr c18
      have c18e0 : (a0_1).toList.isEmpty = true := by cases h_ : (a0_1).toList with | nil => (first | rfl | (rw [h_] at c18b0; cases c18b0)) | cons => (first | rfl | (rw [h_] at c18b0; cases c18b0))
      have c18e1 : (!(a0_1).toList.isEmpty) = false := by rw [c18e0]; rfl
      have c18e2 : ¬ ((!(a0_1).toList.isEmpty) = true) := by rw [c18e1]; decide
      have c18b1 : (a0_1.toList != ([] : List UInt8)) = false := bne_eq_false_iff_eq.mpr c18
      clear c18
      obtain rfl := Option.some.inj H
      have hcz19_0 : wr.cell? ⟨gb261, 0, none⟩ = some (.int .i64 a0_0) := (blk_cell BK261.out 0).trans rfl
      have hcz19_1 : wr.cell? ⟨gb261, 1, none⟩ = some (.string a0_1) := (blk_cell BK261.out 1).trans rfl
      have hcz19_2 : wr.cell? ⟨gb261, 2, none⟩ = some (.string a0_2) := (blk_cell BK261.out 2).trans rfl
      have hcz19_3 : wr.cell? ⟨gb261, 3, none⟩ = some (.slice A0_3 l0_3.length c0_3) := (blk_cell BK261.out 3).trans rfl
      have hfz19_0 := blk_frozen BK261.out 0
      have hfz19_1 := blk_frozen BK261.out 1
      have hfz19_2 := blk_frozen BK261.out 2
      have hfz19_3 := blk_frozen BK261.out 3
      go_wp2
      go_ret
      exact ⟨_, by first | rfl | (simp [errW_none, errW_some] <;> rfl) | (simp [*, errW_none, errW_some] <;> rfl), by (with_reducible repeat (first | apply ra | apply rb | apply rc)); exact HO_3.out, by repeat (first | (with_reducible first | exact HB.out | apply below_alloc | apply pw_below_drewN | apply below_drew1 | refine below_set ?_ GE261.out) | exact HB.out)⟩
     ·rw [if_neg c18] at H
      have c18b0 : (a0_1.toList == ([] : List UInt8)) = false := beq_eq_false_iff_ne.mpr c18
      have c18e0 : (a0_1).toList.isEmpty = false := by cases h_ : (a0_1).toList with | nil => (first | rfl | (rw [h_] at c18b0; cases c18b0)) | cons => (first | rfl | (rw [h_] at c18b0; cases c18b0))
      have c18e1 : (!(a0_1).toList.isEmpty) = true := by rw [c18e0]; rfl
      have c18e2 : ¬ ((!(a0_1).toList.isEmpty) = false) := by rw [c18e1]; decide
      have c18b1 : (a0_1.toList != ([] : List UInt8)) = true := bne_iff_ne.mpr c18
      obtain ⟨y274, hy274⟩ : ∃ y_ : List ByteArray, y_ = (([(⟨#[107, 101, 121]⟩ : ByteArray)] : List ByteArray)) := ⟨_, rfl⟩
      replace H : (if x3_1.length + y274.length < 8796093022208 then ((some (x3_1 ++ y274 : List ByteArray)).bind fun y277 => ((some (([a0_1] : List ByteArray) : List ByteArray)).bind fun y280 => (if y277.length + y280.length < 8796093022208 then (some (y277 ++ y280)) else (none)))) else (none)) = some r := by first | (rw [hy274]; with_reducible exact H) | (have H2_ := (Option.bind_some _ _).symm.trans H; rw [hy274]; with_reducible exact H2_) | (have H2_ := (Option.bind_some _ _).symm.trans H; with_reducible exact H2_) | with_reducible exact H | (rw [hy274]; exact H) | exact H
      have Ny274 := Aside0.mk hy274
      clear hy274
      by_cases c20 : x3_1.length + y274.length < 8796093022208
      ·rw [if_pos c20] at H
       have LMc20 := Aside0.mk c20
       clear c20
       obtain ⟨y277, hy277⟩ : ∃ y_ : List ByteArray, y_ = (x3_1 ++ y274) := ⟨_, rfl⟩
       replace H : ((some (([a0_1] : List ByteArray) : List ByteArray)).bind fun y280 => (if y277.length + y280.length < 8796093022208 then (some (y277 ++ y280)) else (none))) = some r := by first | (rw [hy277]; with_reducible exact H) | (have H2_ := (Option.bind_some _ _).symm.trans H; rw [hy277]; with_reducible exact H2_) | (have H2_ := (Option.bind_some _ _).symm.trans H; with_reducible exact H2_) | with_reducible exact H | (rw [hy277]; exact H) | exact H
       have Ny277 := Aside0.mk hy277
       clear hy277
       obtain ⟨y280, hy280⟩ : ∃ y_ : List ByteArray, y_ = (([a0_1] : List ByteArray)) := ⟨_, rfl⟩
       replace H : (if y277.length + y280.length < 8796093022208 then (some (y277 ++ y280)) else (none)) = some r := by first | (rw [hy280]; with_reducible exact H) | (have H2_ := (Option.bind_some _ _).symm.trans H; rw [hy280]; with_reducible exact H2_) | (have H2_ := (Option.bind_some _ _).symm.trans H; with_reducible exact H2_) | with_reducible exact H | (rw [hy280]; exact H) | exact H
       have Ny280 := Aside0.mk hy280
       clear hy280
       by_cases c21 : y277.length + y280.length < 8796093022208
       ·rw [if_pos c21] at H
        have LMc21 := Aside0.mk c21
        clear c21
        obtain ⟨y283, hy283⟩ : ∃ y_ : List ByteArray, y_ = (y277 ++ y280) := ⟨_, rfl⟩
        replace H : (some y283) = some r := by first | (rw [hy283]; with_reducible exact H) | (have H2_ := (Option.bind_some _ _).symm.trans H; rw [hy283]; with_reducible exact H2_) | (have H2_ := (Option.bind_some _ _).symm.trans H; with_reducible exact H2_) | with_reducible exact H | (rw [hy283]; exact H) | exact H
        have Ny283 := Aside0.mk hy283
        clear hy283
        obtain rfl := Option.some.inj H
        have hcz22_0 : wr.cell? ⟨gb261, 0, none⟩ = some (.int .i64 a0_0) := (blk_cell BK261.out 0).trans rfl
        have hcz22_1 : wr.cell? ⟨gb261, 1, none⟩ = some (.string a0_1) := (blk_cell BK261.out 1).trans rfl
        have hcz22_2 : wr.cell? ⟨gb261, 2, none⟩ = some (.string a0_2) := (blk_cell BK261.out 2).trans rfl
        have hcz22_3 : wr.cell? ⟨gb261, 3, none⟩ = some (.slice A0_3 l0_3.length c0_3) := (blk_cell BK261.out 3).trans rfl
        have hfz22_0 := blk_frozen BK261.out 0
        have hfz22_1 := blk_frozen BK261.out 1
        have hfz22_2 := blk_frozen BK261.out 2
        have hfz22_3 := blk_frozen BK261.out 3
        obtain ⟨Ao23, co23, eo23⟩ := Kd.R_slice HO_3.out
        subst eo23
        try go_wp2
        have n0_ := Aside0.mk (Kd.R_drew HO_3.out)
        have n1_ := Aside0.mk (blk_drew BK261.out)
        have n2_ := Aside0.mk (below_drew1 HB.out)
        clear HO_3
        clear BK261
        clear HB
        have HO_3 := n0_
        have BK261 := n1_
        have HB := n2_
        clear n0_ n1_ n2_
        refine start_ (n := 8) (S := fun w' => w'.cell? ⟨gb261, 0, none⟩ = some (.int .i64 a0_0) ∧ w'.cell? ⟨gb261, 1, none⟩ = some (.string a0_1) ∧ w'.cell? ⟨gb261, 2, none⟩ = some (.string a0_2) ∧ w'.cell? ⟨gb261, 3, none⟩ = some (.slice A0_3 l0_3.length c0_3)) (ds := []) #[false, false, false, false, false, false, false, false] (by kernel_rfl) rfl rfl ⟨(blk_cell BK261.out 0).trans rfl, (blk_cell BK261.out 1).trans rfl, (blk_cell BK261.out 2).trans rfl, (blk_cell BK261.out 3).trans rfl⟩ (fun hHeld => ?_); refine with_tabW prebendref27_Words.tab9 prebendref27_Words.bits9 (fun HT_ HW_ => ?_)
        generalize wr.drew = w24 at HO_3 BK261 HB hHeld ⊢
        refine pure_ (i := 0) (N := some 38) (v := ?_) (a' := ?_) #[true, false, false, false, false, false, false, false] rfl rfl (any_of HT_.out (by kernel_rfl)) (fun _ _ _ h => h) (Or.inl ⟨by rfl, ?_⟩) ?_ ?_
        rotate_left
        ·intro w'
         go_simp
         with_reducible rfl
        rotate_left
        ·simp only [Act.put, List.setIfInBounds_toArray, List.set_cons_zero, List.set_cons_succ, i64_w, i32_w]
         rfl
        refine pure_ (i := 3) (N := some 41) (v := ?_) (a' := ?_) #[true, false, false, true, false, false, false, false] rfl rfl (any_of HT_.out (by kernel_rfl)) (fun _ _ _ h => h) (Or.inl ⟨by rfl, ?_⟩) ?_ ?_
        rotate_left
        ·intro w'
         go_simp
         with_reducible rfl
        rotate_left
        ·simp only [Act.put, List.setIfInBounds_toArray, List.set_cons_zero, List.set_cons_succ, i64_w, i32_w]
         rfl
        refine take_ (i := 4) (N := some 42) (v := ?_) (a' := ?_) #[true, false, false, true, true, false, false, false] rfl rfl (take_ofW HT_.out HW_.out (by kernel_rfl)) (fun _ _ _ h => h) (Or.inl ⟨by rfl, ?_⟩) hHeld ?_ ?_
        rotate_left
        ·rintro w' ⟨s0, s1, s2, s3⟩
         go_simp
         with_reducible rfl
        rotate_left
        ·simp only [Act.put, List.setIfInBounds_toArray, List.set_cons_zero, List.set_cons_succ, i64_w, i32_w]
         rfl
        refine join_ (σ := Value × Value × Value) 2 #[true, true, true, true, true, true, false, false] (fun s_ => [(39, s_.1), (40, s_.2.1), (43, s_.2.2)]) (fun s_ w' => (w'.cell? ⟨gb261, 0, none⟩ = some (.int .i64 a0_0) ∧ w'.cell? ⟨gb261, 1, none⟩ = some (.string a0_1) ∧ w'.cell? ⟨gb261, 2, none⟩ = some (.string a0_2) ∧ w'.cell? ⟨gb261, 3, none⟩ = some (.slice A0_3 l0_3.length c0_3)) ∧ (Kd.R Kd.string 9 w' w.heap.size (fun k_ => some k_ ≠ (s_.2.1 : Value).ownBlock ∧ some k_ ≠ (s_.2.2 : Value).ownBlock) s_.1 y274) ∧ (Kd.R Kd.string 9 w' w.heap.size (fun k_ => some k_ ≠ (s_.1 : Value).ownBlock ∧ some k_ ≠ (s_.2.2 : Value).ownBlock) s_.2.1 y277) ∧ (Kd.R Kd.string 9 w' w.heap.size (fun k_ => some k_ ≠ (s_.1 : Value).ownBlock ∧ some k_ ≠ (s_.2.1 : Value).ownBlock) s_.2.2 y280) ∧ (w'.heap[gb261]? = some (.cells #[.int .i64 a0_0, .string a0_1, .string a0_2, .slice A0_3 l0_3.length c0_3] 24 (0, 0))) ∧ (Below w.heap.size w w')) ?_ ?_
        rotate_left
        ·intro hCont
         refine two_ (i := 1) (j := 5) (Ni := some 39) (Nj := some 43) #[true, true, false, true, true, false, false, false] #[true, false, false, true, true, true, false, false] rfl rfl rfl rfl (two_of HT_.out (by kernel_rfl)) (by decide) (by decide) (fun K hK => ?_) (fun K hK => ?_)
         ·skip
          refine Kd.R_lit_step Kd.string _ 9 ?hg (N := 39) ?hd (xs := ([(⟨#[107, 101, 121]⟩ : ByteArray)] : List ByteArray)) (inner := [.string (⟨#[107, 101, 121]⟩ : ByteArray)]) (ok := fun _ => True) (okp := fun _ => True) ?hr ?hp (fun _ hk => hk) trivial (Below.refl _ _) (Nat.le_refl _) (by simp) ?_; (case hd => rfl); (case hg => rfl); (case hr => first | (go_simp; done) | (go_simp; rfl)); (case hp => exact (Reps.one (show Kd.M Kd.string _ _ _ (⟨#[107, 101, 121]⟩ : ByteArray) [.string (⟨#[107, 101, 121]⟩ : ByteArray)] from rfl) (Reps.none _ _)))
          intro v275 w25 ho26 hb hg_ hnew_
          clear hg_ hnew_
          (first | rw [← Ny274.out] at ho26 | (simp only [Int.reduceToNat] at ho26; rw [← Ny274.out] at ho26))
          have n0_ := Aside0.mk (Kd.R_elder' (by (with_reducible repeat (first | apply ra | apply rb | apply rc)); exact HO_3.out) (Kd.R_base ho26) hb)
          have n1_ := Aside0.mk (Kd.R_lower (Kd.R_new' ho26 (Kd.R_lt (by (with_reducible repeat (first | apply ra | apply rb | apply rc)); exact HO_3.out))) (below_size (by repeat (first | (with_reducible first | exact HB.out | apply below_alloc | apply pw_below_drewN | apply below_drew1 | refine below_set ?_ GE261.out) | exact HB.out))))
          have n2_ := Aside0.mk (blk_below (g := gb261) (o := .cells #[.int .i64 a0_0, .string a0_1, .string a0_2, .slice A0_3 l0_3.length c0_3] 24 (0, 0)) (by (with_reducible repeat (first | refine kc ?_ _ | refine kb ?_ | refine ka ?_ _)); exact BK261.out) hb)
          have n3_ := Aside0.mk (below_step (by repeat (first | (with_reducible first | exact HB.out | apply below_alloc | apply pw_below_drewN | apply below_drew1 | refine below_set ?_ GE261.out) | exact HB.out)) hb)
          clear HO_3
          clear BK261
          clear HB
          have HO_3 := n0_
          have HO276 := n1_
          have BK261 := n2_
          have HB := n3_
          clear n0_ n1_ n2_ n3_
          clear hb ho26
          obtain ⟨Ao28, co28, eo28⟩ := Kd.R_slice HO276.out
          (first | subst eo28 | (injection eo28 with f1_ f2_ f3_; have f4_ := f1_.symm; have f5_ := f3_.symm; clear f1_ f2_ f3_; subst f4_; subst f5_))
          refine hK.out _ _ ⟨(blk_cell BK261.out 0).trans rfl, (blk_cell BK261.out 1).trans rfl, (blk_cell BK261.out 2).trans rfl, (blk_cell BK261.out 3).trans rfl⟩ (fun hHeld => ?_)
          clear hK K
          refine norm_ (a' := ?_) ?_ ?_
          rotate_left
          ·show Act.put _ (some 39) _ = _
           simp only [Act.put, List.setIfInBounds_toArray, List.set_cons_zero, List.set_cons_succ, i64_w, i32_w]
           rfl
          refine two_ (i := 2) (j := 5) (Ni := some 40) (Nj := some 43) #[true, true, true, true, true, false, false, false] #[true, true, false, true, true, true, false, false] rfl rfl rfl rfl (two_of HT_.out (by kernel_rfl)) (by decide) (by decide) (fun K hK => ?_) (fun K hK => ?_)
          ·skip
           refine Kd.R_append_rows_step Kd.string (w0 := w) w.heap.size (by rfl) (.tmp 38) (.tmp 39) 45 9 (.string ⟨#[]⟩) 16 rfl Tryd.underlying45 info9 rfl (by decide) (by omega) (.slice Ao23 x3_1.length co23) x3_1 y274 _ _ _ (fun k_ => some k_ ≠ (.slice Ao28 y274.length co28 : Value).ownBlock) (fun _ => False) rfl rfl ?aO ?aR (fun _ _ h => h) (fun _ h => h.elim) ?aF ?aB ?aS ?aL ?_
           (case aR => repeat (first | exact (Kd.R_reads' HO276.out).2.2 | (with_reducible refine Kd.C_alloc ?_ _) | (with_reducible refine Kd.C_drewN ?_ _) | (with_reducible refine Kd.C_drew ?_)))
           (case aB => exact (by repeat (first | (with_reducible first | exact HB.out | apply below_alloc | apply pw_below_drewN | apply below_drew1 | refine below_set ?_ GE261.out) | exact HB.out)))
           (case aF => exact (fun k_ hk => Kd.fresh' (Kd.R_lt (by (with_reducible repeat (first | apply ra | apply rb | apply rc)); exact HO276.out)) k_ hk))
           (case aO => exact (by (with_reducible repeat (first | apply ra | apply rb | apply rc)); exact Kd.R_mono HO_3.out (fun _ hk => hk.2)))
           (case aS => exact (below_size (by repeat (first | (with_reducible first | exact HB.out | apply below_alloc | apply pw_below_drewN | apply below_drew1 | refine below_set ?_ GE261.out) | exact HB.out))))
           (case aL => have := LMc20.out; omega)
           intro v278 w27 ho hb hg hat
           rw [← Ny277.out] at ho
           have n0_ := Aside0.mk (blk_grown (g := gb261) (o := .cells #[.int .i64 a0_0, .string a0_1, .string a0_2, .slice A0_3 l0_3.length c0_3] 24 (0, 0)) (by (with_reducible repeat (first | refine kc ?_ _ | refine kb ?_ | refine ka ?_ _)); exact BK261.out) hg (Kd.R_ne HO_3.out BK261.out (by decide)))
           have n1_ := Aside0.mk (Kd.R_after (ok := (fun _ => True)) (by (with_reducible repeat (first | apply ra | apply rb | apply rc)); exact HO276.out) hg hat)
           have n2_ := Aside0.mk (hb)
           have n3_ := Aside0.mk (ho)
           clear BK261
           clear HO276
           clear HB
           clear HO_3
           have BK261 := n0_
           have HO276 := n1_
           have HB := n2_
           have HO279 := n3_
           clear n0_ n1_ n2_ n3_
           clear ho hb hg hat
           refine hK.out _ _ ⟨(blk_cell BK261.out 0).trans rfl, (blk_cell BK261.out 1).trans rfl, (blk_cell BK261.out 2).trans rfl, (blk_cell BK261.out 3).trans rfl⟩ (fun hHeld => ?_)
           clear hK K
           refine norm_ (a' := ?_) ?_ ?_
           rotate_left
           ·show Act.put _ (some 40) _ = _
            simp only [Act.put, List.setIfInBounds_toArray, List.set_cons_zero, List.set_cons_succ, i64_w, i32_w]
            rfl
           refine one_ (i := 5) (N := some 43) #[true, true, true, true, true, true, false, false] rfl rfl (one_of HT_.out (by kernel_rfl)) (by decide) (fun K hK => ?_)
           refine Kd.R_lit_step Kd.string _ 9 ?hg (N := 43) ?hd (xs := ([a0_1] : List ByteArray)) (inner := [.string a0_1]) (ok := fun _ => True) (okp := fun _ => True) ?hr ?hp (fun _ hk => hk) trivial (Below.refl _ _) (Nat.le_refl _) (by simp) ?_; (case hd => rfl); (case hg => rfl); (case hr => first | (go_simp; done) | (go_simp; rfl)); (case hp => exact (Reps.one (show Kd.M Kd.string _ _ _ a0_1 [.string a0_1] from rfl) (Reps.none _ _)))
           intro v281 w29 ho30 hb hg_ hnew_
           clear hg_ hnew_
           (first | rw [← Ny280.out] at ho30 | (simp only [Int.reduceToNat] at ho30; rw [← Ny280.out] at ho30))
           have n0_ := Aside0.mk (Kd.R_elder' (by (with_reducible repeat (first | apply ra | apply rb | apply rc)); exact HO276.out) (Kd.R_base ho30) hb)
           have n1_ := Aside0.mk (Kd.R_elder' (by (with_reducible repeat (first | apply ra | apply rb | apply rc)); exact HO279.out) (Kd.R_base ho30) hb)
           have n2_ := Aside0.mk (Kd.R_lower (Kd.R_new' (Kd.R_new' ho30 (Kd.R_lt (by (with_reducible repeat (first | apply ra | apply rb | apply rc)); exact HO276.out))) (Kd.R_lt (by (with_reducible repeat (first | apply ra | apply rb | apply rc)); exact HO279.out))) (below_size (by repeat (first | (with_reducible first | exact HB.out | apply below_alloc | apply pw_below_drewN | apply below_drew1 | refine below_set ?_ GE261.out) | exact HB.out))))
           have n3_ := Aside0.mk (blk_below (g := gb261) (o := .cells #[.int .i64 a0_0, .string a0_1, .string a0_2, .slice A0_3 l0_3.length c0_3] 24 (0, 0)) (by (with_reducible repeat (first | refine kc ?_ _ | refine kb ?_ | refine ka ?_ _)); exact BK261.out) hb)
           have n4_ := Aside0.mk (below_step (by repeat (first | (with_reducible first | exact HB.out | apply below_alloc | apply pw_below_drewN | apply below_drew1 | refine below_set ?_ GE261.out) | exact HB.out)) hb)
           clear HO276
           clear HO279
           clear BK261
           clear HB
           have HO276 := n0_
           have HO279 := n1_
           have HO282 := n2_
           have BK261 := n3_
           have HB := n4_
           clear n0_ n1_ n2_ n3_ n4_
           clear hb ho30
           refine hK.out _ _ ⟨(blk_cell BK261.out 0).trans rfl, (blk_cell BK261.out 1).trans rfl, (blk_cell BK261.out 2).trans rfl, (blk_cell BK261.out 3).trans rfl⟩ (fun hHeld => ?_)
           clear hK K
           refine norm_ (a' := ?_) ?_ ?_
           rotate_left
           ·show Act.put _ (some 43) _ = _
            simp only [Act.put, List.setIfInBounds_toArray, List.set_cons_zero, List.set_cons_succ, i64_w, i32_w]
            rfl
           exact norm_ (by simp only [putAll, Act.put, List.setIfInBounds_toArray, List.set_cons_zero, List.set_cons_succ]) (hCont (.slice Ao28 y274.length co28, v278, v281) _ ⟨hHeld, (by (with_reducible repeat (first | apply ra | apply rb | apply rc)); exact Kd.R_mono HO276.out (fun _ hk => ⟨hk.1.2, hk.2⟩)), (by (with_reducible repeat (first | apply ra | apply rb | apply rc)); exact HO279.out), (by (with_reducible repeat (first | apply ra | apply rb | apply rc)); exact Kd.R_mono HO282.out (fun _ hk => ⟨hk.1.2, hk.2⟩)), (by (with_reducible repeat (first | refine kc ?_ _ | refine kb ?_ | refine ka ?_ _)); exact BK261.out), (by repeat (first | (with_reducible first | exact HB.out | apply below_alloc | apply pw_below_drewN | apply below_drew1 | refine below_set ?_ GE261.out) | exact HB.out))⟩)
          ·skip
           refine Kd.R_lit_step Kd.string _ 9 ?hg (N := 43) ?hd (xs := ([a0_1] : List ByteArray)) (inner := [.string a0_1]) (ok := fun _ => True) (okp := fun _ => True) ?hr ?hp (fun _ hk => hk) trivial (Below.refl _ _) (Nat.le_refl _) (by simp) ?_; (case hd => rfl); (case hg => rfl); (case hr => first | (go_simp; done) | (go_simp; rfl)); (case hp => exact (Reps.one (show Kd.M Kd.string _ _ _ a0_1 [.string a0_1] from rfl) (Reps.none _ _)))
           intro v281 w27 ho28 hb hg_ hnew_
           clear hg_ hnew_
           (first | rw [← Ny280.out] at ho28 | (simp only [Int.reduceToNat] at ho28; rw [← Ny280.out] at ho28))
           have n0_ := Aside0.mk (Kd.R_elder' (by (with_reducible repeat (first | apply ra | apply rb | apply rc)); exact HO_3.out) (Kd.R_base ho28) hb)
           have n1_ := Aside0.mk (Kd.R_elder' (by (with_reducible repeat (first | apply ra | apply rb | apply rc)); exact HO276.out) (Kd.R_base ho28) hb)
           have n2_ := Aside0.mk (Kd.R_lower (Kd.R_new' (Kd.R_new' ho28 (Kd.R_lt (by (with_reducible repeat (first | apply ra | apply rb | apply rc)); exact HO_3.out))) (Kd.R_lt (by (with_reducible repeat (first | apply ra | apply rb | apply rc)); exact HO276.out))) (below_size (by repeat (first | (with_reducible first | exact HB.out | apply below_alloc | apply pw_below_drewN | apply below_drew1 | refine below_set ?_ GE261.out) | exact HB.out))))
           have n3_ := Aside0.mk (blk_below (g := gb261) (o := .cells #[.int .i64 a0_0, .string a0_1, .string a0_2, .slice A0_3 l0_3.length c0_3] 24 (0, 0)) (by (with_reducible repeat (first | refine kc ?_ _ | refine kb ?_ | refine ka ?_ _)); exact BK261.out) hb)
           have n4_ := Aside0.mk (below_step (by repeat (first | (with_reducible first | exact HB.out | apply below_alloc | apply pw_below_drewN | apply below_drew1 | refine below_set ?_ GE261.out) | exact HB.out)) hb)
           clear HO_3
           clear HO276
           clear BK261
           clear HB
           have HO_3 := n0_
           have HO276 := n1_
           have HO282 := n2_
           have BK261 := n3_
           have HB := n4_
           clear n0_ n1_ n2_ n3_ n4_
           clear hb ho28
           obtain ⟨Ao30, co30, eo30⟩ := Kd.R_slice HO276.out
           (first | subst eo30 | (injection eo30 with f1_ f2_ f3_; have f4_ := f1_.symm; have f5_ := f3_.symm; clear f1_ f2_ f3_; subst f4_; subst f5_))
           refine hK.out _ _ ⟨(blk_cell BK261.out 0).trans rfl, (blk_cell BK261.out 1).trans rfl, (blk_cell BK261.out 2).trans rfl, (blk_cell BK261.out 3).trans rfl⟩ (fun hHeld => ?_)
           clear hK K
           refine norm_ (a' := ?_) ?_ ?_
           rotate_left
           ·show Act.put _ (some 43) _ = _
            simp only [Act.put, List.setIfInBounds_toArray, List.set_cons_zero, List.set_cons_succ, i64_w, i32_w]
            rfl
           refine one_ (i := 2) (N := some 40) #[true, true, true, true, true, true, false, false] rfl rfl (one_of HT_.out (by kernel_rfl)) (by decide) (fun K hK => ?_)
           refine Kd.R_append_rows_step Kd.string (w0 := w) w.heap.size (by rfl) (.tmp 38) (.tmp 39) 45 9 (.string ⟨#[]⟩) 16 rfl Tryd.underlying45 info9 rfl (by decide) (by omega) (.slice Ao23 x3_1.length co23) x3_1 y274 _ _ _ (fun k_ => some k_ ≠ (.slice Ao30 y274.length co30 : Value).ownBlock ∧ some k_ ≠ (v281 : Value).ownBlock) (fun _ => False) rfl rfl ?aO ?aR (fun _ _ h => h) (fun _ h => h.elim) ?aF ?aB ?aS ?aL ?_
           (case aR => repeat (first | exact (Kd.R_reads' HO276.out).2.2 | (with_reducible refine Kd.C_alloc ?_ _) | (with_reducible refine Kd.C_drewN ?_ _) | (with_reducible refine Kd.C_drew ?_)))
           (case aB => exact (by repeat (first | (with_reducible first | exact HB.out | apply below_alloc | apply pw_below_drewN | apply below_drew1 | refine below_set ?_ GE261.out) | exact HB.out)))
           (case aF => exact (fun k_ hk => ⟨Kd.fresh' (Kd.R_lt (by (with_reducible repeat (first | apply ra | apply rb | apply rc)); exact HO276.out)) k_ hk, Kd.fresh' (Kd.R_lt (by (with_reducible repeat (first | apply ra | apply rb | apply rc)); exact HO282.out)) k_ hk⟩))
           (case aO => exact (by (with_reducible repeat (first | apply ra | apply rb | apply rc)); exact Kd.R_mono HO_3.out (fun _ hk => ⟨hk.1.2, hk.2⟩)))
           (case aS => exact (below_size (by repeat (first | (with_reducible first | exact HB.out | apply below_alloc | apply pw_below_drewN | apply below_drew1 | refine below_set ?_ GE261.out) | exact HB.out))))
           (case aL => have := LMc20.out; omega)
           intro v278 w29 ho hb hg hat
           rw [← Ny277.out] at ho
           have n0_ := Aside0.mk (blk_grown (g := gb261) (o := .cells #[.int .i64 a0_0, .string a0_1, .string a0_2, .slice A0_3 l0_3.length c0_3] 24 (0, 0)) (by (with_reducible repeat (first | refine kc ?_ _ | refine kb ?_ | refine ka ?_ _)); exact BK261.out) hg (Kd.R_ne HO_3.out BK261.out (by decide)))
           have n1_ := Aside0.mk (Kd.R_after (ok := (fun k_ => some k_ ≠ (v281 : Value).ownBlock)) (by (with_reducible repeat (first | apply ra | apply rb | apply rc)); exact Kd.R_mono HO276.out (fun _ hk => ⟨hk.2, hk.1.2⟩)) hg hat)
           have n2_ := Aside0.mk (Kd.R_after (ok := (fun k_ => some k_ ≠ (.slice Ao30 y274.length co30 : Value).ownBlock)) (by (with_reducible repeat (first | apply ra | apply rb | apply rc)); exact Kd.R_mono HO282.out (fun _ hk => ⟨hk.2, hk.1.2⟩)) hg hat)
           have n3_ := Aside0.mk (hb)
           have n4_ := Aside0.mk (ho)
           clear BK261
           clear HO276
           clear HO282
           clear HB
           clear HO_3
           have BK261 := n0_
           have HO276 := n1_
           have HO282 := n2_
           have HB := n3_
           have HO279 := n4_
           clear n0_ n1_ n2_ n3_ n4_
           clear ho hb hg hat
           refine hK.out _ _ ⟨(blk_cell BK261.out 0).trans rfl, (blk_cell BK261.out 1).trans rfl, (blk_cell BK261.out 2).trans rfl, (blk_cell BK261.out 3).trans rfl⟩ (fun hHeld => ?_)
           clear hK K
           refine norm_ (a' := ?_) ?_ ?_
           rotate_left
           ·show Act.put _ (some 40) _ = _
            simp only [Act.put, List.setIfInBounds_toArray, List.set_cons_zero, List.set_cons_succ, i64_w, i32_w]
            rfl
           exact norm_ (by simp only [putAll, Act.put, List.setIfInBounds_toArray, List.set_cons_zero, List.set_cons_succ]) (hCont (.slice Ao30 y274.length co30, v278, v281) _ ⟨hHeld, (by (with_reducible repeat (first | apply ra | apply rb | apply rc)); exact Kd.R_mono HO276.out (fun _ hk => ⟨hk.2, hk.1⟩)), (by (with_reducible repeat (first | apply ra | apply rb | apply rc)); exact HO279.out), (by (with_reducible repeat (first | apply ra | apply rb | apply rc)); exact HO282.out), (by (with_reducible repeat (first | refine kc ?_ _ | refine kb ?_ | refine ka ?_ _)); exact BK261.out), (by repeat (first | (with_reducible first | exact HB.out | apply below_alloc | apply pw_below_drewN | apply below_drew1 | refine below_set ?_ GE261.out) | exact HB.out))⟩)
         ·skip
          refine Kd.R_lit_step Kd.string _ 9 ?hg (N := 43) ?hd (xs := ([a0_1] : List ByteArray)) (inner := [.string a0_1]) (ok := fun _ => True) (okp := fun _ => True) ?hr ?hp (fun _ hk => hk) trivial (Below.refl _ _) (Nat.le_refl _) (by simp) ?_; (case hd => rfl); (case hg => rfl); (case hr => first | (go_simp; done) | (go_simp; rfl)); (case hp => exact (Reps.one (show Kd.M Kd.string _ _ _ a0_1 [.string a0_1] from rfl) (Reps.none _ _)))
          intro v281 w25 ho26 hb hg_ hnew_
          clear hg_ hnew_
          (first | rw [← Ny280.out] at ho26 | (simp only [Int.reduceToNat] at ho26; rw [← Ny280.out] at ho26))
          have n0_ := Aside0.mk (Kd.R_elder' (by (with_reducible repeat (first | apply ra | apply rb | apply rc)); exact HO_3.out) (Kd.R_base ho26) hb)
          have n1_ := Aside0.mk (Kd.R_lower (Kd.R_new' ho26 (Kd.R_lt (by (with_reducible repeat (first | apply ra | apply rb | apply rc)); exact HO_3.out))) (below_size (by repeat (first | (with_reducible first | exact HB.out | apply below_alloc | apply pw_below_drewN | apply below_drew1 | refine below_set ?_ GE261.out) | exact HB.out))))
          have n2_ := Aside0.mk (blk_below (g := gb261) (o := .cells #[.int .i64 a0_0, .string a0_1, .string a0_2, .slice A0_3 l0_3.length c0_3] 24 (0, 0)) (by (with_reducible repeat (first | refine kc ?_ _ | refine kb ?_ | refine ka ?_ _)); exact BK261.out) hb)
          have n3_ := Aside0.mk (below_step (by repeat (first | (with_reducible first | exact HB.out | apply below_alloc | apply pw_below_drewN | apply below_drew1 | refine below_set ?_ GE261.out) | exact HB.out)) hb)
          clear HO_3
          clear BK261
          clear HB
          have HO_3 := n0_
          have HO282 := n1_
          have BK261 := n2_
          have HB := n3_
          clear n0_ n1_ n2_ n3_
          clear hb ho26
          refine hK.out _ _ ⟨(blk_cell BK261.out 0).trans rfl, (blk_cell BK261.out 1).trans rfl, (blk_cell BK261.out 2).trans rfl, (blk_cell BK261.out 3).trans rfl⟩ (fun hHeld => ?_)
          clear hK K
          refine norm_ (a' := ?_) ?_ ?_
          rotate_left
          ·show Act.put _ (some 43) _ = _
           simp only [Act.put, List.setIfInBounds_toArray, List.set_cons_zero, List.set_cons_succ, i64_w, i32_w]
           rfl
          refine one_ (i := 1) (N := some 39) #[true, true, false, true, true, true, false, false] rfl rfl (one_of HT_.out (by kernel_rfl)) (by decide) (fun K hK => ?_)
          refine Kd.R_lit_step Kd.string _ 9 ?hg (N := 39) ?hd (xs := ([(⟨#[107, 101, 121]⟩ : ByteArray)] : List ByteArray)) (inner := [.string (⟨#[107, 101, 121]⟩ : ByteArray)]) (ok := fun _ => True) (okp := fun _ => True) ?hr ?hp (fun _ hk => hk) trivial (Below.refl _ _) (Nat.le_refl _) (by simp) ?_; (case hd => rfl); (case hg => rfl); (case hr => first | (go_simp; done) | (go_simp; rfl)); (case hp => exact (Reps.one (show Kd.M Kd.string _ _ _ (⟨#[107, 101, 121]⟩ : ByteArray) [.string (⟨#[107, 101, 121]⟩ : ByteArray)] from rfl) (Reps.none _ _)))
          intro v275 w27 ho28 hb hg_ hnew_
          clear hg_ hnew_
          (first | rw [← Ny274.out] at ho28 | (simp only [Int.reduceToNat] at ho28; rw [← Ny274.out] at ho28))
          have n0_ := Aside0.mk (Kd.R_elder' (by (with_reducible repeat (first | apply ra | apply rb | apply rc)); exact HO_3.out) (Kd.R_base ho28) hb)
          have n1_ := Aside0.mk (Kd.R_elder' (by (with_reducible repeat (first | apply ra | apply rb | apply rc)); exact HO282.out) (Kd.R_base ho28) hb)
          have n2_ := Aside0.mk (Kd.R_lower (Kd.R_new' (Kd.R_new' ho28 (Kd.R_lt (by (with_reducible repeat (first | apply ra | apply rb | apply rc)); exact HO_3.out))) (Kd.R_lt (by (with_reducible repeat (first | apply ra | apply rb | apply rc)); exact HO282.out))) (below_size (by repeat (first | (with_reducible first | exact HB.out | apply below_alloc | apply pw_below_drewN | apply below_drew1 | refine below_set ?_ GE261.out) | exact HB.out))))
          have n3_ := Aside0.mk (blk_below (g := gb261) (o := .cells #[.int .i64 a0_0, .string a0_1, .string a0_2, .slice A0_3 l0_3.length c0_3] 24 (0, 0)) (by (with_reducible repeat (first | refine kc ?_ _ | refine kb ?_ | refine ka ?_ _)); exact BK261.out) hb)
          have n4_ := Aside0.mk (below_step (by repeat (first | (with_reducible first | exact HB.out | apply below_alloc | apply pw_below_drewN | apply below_drew1 | refine below_set ?_ GE261.out) | exact HB.out)) hb)
          clear HO_3
          clear HO282
          clear BK261
          clear HB
          have HO_3 := n0_
          have HO282 := n1_
          have HO276 := n2_
          have BK261 := n3_
          have HB := n4_
          clear n0_ n1_ n2_ n3_ n4_
          clear hb ho28
          obtain ⟨Ao30, co30, eo30⟩ := Kd.R_slice HO276.out
          (first | subst eo30 | (injection eo30 with f1_ f2_ f3_; have f4_ := f1_.symm; have f5_ := f3_.symm; clear f1_ f2_ f3_; subst f4_; subst f5_))
          refine hK.out _ _ ⟨(blk_cell BK261.out 0).trans rfl, (blk_cell BK261.out 1).trans rfl, (blk_cell BK261.out 2).trans rfl, (blk_cell BK261.out 3).trans rfl⟩ (fun hHeld => ?_)
          clear hK K
          refine norm_ (a' := ?_) ?_ ?_
          rotate_left
          ·show Act.put _ (some 39) _ = _
           simp only [Act.put, List.setIfInBounds_toArray, List.set_cons_zero, List.set_cons_succ, i64_w, i32_w]
           rfl
          refine one_ (i := 2) (N := some 40) #[true, true, true, true, true, true, false, false] rfl rfl (one_of HT_.out (by kernel_rfl)) (by decide) (fun K hK => ?_)
          refine Kd.R_append_rows_step Kd.string (w0 := w) w.heap.size (by rfl) (.tmp 38) (.tmp 39) 45 9 (.string ⟨#[]⟩) 16 rfl Tryd.underlying45 info9 rfl (by decide) (by omega) (.slice Ao23 x3_1.length co23) x3_1 y274 _ _ _ (fun k_ => some k_ ≠ (v281 : Value).ownBlock ∧ some k_ ≠ (.slice Ao30 y274.length co30 : Value).ownBlock) (fun _ => False) rfl rfl ?aO ?aR (fun _ _ h => h) (fun _ h => h.elim) ?aF ?aB ?aS ?aL ?_
          (case aR => repeat (first | exact (Kd.R_reads' HO276.out).2.2 | (with_reducible refine Kd.C_alloc ?_ _) | (with_reducible refine Kd.C_drewN ?_ _) | (with_reducible refine Kd.C_drew ?_)))
          (case aB => exact (by repeat (first | (with_reducible first | exact HB.out | apply below_alloc | apply pw_below_drewN | apply below_drew1 | refine below_set ?_ GE261.out) | exact HB.out)))
          (case aF => exact (fun k_ hk => ⟨Kd.fresh' (Kd.R_lt (by (with_reducible repeat (first | apply ra | apply rb | apply rc)); exact HO282.out)) k_ hk, Kd.fresh' (Kd.R_lt (by (with_reducible repeat (first | apply ra | apply rb | apply rc)); exact HO276.out)) k_ hk⟩))
          (case aO => exact (by (with_reducible repeat (first | apply ra | apply rb | apply rc)); exact Kd.R_mono HO_3.out (fun _ hk => ⟨hk.1.2, hk.2⟩)))
          (case aS => exact (below_size (by repeat (first | (with_reducible first | exact HB.out | apply below_alloc | apply pw_below_drewN | apply below_drew1 | refine below_set ?_ GE261.out) | exact HB.out))))
          (case aL => have := LMc20.out; omega)
          intro v278 w29 ho hb hg hat
          rw [← Ny277.out] at ho
          have n0_ := Aside0.mk (blk_grown (g := gb261) (o := .cells #[.int .i64 a0_0, .string a0_1, .string a0_2, .slice A0_3 l0_3.length c0_3] 24 (0, 0)) (by (with_reducible repeat (first | refine kc ?_ _ | refine kb ?_ | refine ka ?_ _)); exact BK261.out) hg (Kd.R_ne HO_3.out BK261.out (by decide)))
          have n1_ := Aside0.mk (Kd.R_after (ok := (fun k_ => some k_ ≠ (.slice Ao30 y274.length co30 : Value).ownBlock)) (by (with_reducible repeat (first | apply ra | apply rb | apply rc)); exact Kd.R_mono HO282.out (fun _ hk => ⟨hk.2, hk.1.2⟩)) hg hat)
          have n2_ := Aside0.mk (Kd.R_after (ok := (fun k_ => some k_ ≠ (v281 : Value).ownBlock)) (by (with_reducible repeat (first | apply ra | apply rb | apply rc)); exact Kd.R_mono HO276.out (fun _ hk => ⟨hk.2, hk.1.2⟩)) hg hat)
          have n3_ := Aside0.mk (hb)
          have n4_ := Aside0.mk (ho)
          clear BK261
          clear HO282
          clear HO276
          clear HB
          clear HO_3
          have BK261 := n0_
          have HO282 := n1_
          have HO276 := n2_
          have HB := n3_
          have HO279 := n4_
          clear n0_ n1_ n2_ n3_ n4_
          clear ho hb hg hat
          refine hK.out _ _ ⟨(blk_cell BK261.out 0).trans rfl, (blk_cell BK261.out 1).trans rfl, (blk_cell BK261.out 2).trans rfl, (blk_cell BK261.out 3).trans rfl⟩ (fun hHeld => ?_)
          clear hK K
          refine norm_ (a' := ?_) ?_ ?_
          rotate_left
          ·show Act.put _ (some 40) _ = _
           simp only [Act.put, List.setIfInBounds_toArray, List.set_cons_zero, List.set_cons_succ, i64_w, i32_w]
           rfl
          exact norm_ (by simp only [putAll, Act.put, List.setIfInBounds_toArray, List.set_cons_zero, List.set_cons_succ]) (hCont (.slice Ao30 y274.length co30, v278, v281) _ ⟨hHeld, (by (with_reducible repeat (first | apply ra | apply rb | apply rc)); exact Kd.R_mono HO276.out (fun _ hk => ⟨hk.2, hk.1⟩)), (by (with_reducible repeat (first | apply ra | apply rb | apply rc)); exact Kd.R_mono HO279.out (fun _ hk => ⟨hk.2, hk.1⟩)), (by (with_reducible repeat (first | apply ra | apply rb | apply rc)); exact HO282.out), (by (with_reducible repeat (first | refine kc ?_ _ | refine kb ?_ | refine ka ?_ _)); exact BK261.out), (by repeat (first | (with_reducible first | exact HB.out | apply below_alloc | apply pw_below_drewN | apply below_drew1 | refine below_set ?_ GE261.out) | exact HB.out))⟩)
        rintro ⟨v275, v278, v281⟩ w31 ⟨hS_, h0_, h1_, h2_, h3_, h4_⟩
        have n0_ : Aside0 (Kd.R Kd.string 9 w31 w.heap.size (fun k_ => some k_ ≠ (v278 : Value).ownBlock ∧ some k_ ≠ (v281 : Value).ownBlock) v275 y274) := ⟨h0_⟩
        have n1_ : Aside0 (Kd.R Kd.string 9 w31 w.heap.size (fun k_ => some k_ ≠ (v275 : Value).ownBlock ∧ some k_ ≠ (v281 : Value).ownBlock) v278 y277) := ⟨h1_⟩
        have n2_ : Aside0 (Kd.R Kd.string 9 w31 w.heap.size (fun k_ => some k_ ≠ (v275 : Value).ownBlock ∧ some k_ ≠ (v278 : Value).ownBlock) v281 y280) := ⟨h2_⟩
        have n3_ : Aside0 (w31.heap[gb261]? = some (.cells #[.int .i64 a0_0, .string a0_1, .string a0_2, .slice A0_3 l0_3.length c0_3] 24 (0, 0))) := ⟨h3_⟩
        have n4_ : Aside0 (Below w.heap.size w w31) := ⟨h4_⟩
        clear HO_3
        clear BK261
        clear HB
        clear h0_ h1_ h2_ h3_ h4_
        have HO276 := n0_
        have HO279 := n1_
        have HO282 := n2_
        have BK261 := n3_
        have HB := n4_
        clear n0_ n1_ n2_ n3_ n4_
        have hHeld : w31.cell? ⟨gb261, 0, none⟩ = some (.int .i64 a0_0) ∧ w31.cell? ⟨gb261, 1, none⟩ = some (.string a0_1) ∧ w31.cell? ⟨gb261, 2, none⟩ = some (.string a0_2) ∧ w31.cell? ⟨gb261, 3, none⟩ = some (.slice A0_3 l0_3.length c0_3) := hS_
        obtain ⟨Ao33, co33, eo33⟩ := Kd.R_slice HO282.out
        (first | subst eo33 | (injection eo33 with f1_ f2_ f3_; have f4_ := f1_.symm; have f5_ := f3_.symm; clear f1_ f2_ f3_; subst f4_; subst f5_))
        refine norm_ (a' := ?_) ?_ ?_
        rotate_left
        ·simp only [putAll, Act.put, List.setIfInBounds_toArray, List.set_cons_zero, List.set_cons_succ]
         rfl
        refine one_ (i := 6) (N := some 44) #[true, true, true, true, true, true, true, false] rfl rfl (one_of HT_.out (by kernel_rfl)) (by decide) (fun K hK => ?_)
        refine Kd.R_append_rows_step Kd.string (w0 := w) w.heap.size (by rfl) (.tmp 40) (.tmp 43) 45 9 (.string ⟨#[]⟩) 16 rfl Tryd.underlying45 info9 rfl (by decide) (by omega) v278 y277 y280 _ _ _ (fun k_ => some k_ ≠ (v275 : Value).ownBlock ∧ some k_ ≠ (.slice Ao33 y280.length co33 : Value).ownBlock) (fun _ => False) rfl rfl ?aO ?aR (fun _ _ h => h) (fun _ h => h.elim) ?aF ?aB ?aS ?aL ?_
        (case aR => repeat (first | exact (Kd.R_reads' HO282.out).2.2 | (with_reducible refine Kd.C_alloc ?_ _) | (with_reducible refine Kd.C_drewN ?_ _) | (with_reducible refine Kd.C_drew ?_)))
        (case aB => exact (by repeat (first | (with_reducible first | exact HB.out | apply below_alloc | apply pw_below_drewN | apply below_drew1 | refine below_set ?_ GE261.out) | exact HB.out)))
        (case aF => exact (fun k_ hk => ⟨Kd.fresh' (Kd.R_lt (by (with_reducible repeat (first | apply ra | apply rb | apply rc)); exact HO276.out)) k_ hk, Kd.fresh' (Kd.R_lt (by (with_reducible repeat (first | apply ra | apply rb | apply rc)); exact HO282.out)) k_ hk⟩))
        (case aO => exact (by (with_reducible repeat (first | apply ra | apply rb | apply rc)); exact HO279.out))
        (case aS => exact (below_size (by repeat (first | (with_reducible first | exact HB.out | apply below_alloc | apply pw_below_drewN | apply below_drew1 | refine below_set ?_ GE261.out) | exact HB.out))))
        (case aL => have := LMc21.out; omega)
        intro v284 w32 ho hb hg hat
        rw [← Ny283.out] at ho
        have n0_ := Aside0.mk (blk_grown (g := gb261) (o := .cells #[.int .i64 a0_0, .string a0_1, .string a0_2, .slice A0_3 l0_3.length c0_3] 24 (0, 0)) (by (with_reducible repeat (first | refine kc ?_ _ | refine kb ?_ | refine ka ?_ _)); exact BK261.out) hg (Kd.R_ne HO279.out BK261.out (by decide)))
        have n1_ := Aside0.mk (Kd.R_after (ok := (fun k_ => some k_ ≠ (.slice Ao33 y280.length co33 : Value).ownBlock)) (by (with_reducible repeat (first | apply ra | apply rb | apply rc)); exact Kd.R_mono HO276.out (fun _ hk => ⟨hk.2, hk.1⟩)) hg hat)
        have n2_ := Aside0.mk (Kd.R_after (ok := (fun k_ => some k_ ≠ (v275 : Value).ownBlock)) (by (with_reducible repeat (first | apply ra | apply rb | apply rc)); exact HO282.out) hg hat)
        have n3_ := Aside0.mk (hb)
        have n4_ := Aside0.mk (ho)
        clear BK261
        clear HO276
        clear HO282
        clear HB
        clear HO279
        have BK261 := n0_
        have HO276 := n1_
        have HO282 := n2_
        have HB := n3_
        have HO285 := n4_
        clear n0_ n1_ n2_ n3_ n4_
        clear ho hb hg hat
        refine hK.out _ _ ⟨(blk_cell BK261.out 0).trans rfl, (blk_cell BK261.out 1).trans rfl, (blk_cell BK261.out 2).trans rfl, (blk_cell BK261.out 3).trans rfl⟩ (fun hHeld => ?_)
        clear hK K
        refine norm_ (a' := ?_) ?_ ?_
        rotate_left
        ·show Act.put _ (some 44) _ = _
         simp only [Act.put, List.setIfInBounds_toArray, List.set_cons_zero, List.set_cons_succ, i64_w, i32_w]
         rfl
        refine pure_ (i := 7) (N := some 3) (v := ?_) (a' := ?_) #[true, true, true, true, true, true, true, true] rfl rfl (any_of HT_.out (by kernel_rfl)) (fun _ _ _ h => h) (Or.inl ⟨by rfl, ?_⟩) ?_ ?_
        rotate_left
        ·intro w'
         go_simp
         with_reducible rfl
        rotate_left
        ·simp only [Act.put, List.setIfInBounds_toArray, List.set_cons_zero, List.set_cons_succ, i64_w, i32_w]
         rfl
        refine done_ (done_of HT_.out (by kernel_rfl)) ?_
        try go_wp2
        go_ret
        exact ⟨_, by first | rfl | (simp [errW_none, errW_some] <;> rfl) | (simp [*, errW_none, errW_some] <;> rfl), by (with_reducible repeat (first | apply ra | apply rb | apply rc)); exact Kd.R_mono HO285.out (fun _ hk => trivial), by repeat (first | (with_reducible first | exact HB.out | apply below_alloc | apply pw_below_drewN | apply below_drew1 | refine below_set ?_ GE261.out) | exact HB.out)⟩
       ·rw [if_neg c21] at H
        exact absurd H (by simp)
      ·rw [if_neg c20] at H
       exact absurd H (by simp)
    ·rw [if_neg c17] at H
     have c17b0 : (a0_2.toList == ([] : List UInt8)) = false := beq_eq_false_iff_ne.mpr c17
     have c17e0 : (a0_2).toList.isEmpty = false := by cases h_ : (a0_2).toList with | nil => (first | rfl | (rw [h_] at c17b0; cases c17b0)) | cons => (first | rfl | (rw [h_] at c17b0; cases c17b0))
     have c17e1 : (!(a0_2).toList.isEmpty) = true := by rw [c17e0]; rfl
     have c17e2 : ¬ ((!(a0_2).toList.isEmpty) = false) := by rw [c17e1]; decide
     have c17b1 : (a0_2.toList != ([] : List UInt8)) = true := bne_iff_ne.mpr c17
     obtain ⟨y286, hy286⟩ : ∃ y_ : List ByteArray, y_ = (([(⟨#[110, 97, 109, 101]⟩ : ByteArray)] : List ByteArray)) := ⟨_, rfl⟩
     replace H : (if x3_1.length + y286.length < 8796093022208 then ((some (x3_1 ++ y286 : List ByteArray)).bind fun y289 => ((some (([a0_2] : List ByteArray) : List ByteArray)).bind fun y292 => (if y289.length + y292.length < 8796093022208 then ((some (y289 ++ y292 : List ByteArray)).bind fun y295 => (if a0_1.toList = ([] : List UInt8) then (some y295) else ((some (([(⟨#[107, 101, 121]⟩ : ByteArray)] : List ByteArray) : List ByteArray)).bind fun y298 => (if y295.length + y298.length < 8796093022208 then ((some (y295 ++ y298 : List ByteArray)).bind fun y301 => ((some (([a0_1] : List ByteArray) : List ByteArray)).bind fun y304 => (if y301.length + y304.length < 8796093022208 then (some (y301 ++ y304)) else (none)))) else (none))))) else (none)))) else (none)) = some r := by first | (rw [hy286]; with_reducible exact H) | (have H2_ := (Option.bind_some _ _).symm.trans H; rw [hy286]; with_reducible exact H2_) | (have H2_ := (Option.bind_some _ _).symm.trans H; with_reducible exact H2_) | with_reducible exact H | (rw [hy286]; exact H) | exact H
     have Ny286 := Aside0.mk hy286
     clear hy286
     by_cases c34 : x3_1.length + y286.length < 8796093022208
     ·rw [if_pos c34] at H
      have LMc34 := Aside0.mk c34
      clear c34
      obtain ⟨y289, hy289⟩ : ∃ y_ : List ByteArray, y_ = (x3_1 ++ y286) := ⟨_, rfl⟩
      replace H : ((some (([a0_2] : List ByteArray) : List ByteArray)).bind fun y292 => (if y289.length + y292.length < 8796093022208 then ((some (y289 ++ y292 : List ByteArray)).bind fun y295 => (if a0_1.toList = ([] : List UInt8) then (some y295) else ((some (([(⟨#[107, 101, 121]⟩ : ByteArray)] : List ByteArray) : List ByteArray)).bind fun y298 => (if y295.length + y298.length < 8796093022208 then ((some (y295 ++ y298 : List ByteArray)).bind fun y301 => ((some (([a0_1] : List ByteArray) : List ByteArray)).bind fun y304 => (if y301.length + y304.length < 8796093022208 then (some (y301 ++ y304)) else (none)))) else (none))))) else (none))) = some r := by first | (rw [hy289]; with_reducible exact H) | (have H2_ := (Option.bind_some _ _).symm.trans H; rw [hy289]; with_reducible exact H2_) | (have H2_ := (Option.bind_some _ _).symm.trans H; with_reducible exact H2_) | with_reducible exact H | (rw [hy289]; exact H) | exact H
      have Ny289 := Aside0.mk hy289
      clear hy289
      obtain ⟨y292, hy292⟩ : ∃ y_ : List ByteArray, y_ = (([a0_2] : List ByteArray)) := ⟨_, rfl⟩
      replace H : (if y289.length + y292.length < 8796093022208 then ((some (y289 ++ y292 : List ByteArray)).bind fun y295 => (if a0_1.toList = ([] : List UInt8) then (some y295) else ((some (([(⟨#[107, 101, 121]⟩ : ByteArray)] : List ByteArray) : List ByteArray)).bind fun y298 => (if y295.length + y298.length < 8796093022208 then ((some (y295 ++ y298 : List ByteArray)).bind fun y301 => ((some (([a0_1] : List ByteArray) : List ByteArray)).bind fun y304 => (if y301.length + y304.length < 8796093022208 then (some (y301 ++ y304)) else (none)))) else (none))))) else (none)) = some r := by first | (rw [hy292]; with_reducible exact H) | (have H2_ := (Option.bind_some _ _).symm.trans H; rw [hy292]; with_reducible exact H2_) | (have H2_ := (Option.bind_some _ _).symm.trans H; with_reducible exact H2_) | with_reducible exact H | (rw [hy292]; exact H) | exact H
      have Ny292 := Aside0.mk hy292
      clear hy292
      by_cases c35 : y289.length + y292.length < 8796093022208
      ·rw [if_pos c35] at H
       have LMc35 := Aside0.mk c35
       clear c35
       obtain ⟨y295, hy295⟩ : ∃ y_ : List ByteArray, y_ = (y289 ++ y292) := ⟨_, rfl⟩
       replace H : (if a0_1.toList = ([] : List UInt8) then (some y295) else ((some (([(⟨#[107, 101, 121]⟩ : ByteArray)] : List ByteArray) : List ByteArray)).bind fun y298 => (if y295.length + y298.length < 8796093022208 then ((some (y295 ++ y298 : List ByteArray)).bind fun y301 => ((some (([a0_1] : List ByteArray) : List ByteArray)).bind fun y304 => (if y301.length + y304.length < 8796093022208 then (some (y301 ++ y304)) else (none)))) else (none)))) = some r := by first | (rw [hy295]; with_reducible exact H) | (have H2_ := (Option.bind_some _ _).symm.trans H; rw [hy295]; with_reducible exact H2_) | (have H2_ := (Option.bind_some _ _).symm.trans H; with_reducible exact H2_) | with_reducible exact H | (rw [hy295]; exact H) | exact H
       have Ny295 := Aside0.mk hy295
       clear hy295
       by_cases c36 : a0_1.toList = ([] : List UInt8)
       ·rw [if_pos c36] at H
        have c36b0 : (a0_1.toList == ([] : List UInt8)) = true := beq_iff_eq.mpr c36
        have c36e0 : (a0_1).toList.isEmpty = true := by cases h_ : (a0_1).toList with | nil => (first | rfl | (rw [h_] at c36b0; cases c36b0)) | cons => (first | rfl | (rw [h_] at c36b0; cases c36b0))
        have c36e1 : (!(a0_1).toList.isEmpty) = false := by rw [c36e0]; rfl
        have c36e2 : ¬ ((!(a0_1).toList.isEmpty) = true) := by rw [c36e1]; decide
        have c36b1 : (a0_1.toList != ([] : List UInt8)) = false := bne_eq_false_iff_eq.mpr c36
        clear c36
        obtain rfl := Option.some.inj H
        have hcz37_0 : wr.cell? ⟨gb261, 0, none⟩ = some (.int .i64 a0_0) := (blk_cell BK261.out 0).trans rfl
        have hcz37_1 : wr.cell? ⟨gb261, 1, none⟩ = some (.string a0_1) := (blk_cell BK261.out 1).trans rfl
        have hcz37_2 : wr.cell? ⟨gb261, 2, none⟩ = some (.string a0_2) := (blk_cell BK261.out 2).trans rfl
        have hcz37_3 : wr.cell? ⟨gb261, 3, none⟩ = some (.slice A0_3 l0_3.length c0_3) := (blk_cell BK261.out 3).trans rfl
        have hfz37_0 := blk_frozen BK261.out 0
        have hfz37_1 := blk_frozen BK261.out 1
        have hfz37_2 := blk_frozen BK261.out 2
        have hfz37_3 := blk_frozen BK261.out 3
        obtain ⟨Ao38, co38, eo38⟩ := Kd.R_slice HO_3.out
        subst eo38
        try go_wp2
        have n0_ := Aside0.mk (Kd.R_drew HO_3.out)
        have n1_ := Aside0.mk (blk_drew BK261.out)
        have n2_ := Aside0.mk (below_drew1 HB.out)
        clear HO_3
        clear BK261
        clear HB
        have HO_3 := n0_
        have BK261 := n1_
        have HB := n2_
        clear n0_ n1_ n2_
        refine start_ (n := 8) (S := fun w' => w'.cell? ⟨gb261, 0, none⟩ = some (.int .i64 a0_0) ∧ w'.cell? ⟨gb261, 1, none⟩ = some (.string a0_1) ∧ w'.cell? ⟨gb261, 2, none⟩ = some (.string a0_2) ∧ w'.cell? ⟨gb261, 3, none⟩ = some (.slice A0_3 l0_3.length c0_3)) (ds := []) #[false, false, false, false, false, false, false, false] (by kernel_rfl) rfl rfl ⟨(blk_cell BK261.out 0).trans rfl, (blk_cell BK261.out 1).trans rfl, (blk_cell BK261.out 2).trans rfl, (blk_cell BK261.out 3).trans rfl⟩ (fun hHeld => ?_); refine with_tabW prebendref27_Words.tab7 prebendref27_Words.bits7 (fun HT_ HW_ => ?_)
        generalize wr.drew = w39 at HO_3 BK261 HB hHeld ⊢
        refine pure_ (i := 0) (N := some 28) (v := ?_) (a' := ?_) #[true, false, false, false, false, false, false, false] rfl rfl (any_of HT_.out (by kernel_rfl)) (fun _ _ _ h => h) (Or.inl ⟨by rfl, ?_⟩) ?_ ?_
        rotate_left
        ·intro w'
         go_simp
         with_reducible rfl
        rotate_left
        ·simp only [Act.put, List.setIfInBounds_toArray, List.set_cons_zero, List.set_cons_succ, i64_w, i32_w]
         rfl
        refine pure_ (i := 3) (N := some 31) (v := ?_) (a' := ?_) #[true, false, false, true, false, false, false, false] rfl rfl (any_of HT_.out (by kernel_rfl)) (fun _ _ _ h => h) (Or.inl ⟨by rfl, ?_⟩) ?_ ?_
        rotate_left
        ·intro w'
         go_simp
         with_reducible rfl
        rotate_left
        ·simp only [Act.put, List.setIfInBounds_toArray, List.set_cons_zero, List.set_cons_succ, i64_w, i32_w]
         rfl
        refine take_ (i := 4) (N := some 32) (v := ?_) (a' := ?_) #[true, false, false, true, true, false, false, false] rfl rfl (take_ofW HT_.out HW_.out (by kernel_rfl)) (fun _ _ _ h => h) (Or.inl ⟨by rfl, ?_⟩) hHeld ?_ ?_
        rotate_left
        ·rintro w' ⟨s0, s1, s2, s3⟩
         go_simp
         with_reducible rfl
        rotate_left
        ·simp only [Act.put, List.setIfInBounds_toArray, List.set_cons_zero, List.set_cons_succ, i64_w, i32_w]
         rfl
        refine join_ (σ := Value × Value × Value) 2 #[true, true, true, true, true, true, false, false] (fun s_ => [(29, s_.1), (30, s_.2.1), (33, s_.2.2)]) (fun s_ w' => (w'.cell? ⟨gb261, 0, none⟩ = some (.int .i64 a0_0) ∧ w'.cell? ⟨gb261, 1, none⟩ = some (.string a0_1) ∧ w'.cell? ⟨gb261, 2, none⟩ = some (.string a0_2) ∧ w'.cell? ⟨gb261, 3, none⟩ = some (.slice A0_3 l0_3.length c0_3)) ∧ (Kd.R Kd.string 9 w' w.heap.size (fun k_ => some k_ ≠ (s_.2.1 : Value).ownBlock ∧ some k_ ≠ (s_.2.2 : Value).ownBlock) s_.1 y286) ∧ (Kd.R Kd.string 9 w' w.heap.size (fun k_ => some k_ ≠ (s_.1 : Value).ownBlock ∧ some k_ ≠ (s_.2.2 : Value).ownBlock) s_.2.1 y289) ∧ (Kd.R Kd.string 9 w' w.heap.size (fun k_ => some k_ ≠ (s_.1 : Value).ownBlock ∧ some k_ ≠ (s_.2.1 : Value).ownBlock) s_.2.2 y292) ∧ (w'.heap[gb261]? = some (.cells #[.int .i64 a0_0, .string a0_1, .string a0_2, .slice A0_3 l0_3.length c0_3] 24 (0, 0))) ∧ (Below w.heap.size w w')) ?_ ?_
        rotate_left
        ·intro hCont
         refine two_ (i := 1) (j := 5) (Ni := some 29) (Nj := some 33) #[true, true, false, true, true, false, false, false] #[true, false, false, true, true, true, false, false] rfl rfl rfl rfl (two_of HT_.out (by kernel_rfl)) (by decide) (by decide) (fun K hK => ?_) (fun K hK => ?_)
         ·skip
          refine Kd.R_lit_step Kd.string _ 9 ?hg (N := 29) ?hd (xs := ([(⟨#[110, 97, 109, 101]⟩ : ByteArray)] : List ByteArray)) (inner := [.string (⟨#[110, 97, 109, 101]⟩ : ByteArray)]) (ok := fun _ => True) (okp := fun _ => True) ?hr ?hp (fun _ hk => hk) trivial (Below.refl _ _) (Nat.le_refl _) (by simp) ?_; (case hd => rfl); (case hg => rfl); (case hr => first | (go_simp; done) | (go_simp; rfl)); (case hp => exact (Reps.one (show Kd.M Kd.string _ _ _ (⟨#[110, 97, 109, 101]⟩ : ByteArray) [.string (⟨#[110, 97, 109, 101]⟩ : ByteArray)] from rfl) (Reps.none _ _)))
          intro v287 w40 ho41 hb hg_ hnew_
          clear hg_ hnew_
          (first | rw [← Ny286.out] at ho41 | (simp only [Int.reduceToNat] at ho41; rw [← Ny286.out] at ho41))
          have n0_ := Aside0.mk (Kd.R_elder' (by (with_reducible repeat (first | apply ra | apply rb | apply rc)); exact HO_3.out) (Kd.R_base ho41) hb)
          have n1_ := Aside0.mk (Kd.R_lower (Kd.R_new' ho41 (Kd.R_lt (by (with_reducible repeat (first | apply ra | apply rb | apply rc)); exact HO_3.out))) (below_size (by repeat (first | (with_reducible first | exact HB.out | apply below_alloc | apply pw_below_drewN | apply below_drew1 | refine below_set ?_ GE261.out) | exact HB.out))))
          have n2_ := Aside0.mk (blk_below (g := gb261) (o := .cells #[.int .i64 a0_0, .string a0_1, .string a0_2, .slice A0_3 l0_3.length c0_3] 24 (0, 0)) (by (with_reducible repeat (first | refine kc ?_ _ | refine kb ?_ | refine ka ?_ _)); exact BK261.out) hb)
          have n3_ := Aside0.mk (below_step (by repeat (first | (with_reducible first | exact HB.out | apply below_alloc | apply pw_below_drewN | apply below_drew1 | refine below_set ?_ GE261.out) | exact HB.out)) hb)
          clear HO_3
          clear BK261
          clear HB
          have HO_3 := n0_
          have HO288 := n1_
          have BK261 := n2_
          have HB := n3_
          clear n0_ n1_ n2_ n3_
          clear hb ho41
          obtain ⟨Ao43, co43, eo43⟩ := Kd.R_slice HO288.out
          (first | subst eo43 | (injection eo43 with f1_ f2_ f3_; have f4_ := f1_.symm; have f5_ := f3_.symm; clear f1_ f2_ f3_; subst f4_; subst f5_))
          refine hK.out _ _ ⟨(blk_cell BK261.out 0).trans rfl, (blk_cell BK261.out 1).trans rfl, (blk_cell BK261.out 2).trans rfl, (blk_cell BK261.out 3).trans rfl⟩ (fun hHeld => ?_)
          clear hK K
          refine norm_ (a' := ?_) ?_ ?_
          rotate_left
          ·show Act.put _ (some 29) _ = _
           simp only [Act.put, List.setIfInBounds_toArray, List.set_cons_zero, List.set_cons_succ, i64_w, i32_w]
           rfl
          refine two_ (i := 2) (j := 5) (Ni := some 30) (Nj := some 33) #[true, true, true, true, true, false, false, false] #[true, true, false, true, true, true, false, false] rfl rfl rfl rfl (two_of HT_.out (by kernel_rfl)) (by decide) (by decide) (fun K hK => ?_) (fun K hK => ?_)
          ·skip
           refine Kd.R_append_rows_step Kd.string (w0 := w) w.heap.size (by rfl) (.tmp 28) (.tmp 29) 45 9 (.string ⟨#[]⟩) 16 rfl Tryd.underlying45 info9 rfl (by decide) (by omega) (.slice Ao38 x3_1.length co38) x3_1 y286 _ _ _ (fun k_ => some k_ ≠ (.slice Ao43 y286.length co43 : Value).ownBlock) (fun _ => False) rfl rfl ?aO ?aR (fun _ _ h => h) (fun _ h => h.elim) ?aF ?aB ?aS ?aL ?_
           (case aR => repeat (first | exact (Kd.R_reads' HO288.out).2.2 | (with_reducible refine Kd.C_alloc ?_ _) | (with_reducible refine Kd.C_drewN ?_ _) | (with_reducible refine Kd.C_drew ?_)))
           (case aB => exact (by repeat (first | (with_reducible first | exact HB.out | apply below_alloc | apply pw_below_drewN | apply below_drew1 | refine below_set ?_ GE261.out) | exact HB.out)))
           (case aF => exact (fun k_ hk => Kd.fresh' (Kd.R_lt (by (with_reducible repeat (first | apply ra | apply rb | apply rc)); exact HO288.out)) k_ hk))
           (case aO => exact (by (with_reducible repeat (first | apply ra | apply rb | apply rc)); exact Kd.R_mono HO_3.out (fun _ hk => hk.2)))
           (case aS => exact (below_size (by repeat (first | (with_reducible first | exact HB.out | apply below_alloc | apply pw_below_drewN | apply below_drew1 | refine below_set ?_ GE261.out) | exact HB.out))))
           (case aL => have := LMc34.out; omega)
           intro v290 w42 ho hb hg hat
           rw [← Ny289.out] at ho
           have n0_ := Aside0.mk (blk_grown (g := gb261) (o := .cells #[.int .i64 a0_0, .string a0_1, .string a0_2, .slice A0_3 l0_3.length c0_3] 24 (0, 0)) (by (with_reducible repeat (first | refine kc ?_ _ | refine kb ?_ | refine ka ?_ _)); exact BK261.out) hg (Kd.R_ne HO_3.out BK261.out (by decide)))
           have n1_ := Aside0.mk (Kd.R_after (ok := (fun _ => True)) (by (with_reducible repeat (first | apply ra | apply rb | apply rc)); exact HO288.out) hg hat)
           have n2_ := Aside0.mk (hb)
           have n3_ := Aside0.mk (ho)
           clear BK261
           clear HO288
           clear HB
           clear HO_3
           have BK261 := n0_
           have HO288 := n1_
           have HB := n2_
           have HO291 := n3_
           clear n0_ n1_ n2_ n3_
           clear ho hb hg hat
           refine hK.out _ _ ⟨(blk_cell BK261.out 0).trans rfl, (blk_cell BK261.out 1).trans rfl, (blk_cell BK261.out 2).trans rfl, (blk_cell BK261.out 3).trans rfl⟩ (fun hHeld => ?_)
           clear hK K
           refine norm_ (a' := ?_) ?_ ?_
           rotate_left
           ·show Act.put _ (some 30) _ = _
            simp only [Act.put, List.setIfInBounds_toArray, List.set_cons_zero, List.set_cons_succ, i64_w, i32_w]
            rfl
           refine one_ (i := 5) (N := some 33) #[true, true, true, true, true, true, false, false] rfl rfl (one_of HT_.out (by kernel_rfl)) (by decide) (fun K hK => ?_)
           refine Kd.R_lit_step Kd.string _ 9 ?hg (N := 33) ?hd (xs := ([a0_2] : List ByteArray)) (inner := [.string a0_2]) (ok := fun _ => True) (okp := fun _ => True) ?hr ?hp (fun _ hk => hk) trivial (Below.refl _ _) (Nat.le_refl _) (by simp) ?_; (case hd => rfl); (case hg => rfl); (case hr => first | (go_simp; done) | (go_simp; rfl)); (case hp => exact (Reps.one (show Kd.M Kd.string _ _ _ a0_2 [.string a0_2] from rfl) (Reps.none _ _)))
           intro v293 w44 ho45 hb hg_ hnew_
           clear hg_ hnew_
           (first | rw [← Ny292.out] at ho45 | (simp only [Int.reduceToNat] at ho45; rw [← Ny292.out] at ho45))
           have n0_ := Aside0.mk (Kd.R_elder' (by (with_reducible repeat (first | apply ra | apply rb | apply rc)); exact HO288.out) (Kd.R_base ho45) hb)
           have n1_ := Aside0.mk (Kd.R_elder' (by (with_reducible repeat (first | apply ra | apply rb | apply rc)); exact HO291.out) (Kd.R_base ho45) hb)
           have n2_ := Aside0.mk (Kd.R_lower (Kd.R_new' (Kd.R_new' ho45 (Kd.R_lt (by (with_reducible repeat (first | apply ra | apply rb | apply rc)); exact HO288.out))) (Kd.R_lt (by (with_reducible repeat (first | apply ra | apply rb | apply rc)); exact HO291.out))) (below_size (by repeat (first | (with_reducible first | exact HB.out | apply below_alloc | apply pw_below_drewN | apply below_drew1 | refine below_set ?_ GE261.out) | exact HB.out))))
           have n3_ := Aside0.mk (blk_below (g := gb261) (o := .cells #[.int .i64 a0_0, .string a0_1, .string a0_2, .slice A0_3 l0_3.length c0_3] 24 (0, 0)) (by (with_reducible repeat (first | refine kc ?_ _ | refine kb ?_ | refine ka ?_ _)); exact BK261.out) hb)
           have n4_ := Aside0.mk (below_step (by repeat (first | (with_reducible first | exact HB.out | apply below_alloc | apply pw_below_drewN | apply below_drew1 | refine below_set ?_ GE261.out) | exact HB.out)) hb)
           clear HO288
           clear HO291
           clear BK261
           clear HB
           have HO288 := n0_
           have HO291 := n1_
           have HO294 := n2_
           have BK261 := n3_
           have HB := n4_
           clear n0_ n1_ n2_ n3_ n4_
           clear hb ho45
           refine hK.out _ _ ⟨(blk_cell BK261.out 0).trans rfl, (blk_cell BK261.out 1).trans rfl, (blk_cell BK261.out 2).trans rfl, (blk_cell BK261.out 3).trans rfl⟩ (fun hHeld => ?_)
           clear hK K
           refine norm_ (a' := ?_) ?_ ?_
           rotate_left
           ·show Act.put _ (some 33) _ = _
            simp only [Act.put, List.setIfInBounds_toArray, List.set_cons_zero, List.set_cons_succ, i64_w, i32_w]
            rfl
           exact norm_ (by simp only [putAll, Act.put, List.setIfInBounds_toArray, List.set_cons_zero, List.set_cons_succ]) (hCont (.slice Ao43 y286.length co43, v290, v293) _ ⟨hHeld, (by (with_reducible repeat (first | apply ra | apply rb | apply rc)); exact Kd.R_mono HO288.out (fun _ hk => ⟨hk.1.2, hk.2⟩)), (by (with_reducible repeat (first | apply ra | apply rb | apply rc)); exact HO291.out), (by (with_reducible repeat (first | apply ra | apply rb | apply rc)); exact Kd.R_mono HO294.out (fun _ hk => ⟨hk.1.2, hk.2⟩)), (by (with_reducible repeat (first | refine kc ?_ _ | refine kb ?_ | refine ka ?_ _)); exact BK261.out), (by repeat (first | (with_reducible first | exact HB.out | apply below_alloc | apply pw_below_drewN | apply below_drew1 | refine below_set ?_ GE261.out) | exact HB.out))⟩)
          ·skip
           refine Kd.R_lit_step Kd.string _ 9 ?hg (N := 33) ?hd (xs := ([a0_2] : List ByteArray)) (inner := [.string a0_2]) (ok := fun _ => True) (okp := fun _ => True) ?hr ?hp (fun _ hk => hk) trivial (Below.refl _ _) (Nat.le_refl _) (by simp) ?_; (case hd => rfl); (case hg => rfl); (case hr => first | (go_simp; done) | (go_simp; rfl)); (case hp => exact (Reps.one (show Kd.M Kd.string _ _ _ a0_2 [.string a0_2] from rfl) (Reps.none _ _)))
           intro v293 w42 ho43 hb hg_ hnew_
           clear hg_ hnew_
           (first | rw [← Ny292.out] at ho43 | (simp only [Int.reduceToNat] at ho43; rw [← Ny292.out] at ho43))
           have n0_ := Aside0.mk (Kd.R_elder' (by (with_reducible repeat (first | apply ra | apply rb | apply rc)); exact HO_3.out) (Kd.R_base ho43) hb)
           have n1_ := Aside0.mk (Kd.R_elder' (by (with_reducible repeat (first | apply ra | apply rb | apply rc)); exact HO288.out) (Kd.R_base ho43) hb)
           have n2_ := Aside0.mk (Kd.R_lower (Kd.R_new' (Kd.R_new' ho43 (Kd.R_lt (by (with_reducible repeat (first | apply ra | apply rb | apply rc)); exact HO_3.out))) (Kd.R_lt (by (with_reducible repeat (first | apply ra | apply rb | apply rc)); exact HO288.out))) (below_size (by repeat (first | (with_reducible first | exact HB.out | apply below_alloc | apply pw_below_drewN | apply below_drew1 | refine below_set ?_ GE261.out) | exact HB.out))))
           have n3_ := Aside0.mk (blk_below (g := gb261) (o := .cells #[.int .i64 a0_0, .string a0_1, .string a0_2, .slice A0_3 l0_3.length c0_3] 24 (0, 0)) (by (with_reducible repeat (first | refine kc ?_ _ | refine kb ?_ | refine ka ?_ _)); exact BK261.out) hb)
           have n4_ := Aside0.mk (below_step (by repeat (first | (with_reducible first | exact HB.out | apply below_alloc | apply pw_below_drewN | apply below_drew1 | refine below_set ?_ GE261.out) | exact HB.out)) hb)
           clear HO_3
           clear HO288
           clear BK261
           clear HB
           have HO_3 := n0_
           have HO288 := n1_
           have HO294 := n2_
           have BK261 := n3_
           have HB := n4_
           clear n0_ n1_ n2_ n3_ n4_
           clear hb ho43
           obtain ⟨Ao45, co45, eo45⟩ := Kd.R_slice HO288.out
           (first | subst eo45 | (injection eo45 with f1_ f2_ f3_; have f4_ := f1_.symm; have f5_ := f3_.symm; clear f1_ f2_ f3_; subst f4_; subst f5_))
           refine hK.out _ _ ⟨(blk_cell BK261.out 0).trans rfl, (blk_cell BK261.out 1).trans rfl, (blk_cell BK261.out 2).trans rfl, (blk_cell BK261.out 3).trans rfl⟩ (fun hHeld => ?_)
           clear hK K
           refine norm_ (a' := ?_) ?_ ?_
           rotate_left
           ·show Act.put _ (some 33) _ = _
            simp only [Act.put, List.setIfInBounds_toArray, List.set_cons_zero, List.set_cons_succ, i64_w, i32_w]
            rfl
           refine one_ (i := 2) (N := some 30) #[true, true, true, true, true, true, false, false] rfl rfl (one_of HT_.out (by kernel_rfl)) (by decide) (fun K hK => ?_)
           refine Kd.R_append_rows_step Kd.string (w0 := w) w.heap.size (by rfl) (.tmp 28) (.tmp 29) 45 9 (.string ⟨#[]⟩) 16 rfl Tryd.underlying45 info9 rfl (by decide) (by omega) (.slice Ao38 x3_1.length co38) x3_1 y286 _ _ _ (fun k_ => some k_ ≠ (.slice Ao45 y286.length co45 : Value).ownBlock ∧ some k_ ≠ (v293 : Value).ownBlock) (fun _ => False) rfl rfl ?aO ?aR (fun _ _ h => h) (fun _ h => h.elim) ?aF ?aB ?aS ?aL ?_
           (case aR => repeat (first | exact (Kd.R_reads' HO288.out).2.2 | (with_reducible refine Kd.C_alloc ?_ _) | (with_reducible refine Kd.C_drewN ?_ _) | (with_reducible refine Kd.C_drew ?_)))
           (case aB => exact (by repeat (first | (with_reducible first | exact HB.out | apply below_alloc | apply pw_below_drewN | apply below_drew1 | refine below_set ?_ GE261.out) | exact HB.out)))
           (case aF => exact (fun k_ hk => ⟨Kd.fresh' (Kd.R_lt (by (with_reducible repeat (first | apply ra | apply rb | apply rc)); exact HO288.out)) k_ hk, Kd.fresh' (Kd.R_lt (by (with_reducible repeat (first | apply ra | apply rb | apply rc)); exact HO294.out)) k_ hk⟩))
           (case aO => exact (by (with_reducible repeat (first | apply ra | apply rb | apply rc)); exact Kd.R_mono HO_3.out (fun _ hk => ⟨hk.1.2, hk.2⟩)))
           (case aS => exact (below_size (by repeat (first | (with_reducible first | exact HB.out | apply below_alloc | apply pw_below_drewN | apply below_drew1 | refine below_set ?_ GE261.out) | exact HB.out))))
           (case aL => have := LMc34.out; omega)
           intro v290 w44 ho hb hg hat
           rw [← Ny289.out] at ho
           have n0_ := Aside0.mk (blk_grown (g := gb261) (o := .cells #[.int .i64 a0_0, .string a0_1, .string a0_2, .slice A0_3 l0_3.length c0_3] 24 (0, 0)) (by (with_reducible repeat (first | refine kc ?_ _ | refine kb ?_ | refine ka ?_ _)); exact BK261.out) hg (Kd.R_ne HO_3.out BK261.out (by decide)))
           have n1_ := Aside0.mk (Kd.R_after (ok := (fun k_ => some k_ ≠ (v293 : Value).ownBlock)) (by (with_reducible repeat (first | apply ra | apply rb | apply rc)); exact Kd.R_mono HO288.out (fun _ hk => ⟨hk.2, hk.1.2⟩)) hg hat)
           have n2_ := Aside0.mk (Kd.R_after (ok := (fun k_ => some k_ ≠ (.slice Ao45 y286.length co45 : Value).ownBlock)) (by (with_reducible repeat (first | apply ra | apply rb | apply rc)); exact Kd.R_mono HO294.out (fun _ hk => ⟨hk.2, hk.1.2⟩)) hg hat)
           have n3_ := Aside0.mk (hb)
           have n4_ := Aside0.mk (ho)
           clear BK261
           clear HO288
           clear HO294
           clear HB
           clear HO_3
           have BK261 := n0_
           have HO288 := n1_
           have HO294 := n2_
           have HB := n3_
           have HO291 := n4_
           clear n0_ n1_ n2_ n3_ n4_
           clear ho hb hg hat
           refine hK.out _ _ ⟨(blk_cell BK261.out 0).trans rfl, (blk_cell BK261.out 1).trans rfl, (blk_cell BK261.out 2).trans rfl, (blk_cell BK261.out 3).trans rfl⟩ (fun hHeld => ?_)
           clear hK K
           refine norm_ (a' := ?_) ?_ ?_
           rotate_left
           ·show Act.put _ (some 30) _ = _
            simp only [Act.put, List.setIfInBounds_toArray, List.set_cons_zero, List.set_cons_succ, i64_w, i32_w]
            rfl
           exact norm_ (by simp only [putAll, Act.put, List.setIfInBounds_toArray, List.set_cons_zero, List.set_cons_succ]) (hCont (.slice Ao45 y286.length co45, v290, v293) _ ⟨hHeld, (by (with_reducible repeat (first | apply ra | apply rb | apply rc)); exact Kd.R_mono HO288.out (fun _ hk => ⟨hk.2, hk.1⟩)), (by (with_reducible repeat (first | apply ra | apply rb | apply rc)); exact HO291.out), (by (with_reducible repeat (first | apply ra | apply rb | apply rc)); exact HO294.out), (by (with_reducible repeat (first | refine kc ?_ _ | refine kb ?_ | refine ka ?_ _)); exact BK261.out), (by repeat (first | (with_reducible first | exact HB.out | apply below_alloc | apply pw_below_drewN | apply below_drew1 | refine below_set ?_ GE261.out) | exact HB.out))⟩)
         ·skip
          refine Kd.R_lit_step Kd.string _ 9 ?hg (N := 33) ?hd (xs := ([a0_2] : List ByteArray)) (inner := [.string a0_2]) (ok := fun _ => True) (okp := fun _ => True) ?hr ?hp (fun _ hk => hk) trivial (Below.refl _ _) (Nat.le_refl _) (by simp) ?_; (case hd => rfl); (case hg => rfl); (case hr => first | (go_simp; done) | (go_simp; rfl)); (case hp => exact (Reps.one (show Kd.M Kd.string _ _ _ a0_2 [.string a0_2] from rfl) (Reps.none _ _)))
          intro v293 w40 ho41 hb hg_ hnew_
          clear hg_ hnew_
          (first | rw [← Ny292.out] at ho41 | (simp only [Int.reduceToNat] at ho41; rw [← Ny292.out] at ho41))
          have n0_ := Aside0.mk (Kd.R_elder' (by (with_reducible repeat (first | apply ra | apply rb | apply rc)); exact HO_3.out) (Kd.R_base ho41) hb)
          have n1_ := Aside0.mk (Kd.R_lower (Kd.R_new' ho41 (Kd.R_lt (by (with_reducible repeat (first | apply ra | apply rb | apply rc)); exact HO_3.out))) (below_size (by repeat (first | (with_reducible first | exact HB.out | apply below_alloc | apply pw_below_drewN | apply below_drew1 | refine below_set ?_ GE261.out) | exact HB.out))))
          have n2_ := Aside0.mk (blk_below (g := gb261) (o := .cells #[.int .i64 a0_0, .string a0_1, .string a0_2, .slice A0_3 l0_3.length c0_3] 24 (0, 0)) (by (with_reducible repeat (first | refine kc ?_ _ | refine kb ?_ | refine ka ?_ _)); exact BK261.out) hb)
          have n3_ := Aside0.mk (below_step (by repeat (first | (with_reducible first | exact HB.out | apply below_alloc | apply pw_below_drewN | apply below_drew1 | refine below_set ?_ GE261.out) | exact HB.out)) hb)
          clear HO_3
          clear BK261
          clear HB
          have HO_3 := n0_
          have HO294 := n1_
          have BK261 := n2_
          have HB := n3_
          clear n0_ n1_ n2_ n3_
          clear hb ho41
          refine hK.out _ _ ⟨(blk_cell BK261.out 0).trans rfl, (blk_cell BK261.out 1).trans rfl, (blk_cell BK261.out 2).trans rfl, (blk_cell BK261.out 3).trans rfl⟩ (fun hHeld => ?_)
          clear hK K
          refine norm_ (a' := ?_) ?_ ?_
          rotate_left
          ·show Act.put _ (some 33) _ = _
           simp only [Act.put, List.setIfInBounds_toArray, List.set_cons_zero, List.set_cons_succ, i64_w, i32_w]
           rfl
          refine one_ (i := 1) (N := some 29) #[true, true, false, true, true, true, false, false] rfl rfl (one_of HT_.out (by kernel_rfl)) (by decide) (fun K hK => ?_)
          refine Kd.R_lit_step Kd.string _ 9 ?hg (N := 29) ?hd (xs := ([(⟨#[110, 97, 109, 101]⟩ : ByteArray)] : List ByteArray)) (inner := [.string (⟨#[110, 97, 109, 101]⟩ : ByteArray)]) (ok := fun _ => True) (okp := fun _ => True) ?hr ?hp (fun _ hk => hk) trivial (Below.refl _ _) (Nat.le_refl _) (by simp) ?_; (case hd => rfl); (case hg => rfl); (case hr => first | (go_simp; done) | (go_simp; rfl)); (case hp => exact (Reps.one (show Kd.M Kd.string _ _ _ (⟨#[110, 97, 109, 101]⟩ : ByteArray) [.string (⟨#[110, 97, 109, 101]⟩ : ByteArray)] from rfl) (Reps.none _ _)))
          intro v287 w42 ho43 hb hg_ hnew_
          clear hg_ hnew_
          (first | rw [← Ny286.out] at ho43 | (simp only [Int.reduceToNat] at ho43; rw [← Ny286.out] at ho43))
          have n0_ := Aside0.mk (Kd.R_elder' (by (with_reducible repeat (first | apply ra | apply rb | apply rc)); exact HO_3.out) (Kd.R_base ho43) hb)
          have n1_ := Aside0.mk (Kd.R_elder' (by (with_reducible repeat (first | apply ra | apply rb | apply rc)); exact HO294.out) (Kd.R_base ho43) hb)
          have n2_ := Aside0.mk (Kd.R_lower (Kd.R_new' (Kd.R_new' ho43 (Kd.R_lt (by (with_reducible repeat (first | apply ra | apply rb | apply rc)); exact HO_3.out))) (Kd.R_lt (by (with_reducible repeat (first | apply ra | apply rb | apply rc)); exact HO294.out))) (below_size (by repeat (first | (with_reducible first | exact HB.out | apply below_alloc | apply pw_below_drewN | apply below_drew1 | refine below_set ?_ GE261.out) | exact HB.out))))
          have n3_ := Aside0.mk (blk_below (g := gb261) (o := .cells #[.int .i64 a0_0, .string a0_1, .string a0_2, .slice A0_3 l0_3.length c0_3] 24 (0, 0)) (by (with_reducible repeat (first | refine kc ?_ _ | refine kb ?_ | refine ka ?_ _)); exact BK261.out) hb)
          have n4_ := Aside0.mk (below_step (by repeat (first | (with_reducible first | exact HB.out | apply below_alloc | apply pw_below_drewN | apply below_drew1 | refine below_set ?_ GE261.out) | exact HB.out)) hb)
          clear HO_3
          clear HO294
          clear BK261
          clear HB
          have HO_3 := n0_
          have HO294 := n1_
          have HO288 := n2_
          have BK261 := n3_
          have HB := n4_
          clear n0_ n1_ n2_ n3_ n4_
          clear hb ho43
          obtain ⟨Ao45, co45, eo45⟩ := Kd.R_slice HO288.out
          (first | subst eo45 | (injection eo45 with f1_ f2_ f3_; have f4_ := f1_.symm; have f5_ := f3_.symm; clear f1_ f2_ f3_; subst f4_; subst f5_))
          refine hK.out _ _ ⟨(blk_cell BK261.out 0).trans rfl, (blk_cell BK261.out 1).trans rfl, (blk_cell BK261.out 2).trans rfl, (blk_cell BK261.out 3).trans rfl⟩ (fun hHeld => ?_)
          clear hK K
          refine norm_ (a' := ?_) ?_ ?_
          rotate_left
          ·show Act.put _ (some 29) _ = _
           simp only [Act.put, List.setIfInBounds_toArray, List.set_cons_zero, List.set_cons_succ, i64_w, i32_w]
           rfl
          refine one_ (i := 2) (N := some 30) #[true, true, true, true, true, true, false, false] rfl rfl (one_of HT_.out (by kernel_rfl)) (by decide) (fun K hK => ?_)
          refine Kd.R_append_rows_step Kd.string (w0 := w) w.heap.size (by rfl) (.tmp 28) (.tmp 29) 45 9 (.string ⟨#[]⟩) 16 rfl Tryd.underlying45 info9 rfl (by decide) (by omega) (.slice Ao38 x3_1.length co38) x3_1 y286 _ _ _ (fun k_ => some k_ ≠ (v293 : Value).ownBlock ∧ some k_ ≠ (.slice Ao45 y286.length co45 : Value).ownBlock) (fun _ => False) rfl rfl ?aO ?aR (fun _ _ h => h) (fun _ h => h.elim) ?aF ?aB ?aS ?aL ?_
          (case aR => repeat (first | exact (Kd.R_reads' HO288.out).2.2 | (with_reducible refine Kd.C_alloc ?_ _) | (with_reducible refine Kd.C_drewN ?_ _) | (with_reducible refine Kd.C_drew ?_)))
          (case aB => exact (by repeat (first | (with_reducible first | exact HB.out | apply below_alloc | apply pw_below_drewN | apply below_drew1 | refine below_set ?_ GE261.out) | exact HB.out)))
          (case aF => exact (fun k_ hk => ⟨Kd.fresh' (Kd.R_lt (by (with_reducible repeat (first | apply ra | apply rb | apply rc)); exact HO294.out)) k_ hk, Kd.fresh' (Kd.R_lt (by (with_reducible repeat (first | apply ra | apply rb | apply rc)); exact HO288.out)) k_ hk⟩))
          (case aO => exact (by (with_reducible repeat (first | apply ra | apply rb | apply rc)); exact Kd.R_mono HO_3.out (fun _ hk => ⟨hk.1.2, hk.2⟩)))
          (case aS => exact (below_size (by repeat (first | (with_reducible first | exact HB.out | apply below_alloc | apply pw_below_drewN | apply below_drew1 | refine below_set ?_ GE261.out) | exact HB.out))))
          (case aL => have := LMc34.out; omega)
          intro v290 w44 ho hb hg hat
          rw [← Ny289.out] at ho
          have n0_ := Aside0.mk (blk_grown (g := gb261) (o := .cells #[.int .i64 a0_0, .string a0_1, .string a0_2, .slice A0_3 l0_3.length c0_3] 24 (0, 0)) (by (with_reducible repeat (first | refine kc ?_ _ | refine kb ?_ | refine ka ?_ _)); exact BK261.out) hg (Kd.R_ne HO_3.out BK261.out (by decide)))
          have n1_ := Aside0.mk (Kd.R_after (ok := (fun k_ => some k_ ≠ (.slice Ao45 y286.length co45 : Value).ownBlock)) (by (with_reducible repeat (first | apply ra | apply rb | apply rc)); exact Kd.R_mono HO294.out (fun _ hk => ⟨hk.2, hk.1.2⟩)) hg hat)
          have n2_ := Aside0.mk (Kd.R_after (ok := (fun k_ => some k_ ≠ (v293 : Value).ownBlock)) (by (with_reducible repeat (first | apply ra | apply rb | apply rc)); exact Kd.R_mono HO288.out (fun _ hk => ⟨hk.2, hk.1.2⟩)) hg hat)
          have n3_ := Aside0.mk (hb)
          have n4_ := Aside0.mk (ho)
          clear BK261
          clear HO294
          clear HO288
          clear HB
          clear HO_3
          have BK261 := n0_
          have HO294 := n1_
          have HO288 := n2_
          have HB := n3_
          have HO291 := n4_
          clear n0_ n1_ n2_ n3_ n4_
          clear ho hb hg hat
          refine hK.out _ _ ⟨(blk_cell BK261.out 0).trans rfl, (blk_cell BK261.out 1).trans rfl, (blk_cell BK261.out 2).trans rfl, (blk_cell BK261.out 3).trans rfl⟩ (fun hHeld => ?_)
          clear hK K
          refine norm_ (a' := ?_) ?_ ?_
          rotate_left
          ·show Act.put _ (some 30) _ = _
           simp only [Act.put, List.setIfInBounds_toArray, List.set_cons_zero, List.set_cons_succ, i64_w, i32_w]
           rfl
          exact norm_ (by simp only [putAll, Act.put, List.setIfInBounds_toArray, List.set_cons_zero, List.set_cons_succ]) (hCont (.slice Ao45 y286.length co45, v290, v293) _ ⟨hHeld, (by (with_reducible repeat (first | apply ra | apply rb | apply rc)); exact Kd.R_mono HO288.out (fun _ hk => ⟨hk.2, hk.1⟩)), (by (with_reducible repeat (first | apply ra | apply rb | apply rc)); exact Kd.R_mono HO291.out (fun _ hk => ⟨hk.2, hk.1⟩)), (by (with_reducible repeat (first | apply ra | apply rb | apply rc)); exact HO294.out), (by (with_reducible repeat (first | refine kc ?_ _ | refine kb ?_ | refine ka ?_ _)); exact BK261.out), (by repeat (first | (with_reducible first | exact HB.out | apply below_alloc | apply pw_below_drewN | apply below_drew1 | refine below_set ?_ GE261.out) | exact HB.out))⟩)
        rintro ⟨v287, v290, v293⟩ w46 ⟨hS_, h0_, h1_, h2_, h3_, h4_⟩
        have n0_ : Aside0 (Kd.R Kd.string 9 w46 w.heap.size (fun k_ => some k_ ≠ (v290 : Value).ownBlock ∧ some k_ ≠ (v293 : Value).ownBlock) v287 y286) := ⟨h0_⟩
        have n1_ : Aside0 (Kd.R Kd.string 9 w46 w.heap.size (fun k_ => some k_ ≠ (v287 : Value).ownBlock ∧ some k_ ≠ (v293 : Value).ownBlock) v290 y289) := ⟨h1_⟩
        have n2_ : Aside0 (Kd.R Kd.string 9 w46 w.heap.size (fun k_ => some k_ ≠ (v287 : Value).ownBlock ∧ some k_ ≠ (v290 : Value).ownBlock) v293 y292) := ⟨h2_⟩
        have n3_ : Aside0 (w46.heap[gb261]? = some (.cells #[.int .i64 a0_0, .string a0_1, .string a0_2, .slice A0_3 l0_3.length c0_3] 24 (0, 0))) := ⟨h3_⟩
        have n4_ : Aside0 (Below w.heap.size w w46) := ⟨h4_⟩
        clear HO_3
        clear BK261
        clear HB
        clear h0_ h1_ h2_ h3_ h4_
        have HO288 := n0_
        have HO291 := n1_
        have HO294 := n2_
        have BK261 := n3_
        have HB := n4_
        clear n0_ n1_ n2_ n3_ n4_
        have hHeld : w46.cell? ⟨gb261, 0, none⟩ = some (.int .i64 a0_0) ∧ w46.cell? ⟨gb261, 1, none⟩ = some (.string a0_1) ∧ w46.cell? ⟨gb261, 2, none⟩ = some (.string a0_2) ∧ w46.cell? ⟨gb261, 3, none⟩ = some (.slice A0_3 l0_3.length c0_3) := hS_
        obtain ⟨Ao48, co48, eo48⟩ := Kd.R_slice HO294.out
        (first | subst eo48 | (injection eo48 with f1_ f2_ f3_; have f4_ := f1_.symm; have f5_ := f3_.symm; clear f1_ f2_ f3_; subst f4_; subst f5_))
        refine norm_ (a' := ?_) ?_ ?_
        rotate_left
        ·simp only [putAll, Act.put, List.setIfInBounds_toArray, List.set_cons_zero, List.set_cons_succ]
         rfl
        refine one_ (i := 6) (N := some 34) #[true, true, true, true, true, true, true, false] rfl rfl (one_of HT_.out (by kernel_rfl)) (by decide) (fun K hK => ?_)
        refine Kd.R_append_rows_step Kd.string (w0 := w) w.heap.size (by rfl) (.tmp 30) (.tmp 33) 45 9 (.string ⟨#[]⟩) 16 rfl Tryd.underlying45 info9 rfl (by decide) (by omega) v290 y289 y292 _ _ _ (fun k_ => some k_ ≠ (v287 : Value).ownBlock ∧ some k_ ≠ (.slice Ao48 y292.length co48 : Value).ownBlock) (fun _ => False) rfl rfl ?aO ?aR (fun _ _ h => h) (fun _ h => h.elim) ?aF ?aB ?aS ?aL ?_
        (case aR => repeat (first | exact (Kd.R_reads' HO294.out).2.2 | (with_reducible refine Kd.C_alloc ?_ _) | (with_reducible refine Kd.C_drewN ?_ _) | (with_reducible refine Kd.C_drew ?_)))
        (case aB => exact (by repeat (first | (with_reducible first | exact HB.out | apply below_alloc | apply pw_below_drewN | apply below_drew1 | refine below_set ?_ GE261.out) | exact HB.out)))
        (case aF => exact (fun k_ hk => ⟨Kd.fresh' (Kd.R_lt (by (with_reducible repeat (first | apply ra | apply rb | apply rc)); exact HO288.out)) k_ hk, Kd.fresh' (Kd.R_lt (by (with_reducible repeat (first | apply ra | apply rb | apply rc)); exact HO294.out)) k_ hk⟩))
        (case aO => exact (by (with_reducible repeat (first | apply ra | apply rb | apply rc)); exact HO291.out))
        (case aS => exact (below_size (by repeat (first | (with_reducible first | exact HB.out | apply below_alloc | apply pw_below_drewN | apply below_drew1 | refine below_set ?_ GE261.out) | exact HB.out))))
        (case aL => have := LMc35.out; omega)
        intro v296 w47 ho hb hg hat
        rw [← Ny295.out] at ho
        have n0_ := Aside0.mk (blk_grown (g := gb261) (o := .cells #[.int .i64 a0_0, .string a0_1, .string a0_2, .slice A0_3 l0_3.length c0_3] 24 (0, 0)) (by (with_reducible repeat (first | refine kc ?_ _ | refine kb ?_ | refine ka ?_ _)); exact BK261.out) hg (Kd.R_ne HO291.out BK261.out (by decide)))
        have n1_ := Aside0.mk (Kd.R_after (ok := (fun k_ => some k_ ≠ (.slice Ao48 y292.length co48 : Value).ownBlock)) (by (with_reducible repeat (first | apply ra | apply rb | apply rc)); exact Kd.R_mono HO288.out (fun _ hk => ⟨hk.2, hk.1⟩)) hg hat)
        have n2_ := Aside0.mk (Kd.R_after (ok := (fun k_ => some k_ ≠ (v287 : Value).ownBlock)) (by (with_reducible repeat (first | apply ra | apply rb | apply rc)); exact HO294.out) hg hat)
        have n3_ := Aside0.mk (hb)
        have n4_ := Aside0.mk (ho)
        clear BK261
        clear HO288
        clear HO294
        clear HB
        clear HO291
        have BK261 := n0_
        have HO288 := n1_
        have HO294 := n2_
        have HB := n3_
        have HO297 := n4_
        clear n0_ n1_ n2_ n3_ n4_
        clear ho hb hg hat
        refine hK.out _ _ ⟨(blk_cell BK261.out 0).trans rfl, (blk_cell BK261.out 1).trans rfl, (blk_cell BK261.out 2).trans rfl, (blk_cell BK261.out 3).trans rfl⟩ (fun hHeld => ?_)
        clear hK K
        refine norm_ (a' := ?_) ?_ ?_
        rotate_left
        ·show Act.put _ (some 34) _ = _
         simp only [Act.put, List.setIfInBounds_toArray, List.set_cons_zero, List.set_cons_succ, i64_w, i32_w]
         rfl
        refine pure_ (i := 7) (N := some 3) (v := ?_) (a' := ?_) #[true, true, true, true, true, true, true, true] rfl rfl (any_of HT_.out (by kernel_rfl)) (fun _ _ _ h => h) (Or.inl ⟨by rfl, ?_⟩) ?_ ?_
        rotate_left
        ·intro w'
         go_simp
         with_reducible rfl
        rotate_left
        ·simp only [Act.put, List.setIfInBounds_toArray, List.set_cons_zero, List.set_cons_succ, i64_w, i32_w]
         rfl
        refine done_ (done_of HT_.out (by kernel_rfl)) ?_
        have hcz49_0 : w47.cell? ⟨gb261, 0, none⟩ = some (.int .i64 a0_0) := (blk_cell BK261.out 0).trans rfl
        have hcz49_1 : w47.cell? ⟨gb261, 1, none⟩ = some (.string a0_1) := (blk_cell BK261.out 1).trans rfl
        have hcz49_2 : w47.cell? ⟨gb261, 2, none⟩ = some (.string a0_2) := (blk_cell BK261.out 2).trans rfl
        have hcz49_3 : w47.cell? ⟨gb261, 3, none⟩ = some (.slice A0_3 l0_3.length c0_3) := (blk_cell BK261.out 3).trans rfl
        have hfz49_0 := blk_frozen BK261.out 0
        have hfz49_1 := blk_frozen BK261.out 1
        have hfz49_2 := blk_frozen BK261.out 2
        have hfz49_3 := blk_frozen BK261.out 3
        try go_wp2
        go_ret
        exact ⟨_, by first | rfl | (simp [errW_none, errW_some] <;> rfl) | (simp [*, errW_none, errW_some] <;> rfl), by (with_reducible repeat (first | apply ra | apply rb | apply rc)); exact Kd.R_mono HO297.out (fun _ hk => trivial), by repeat (first | (with_reducible first | exact HB.out | apply below_alloc | apply pw_below_drewN | apply below_drew1 | refine below_set ?_ GE261.out) | exact HB.out)⟩
       ·rw [if_neg c36] at H
        have c36b0 : (a0_1.toList == ([] : List UInt8)) = false := beq_eq_false_iff_ne.mpr c36
        have c36e0 : (a0_1).toList.isEmpty = false := by cases h_ : (a0_1).toList with | nil => (first | rfl | (rw [h_] at c36b0; cases c36b0)) | cons => (first | rfl | (rw [h_] at c36b0; cases c36b0))
        have c36e1 : (!(a0_1).toList.isEmpty) = true := by rw [c36e0]; rfl
        have c36e2 : ¬ ((!(a0_1).toList.isEmpty) = false) := by rw [c36e1]; decide
        have c36b1 : (a0_1.toList != ([] : List UInt8)) = true := bne_iff_ne.mpr c36
        obtain ⟨y298, hy298⟩ : ∃ y_ : List ByteArray, y_ = (([(⟨#[107, 101, 121]⟩ : ByteArray)] : List ByteArray)) := ⟨_, rfl⟩
        replace H : (if y295.length + y298.length < 8796093022208 then ((some (y295 ++ y298 : List ByteArray)).bind fun y301 => ((some (([a0_1] : List ByteArray) : List ByteArray)).bind fun y304 => (if y301.length + y304.length < 8796093022208 then (some (y301 ++ y304)) else (none)))) else (none)) = some r := by first | (rw [hy298]; with_reducible exact H) | (have H2_ := (Option.bind_some _ _).symm.trans H; rw [hy298]; with_reducible exact H2_) | (have H2_ := (Option.bind_some _ _).symm.trans H; with_reducible exact H2_) | with_reducible exact H | (rw [hy298]; exact H) | exact H
        have Ny298 := Aside0.mk hy298
        clear hy298
        by_cases c50 : y295.length + y298.length < 8796093022208
        ·rw [if_pos c50] at H
         have LMc50 := Aside0.mk c50
         clear c50
         obtain ⟨y301, hy301⟩ : ∃ y_ : List ByteArray, y_ = (y295 ++ y298) := ⟨_, rfl⟩
         replace H : ((some (([a0_1] : List ByteArray) : List ByteArray)).bind fun y304 => (if y301.length + y304.length < 8796093022208 then (some (y301 ++ y304)) else (none))) = some r := by first | (rw [hy301]; with_reducible exact H) | (have H2_ := (Option.bind_some _ _).symm.trans H; rw [hy301]; with_reducible exact H2_) | (have H2_ := (Option.bind_some _ _).symm.trans H; with_reducible exact H2_) | with_reducible exact H | (rw [hy301]; exact H) | exact H
         have Ny301 := Aside0.mk hy301
         clear hy301
         obtain ⟨y304, hy304⟩ : ∃ y_ : List ByteArray, y_ = (([a0_1] : List ByteArray)) := ⟨_, rfl⟩
         replace H : (if y301.length + y304.length < 8796093022208 then (some (y301 ++ y304)) else (none)) = some r := by first | (rw [hy304]; with_reducible exact H) | (have H2_ := (Option.bind_some _ _).symm.trans H; rw [hy304]; with_reducible exact H2_) | (have H2_ := (Option.bind_some _ _).symm.trans H; with_reducible exact H2_) | with_reducible exact H | (rw [hy304]; exact H) | exact H
         have Ny304 := Aside0.mk hy304
         clear hy304
         by_cases c51 : y301.length + y304.length < 8796093022208
         ·rw [if_pos c51] at H
          have LMc51 := Aside0.mk c51
          clear c51
          obtain ⟨y307, hy307⟩ : ∃ y_ : List ByteArray, y_ = (y301 ++ y304) := ⟨_, rfl⟩
          replace H : (some y307) = some r := by first | (rw [hy307]; with_reducible exact H) | (have H2_ := (Option.bind_some _ _).symm.trans H; rw [hy307]; with_reducible exact H2_) | (have H2_ := (Option.bind_some _ _).symm.trans H; with_reducible exact H2_) | with_reducible exact H | (rw [hy307]; exact H) | exact H
          have Ny307 := Aside0.mk hy307
          clear hy307
          obtain rfl := Option.some.inj H
          have hcz52_0 : wr.cell? ⟨gb261, 0, none⟩ = some (.int .i64 a0_0) := (blk_cell BK261.out 0).trans rfl
          have hcz52_1 : wr.cell? ⟨gb261, 1, none⟩ = some (.string a0_1) := (blk_cell BK261.out 1).trans rfl
          have hcz52_2 : wr.cell? ⟨gb261, 2, none⟩ = some (.string a0_2) := (blk_cell BK261.out 2).trans rfl
          have hcz52_3 : wr.cell? ⟨gb261, 3, none⟩ = some (.slice A0_3 l0_3.length c0_3) := (blk_cell BK261.out 3).trans rfl
          have hfz52_0 := blk_frozen BK261.out 0
          have hfz52_1 := blk_frozen BK261.out 1
          have hfz52_2 := blk_frozen BK261.out 2
          have hfz52_3 := blk_frozen BK261.out 3
          obtain ⟨Ao53, co53, eo53⟩ := Kd.R_slice HO_3.out
          subst eo53
          try go_wp2
          have n0_ := Aside0.mk (Kd.R_drew HO_3.out)
          have n1_ := Aside0.mk (blk_drew BK261.out)
          have n2_ := Aside0.mk (below_drew1 HB.out)
          clear HO_3
          clear BK261
          clear HB
          have HO_3 := n0_
          have BK261 := n1_
          have HB := n2_
          clear n0_ n1_ n2_
          refine start_ (n := 8) (S := fun w' => w'.cell? ⟨gb261, 0, none⟩ = some (.int .i64 a0_0) ∧ w'.cell? ⟨gb261, 1, none⟩ = some (.string a0_1) ∧ w'.cell? ⟨gb261, 2, none⟩ = some (.string a0_2) ∧ w'.cell? ⟨gb261, 3, none⟩ = some (.slice A0_3 l0_3.length c0_3)) (ds := []) #[false, false, false, false, false, false, false, false] (by kernel_rfl) rfl rfl ⟨(blk_cell BK261.out 0).trans rfl, (blk_cell BK261.out 1).trans rfl, (blk_cell BK261.out 2).trans rfl, (blk_cell BK261.out 3).trans rfl⟩ (fun hHeld => ?_); refine with_tabW prebendref27_Words.tab7 prebendref27_Words.bits7 (fun HT_ HW_ => ?_)
          generalize wr.drew = w54 at HO_3 BK261 HB hHeld ⊢
          refine pure_ (i := 0) (N := some 28) (v := ?_) (a' := ?_) #[true, false, false, false, false, false, false, false] rfl rfl (any_of HT_.out (by kernel_rfl)) (fun _ _ _ h => h) (Or.inl ⟨by rfl, ?_⟩) ?_ ?_
          rotate_left
          ·intro w'
           go_simp
           with_reducible rfl
          rotate_left
          ·simp only [Act.put, List.setIfInBounds_toArray, List.set_cons_zero, List.set_cons_succ, i64_w, i32_w]
           rfl
          refine pure_ (i := 3) (N := some 31) (v := ?_) (a' := ?_) #[true, false, false, true, false, false, false, false] rfl rfl (any_of HT_.out (by kernel_rfl)) (fun _ _ _ h => h) (Or.inl ⟨by rfl, ?_⟩) ?_ ?_
          rotate_left
          ·intro w'
           go_simp
           with_reducible rfl
          rotate_left
          ·simp only [Act.put, List.setIfInBounds_toArray, List.set_cons_zero, List.set_cons_succ, i64_w, i32_w]
           rfl
          refine take_ (i := 4) (N := some 32) (v := ?_) (a' := ?_) #[true, false, false, true, true, false, false, false] rfl rfl (take_ofW HT_.out HW_.out (by kernel_rfl)) (fun _ _ _ h => h) (Or.inl ⟨by rfl, ?_⟩) hHeld ?_ ?_
          rotate_left
          ·rintro w' ⟨s0, s1, s2, s3⟩
           go_simp
           with_reducible rfl
          rotate_left
          ·simp only [Act.put, List.setIfInBounds_toArray, List.set_cons_zero, List.set_cons_succ, i64_w, i32_w]
           rfl
          refine join_ (σ := Value × Value × Value) 2 #[true, true, true, true, true, true, false, false] (fun s_ => [(29, s_.1), (30, s_.2.1), (33, s_.2.2)]) (fun s_ w' => (w'.cell? ⟨gb261, 0, none⟩ = some (.int .i64 a0_0) ∧ w'.cell? ⟨gb261, 1, none⟩ = some (.string a0_1) ∧ w'.cell? ⟨gb261, 2, none⟩ = some (.string a0_2) ∧ w'.cell? ⟨gb261, 3, none⟩ = some (.slice A0_3 l0_3.length c0_3)) ∧ (Kd.R Kd.string 9 w' w.heap.size (fun k_ => some k_ ≠ (s_.2.1 : Value).ownBlock ∧ some k_ ≠ (s_.2.2 : Value).ownBlock) s_.1 y286) ∧ (Kd.R Kd.string 9 w' w.heap.size (fun k_ => some k_ ≠ (s_.1 : Value).ownBlock ∧ some k_ ≠ (s_.2.2 : Value).ownBlock) s_.2.1 y289) ∧ (Kd.R Kd.string 9 w' w.heap.size (fun k_ => some k_ ≠ (s_.1 : Value).ownBlock ∧ some k_ ≠ (s_.2.1 : Value).ownBlock) s_.2.2 y292) ∧ (w'.heap[gb261]? = some (.cells #[.int .i64 a0_0, .string a0_1, .string a0_2, .slice A0_3 l0_3.length c0_3] 24 (0, 0))) ∧ (Below w.heap.size w w')) ?_ ?_
          rotate_left
          ·intro hCont
           refine two_ (i := 1) (j := 5) (Ni := some 29) (Nj := some 33) #[true, true, false, true, true, false, false, false] #[true, false, false, true, true, true, false, false] rfl rfl rfl rfl (two_of HT_.out (by kernel_rfl)) (by decide) (by decide) (fun K hK => ?_) (fun K hK => ?_)
           ·skip
            refine Kd.R_lit_step Kd.string _ 9 ?hg (N := 29) ?hd (xs := ([(⟨#[110, 97, 109, 101]⟩ : ByteArray)] : List ByteArray)) (inner := [.string (⟨#[110, 97, 109, 101]⟩ : ByteArray)]) (ok := fun _ => True) (okp := fun _ => True) ?hr ?hp (fun _ hk => hk) trivial (Below.refl _ _) (Nat.le_refl _) (by simp) ?_; (case hd => rfl); (case hg => rfl); (case hr => first | (go_simp; done) | (go_simp; rfl)); (case hp => exact (Reps.one (show Kd.M Kd.string _ _ _ (⟨#[110, 97, 109, 101]⟩ : ByteArray) [.string (⟨#[110, 97, 109, 101]⟩ : ByteArray)] from rfl) (Reps.none _ _)))
            intro v287 w55 ho56 hb hg_ hnew_
            clear hg_ hnew_
            (first | rw [← Ny286.out] at ho56 | (simp only [Int.reduceToNat] at ho56; rw [← Ny286.out] at ho56))
            have n0_ := Aside0.mk (Kd.R_elder' (by (with_reducible repeat (first | apply ra | apply rb | apply rc)); exact HO_3.out) (Kd.R_base ho56) hb)
            have n1_ := Aside0.mk (Kd.R_lower (Kd.R_new' ho56 (Kd.R_lt (by (with_reducible repeat (first | apply ra | apply rb | apply rc)); exact HO_3.out))) (below_size (by repeat (first | (with_reducible first | exact HB.out | apply below_alloc | apply pw_below_drewN | apply below_drew1 | refine below_set ?_ GE261.out) | exact HB.out))))
            have n2_ := Aside0.mk (blk_below (g := gb261) (o := .cells #[.int .i64 a0_0, .string a0_1, .string a0_2, .slice A0_3 l0_3.length c0_3] 24 (0, 0)) (by (with_reducible repeat (first | refine kc ?_ _ | refine kb ?_ | refine ka ?_ _)); exact BK261.out) hb)
            have n3_ := Aside0.mk (below_step (by repeat (first | (with_reducible first | exact HB.out | apply below_alloc | apply pw_below_drewN | apply below_drew1 | refine below_set ?_ GE261.out) | exact HB.out)) hb)
            clear HO_3
            clear BK261
            clear HB
            have HO_3 := n0_
            have HO288 := n1_
            have BK261 := n2_
            have HB := n3_
            clear n0_ n1_ n2_ n3_
            clear hb ho56
            obtain ⟨Ao58, co58, eo58⟩ := Kd.R_slice HO288.out
            (first | subst eo58 | (injection eo58 with f1_ f2_ f3_; have f4_ := f1_.symm; have f5_ := f3_.symm; clear f1_ f2_ f3_; subst f4_; subst f5_))
            refine hK.out _ _ ⟨(blk_cell BK261.out 0).trans rfl, (blk_cell BK261.out 1).trans rfl, (blk_cell BK261.out 2).trans rfl, (blk_cell BK261.out 3).trans rfl⟩ (fun hHeld => ?_)
            clear hK K
            refine norm_ (a' := ?_) ?_ ?_
            rotate_left
            ·show Act.put _ (some 29) _ = _
             simp only [Act.put, List.setIfInBounds_toArray, List.set_cons_zero, List.set_cons_succ, i64_w, i32_w]
             rfl
            refine two_ (i := 2) (j := 5) (Ni := some 30) (Nj := some 33) #[true, true, true, true, true, false, false, false] #[true, true, false, true, true, true, false, false] rfl rfl rfl rfl (two_of HT_.out (by kernel_rfl)) (by decide) (by decide) (fun K hK => ?_) (fun K hK => ?_)
            ·skip
             refine Kd.R_append_rows_step Kd.string (w0 := w) w.heap.size (by rfl) (.tmp 28) (.tmp 29) 45 9 (.string ⟨#[]⟩) 16 rfl Tryd.underlying45 info9 rfl (by decide) (by omega) (.slice Ao53 x3_1.length co53) x3_1 y286 _ _ _ (fun k_ => some k_ ≠ (.slice Ao58 y286.length co58 : Value).ownBlock) (fun _ => False) rfl rfl ?aO ?aR (fun _ _ h => h) (fun _ h => h.elim) ?aF ?aB ?aS ?aL ?_
             (case aR => repeat (first | exact (Kd.R_reads' HO288.out).2.2 | (with_reducible refine Kd.C_alloc ?_ _) | (with_reducible refine Kd.C_drewN ?_ _) | (with_reducible refine Kd.C_drew ?_)))
             (case aB => exact (by repeat (first | (with_reducible first | exact HB.out | apply below_alloc | apply pw_below_drewN | apply below_drew1 | refine below_set ?_ GE261.out) | exact HB.out)))
             (case aF => exact (fun k_ hk => Kd.fresh' (Kd.R_lt (by (with_reducible repeat (first | apply ra | apply rb | apply rc)); exact HO288.out)) k_ hk))
             (case aO => exact (by (with_reducible repeat (first | apply ra | apply rb | apply rc)); exact Kd.R_mono HO_3.out (fun _ hk => hk.2)))
             (case aS => exact (below_size (by repeat (first | (with_reducible first | exact HB.out | apply below_alloc | apply pw_below_drewN | apply below_drew1 | refine below_set ?_ GE261.out) | exact HB.out))))
             (case aL => have := LMc34.out; omega)
             intro v290 w57 ho hb hg hat
             rw [← Ny289.out] at ho
             have n0_ := Aside0.mk (blk_grown (g := gb261) (o := .cells #[.int .i64 a0_0, .string a0_1, .string a0_2, .slice A0_3 l0_3.length c0_3] 24 (0, 0)) (by (with_reducible repeat (first | refine kc ?_ _ | refine kb ?_ | refine ka ?_ _)); exact BK261.out) hg (Kd.R_ne HO_3.out BK261.out (by decide)))
             have n1_ := Aside0.mk (Kd.R_after (ok := (fun _ => True)) (by (with_reducible repeat (first | apply ra | apply rb | apply rc)); exact HO288.out) hg hat)
             have n2_ := Aside0.mk (hb)
             have n3_ := Aside0.mk (ho)
             clear BK261
             clear HO288
             clear HB
             clear HO_3
             have BK261 := n0_
             have HO288 := n1_
             have HB := n2_
             have HO291 := n3_
             clear n0_ n1_ n2_ n3_
             clear ho hb hg hat
             refine hK.out _ _ ⟨(blk_cell BK261.out 0).trans rfl, (blk_cell BK261.out 1).trans rfl, (blk_cell BK261.out 2).trans rfl, (blk_cell BK261.out 3).trans rfl⟩ (fun hHeld => ?_)
             clear hK K
             refine norm_ (a' := ?_) ?_ ?_
             rotate_left
             ·show Act.put _ (some 30) _ = _
              simp only [Act.put, List.setIfInBounds_toArray, List.set_cons_zero, List.set_cons_succ, i64_w, i32_w]
              rfl
             refine one_ (i := 5) (N := some 33) #[true, true, true, true, true, true, false, false] rfl rfl (one_of HT_.out (by kernel_rfl)) (by decide) (fun K hK => ?_)
             refine Kd.R_lit_step Kd.string _ 9 ?hg (N := 33) ?hd (xs := ([a0_2] : List ByteArray)) (inner := [.string a0_2]) (ok := fun _ => True) (okp := fun _ => True) ?hr ?hp (fun _ hk => hk) trivial (Below.refl _ _) (Nat.le_refl _) (by simp) ?_; (case hd => rfl); (case hg => rfl); (case hr => first | (go_simp; done) | (go_simp; rfl)); (case hp => exact (Reps.one (show Kd.M Kd.string _ _ _ a0_2 [.string a0_2] from rfl) (Reps.none _ _)))
             intro v293 w59 ho60 hb hg_ hnew_
             clear hg_ hnew_
             (first | rw [← Ny292.out] at ho60 | (simp only [Int.reduceToNat] at ho60; rw [← Ny292.out] at ho60))
             have n0_ := Aside0.mk (Kd.R_elder' (by (with_reducible repeat (first | apply ra | apply rb | apply rc)); exact HO288.out) (Kd.R_base ho60) hb)
             have n1_ := Aside0.mk (Kd.R_elder' (by (with_reducible repeat (first | apply ra | apply rb | apply rc)); exact HO291.out) (Kd.R_base ho60) hb)
             have n2_ := Aside0.mk (Kd.R_lower (Kd.R_new' (Kd.R_new' ho60 (Kd.R_lt (by (with_reducible repeat (first | apply ra | apply rb | apply rc)); exact HO288.out))) (Kd.R_lt (by (with_reducible repeat (first | apply ra | apply rb | apply rc)); exact HO291.out))) (below_size (by repeat (first | (with_reducible first | exact HB.out | apply below_alloc | apply pw_below_drewN | apply below_drew1 | refine below_set ?_ GE261.out) | exact HB.out))))
             have n3_ := Aside0.mk (blk_below (g := gb261) (o := .cells #[.int .i64 a0_0, .string a0_1, .string a0_2, .slice A0_3 l0_3.length c0_3] 24 (0, 0)) (by (with_reducible repeat (first | refine kc ?_ _ | refine kb ?_ | refine ka ?_ _)); exact BK261.out) hb)
             have n4_ := Aside0.mk (below_step (by repeat (first | (with_reducible first | exact HB.out | apply below_alloc | apply pw_below_drewN | apply below_drew1 | refine below_set ?_ GE261.out) | exact HB.out)) hb)
             clear HO288
             clear HO291
             clear BK261
             clear HB
             have HO288 := n0_
             have HO291 := n1_
             have HO294 := n2_
             have BK261 := n3_
             have HB := n4_
             clear n0_ n1_ n2_ n3_ n4_
             clear hb ho60
             refine hK.out _ _ ⟨(blk_cell BK261.out 0).trans rfl, (blk_cell BK261.out 1).trans rfl, (blk_cell BK261.out 2).trans rfl, (blk_cell BK261.out 3).trans rfl⟩ (fun hHeld => ?_)
             clear hK K
             refine norm_ (a' := ?_) ?_ ?_
             rotate_left
             ·show Act.put _ (some 33) _ = _
              simp only [Act.put, List.setIfInBounds_toArray, List.set_cons_zero, List.set_cons_succ, i64_w, i32_w]
              rfl
             exact norm_ (by simp only [putAll, Act.put, List.setIfInBounds_toArray, List.set_cons_zero, List.set_cons_succ]) (hCont (.slice Ao58 y286.length co58, v290, v293) _ ⟨hHeld, (by (with_reducible repeat (first | apply ra | apply rb | apply rc)); exact Kd.R_mono HO288.out (fun _ hk => ⟨hk.1.2, hk.2⟩)), (by (with_reducible repeat (first | apply ra | apply rb | apply rc)); exact HO291.out), (by (with_reducible repeat (first | apply ra | apply rb | apply rc)); exact Kd.R_mono HO294.out (fun _ hk => ⟨hk.1.2, hk.2⟩)), (by (with_reducible repeat (first | refine kc ?_ _ | refine kb ?_ | refine ka ?_ _)); exact BK261.out), (by repeat (first | (with_reducible first | exact HB.out | apply below_alloc | apply pw_below_drewN | apply below_drew1 | refine below_set ?_ GE261.out) | exact HB.out))⟩)
            ·skip
             refine Kd.R_lit_step Kd.string _ 9 ?hg (N := 33) ?hd (xs := ([a0_2] : List ByteArray)) (inner := [.string a0_2]) (ok := fun _ => True) (okp := fun _ => True) ?hr ?hp (fun _ hk => hk) trivial (Below.refl _ _) (Nat.le_refl _) (by simp) ?_; (case hd => rfl); (case hg => rfl); (case hr => first | (go_simp; done) | (go_simp; rfl)); (case hp => exact (Reps.one (show Kd.M Kd.string _ _ _ a0_2 [.string a0_2] from rfl) (Reps.none _ _)))
             intro v293 w57 ho58 hb hg_ hnew_
             clear hg_ hnew_
             (first | rw [← Ny292.out] at ho58 | (simp only [Int.reduceToNat] at ho58; rw [← Ny292.out] at ho58))
             have n0_ := Aside0.mk (Kd.R_elder' (by (with_reducible repeat (first | apply ra | apply rb | apply rc)); exact HO_3.out) (Kd.R_base ho58) hb)
             have n1_ := Aside0.mk (Kd.R_elder' (by (with_reducible repeat (first | apply ra | apply rb | apply rc)); exact HO288.out) (Kd.R_base ho58) hb)
             have n2_ := Aside0.mk (Kd.R_lower (Kd.R_new' (Kd.R_new' ho58 (Kd.R_lt (by (with_reducible repeat (first | apply ra | apply rb | apply rc)); exact HO_3.out))) (Kd.R_lt (by (with_reducible repeat (first | apply ra | apply rb | apply rc)); exact HO288.out))) (below_size (by repeat (first | (with_reducible first | exact HB.out | apply below_alloc | apply pw_below_drewN | apply below_drew1 | refine below_set ?_ GE261.out) | exact HB.out))))
             have n3_ := Aside0.mk (blk_below (g := gb261) (o := .cells #[.int .i64 a0_0, .string a0_1, .string a0_2, .slice A0_3 l0_3.length c0_3] 24 (0, 0)) (by (with_reducible repeat (first | refine kc ?_ _ | refine kb ?_ | refine ka ?_ _)); exact BK261.out) hb)
             have n4_ := Aside0.mk (below_step (by repeat (first | (with_reducible first | exact HB.out | apply below_alloc | apply pw_below_drewN | apply below_drew1 | refine below_set ?_ GE261.out) | exact HB.out)) hb)
             clear HO_3
             clear HO288
             clear BK261
             clear HB
             have HO_3 := n0_
             have HO288 := n1_
             have HO294 := n2_
             have BK261 := n3_
             have HB := n4_
             clear n0_ n1_ n2_ n3_ n4_
             clear hb ho58
             obtain ⟨Ao60, co60, eo60⟩ := Kd.R_slice HO288.out
             (first | subst eo60 | (injection eo60 with f1_ f2_ f3_; have f4_ := f1_.symm; have f5_ := f3_.symm; clear f1_ f2_ f3_; subst f4_; subst f5_))
             refine hK.out _ _ ⟨(blk_cell BK261.out 0).trans rfl, (blk_cell BK261.out 1).trans rfl, (blk_cell BK261.out 2).trans rfl, (blk_cell BK261.out 3).trans rfl⟩ (fun hHeld => ?_)
             clear hK K
             refine norm_ (a' := ?_) ?_ ?_
             rotate_left
             ·show Act.put _ (some 33) _ = _
              simp only [Act.put, List.setIfInBounds_toArray, List.set_cons_zero, List.set_cons_succ, i64_w, i32_w]
              rfl
             refine one_ (i := 2) (N := some 30) #[true, true, true, true, true, true, false, false] rfl rfl (one_of HT_.out (by kernel_rfl)) (by decide) (fun K hK => ?_)
             refine Kd.R_append_rows_step Kd.string (w0 := w) w.heap.size (by rfl) (.tmp 28) (.tmp 29) 45 9 (.string ⟨#[]⟩) 16 rfl Tryd.underlying45 info9 rfl (by decide) (by omega) (.slice Ao53 x3_1.length co53) x3_1 y286 _ _ _ (fun k_ => some k_ ≠ (.slice Ao60 y286.length co60 : Value).ownBlock ∧ some k_ ≠ (v293 : Value).ownBlock) (fun _ => False) rfl rfl ?aO ?aR (fun _ _ h => h) (fun _ h => h.elim) ?aF ?aB ?aS ?aL ?_
             (case aR => repeat (first | exact (Kd.R_reads' HO288.out).2.2 | (with_reducible refine Kd.C_alloc ?_ _) | (with_reducible refine Kd.C_drewN ?_ _) | (with_reducible refine Kd.C_drew ?_)))
             (case aB => exact (by repeat (first | (with_reducible first | exact HB.out | apply below_alloc | apply pw_below_drewN | apply below_drew1 | refine below_set ?_ GE261.out) | exact HB.out)))
             (case aF => exact (fun k_ hk => ⟨Kd.fresh' (Kd.R_lt (by (with_reducible repeat (first | apply ra | apply rb | apply rc)); exact HO288.out)) k_ hk, Kd.fresh' (Kd.R_lt (by (with_reducible repeat (first | apply ra | apply rb | apply rc)); exact HO294.out)) k_ hk⟩))
             (case aO => exact (by (with_reducible repeat (first | apply ra | apply rb | apply rc)); exact Kd.R_mono HO_3.out (fun _ hk => ⟨hk.1.2, hk.2⟩)))
             (case aS => exact (below_size (by repeat (first | (with_reducible first | exact HB.out | apply below_alloc | apply pw_below_drewN | apply below_drew1 | refine below_set ?_ GE261.out) | exact HB.out))))
             (case aL => have := LMc34.out; omega)
             intro v290 w59 ho hb hg hat
             rw [← Ny289.out] at ho
             have n0_ := Aside0.mk (blk_grown (g := gb261) (o := .cells #[.int .i64 a0_0, .string a0_1, .string a0_2, .slice A0_3 l0_3.length c0_3] 24 (0, 0)) (by (with_reducible repeat (first | refine kc ?_ _ | refine kb ?_ | refine ka ?_ _)); exact BK261.out) hg (Kd.R_ne HO_3.out BK261.out (by decide)))
             have n1_ := Aside0.mk (Kd.R_after (ok := (fun k_ => some k_ ≠ (v293 : Value).ownBlock)) (by (with_reducible repeat (first | apply ra | apply rb | apply rc)); exact Kd.R_mono HO288.out (fun _ hk => ⟨hk.2, hk.1.2⟩)) hg hat)
             have n2_ := Aside0.mk (Kd.R_after (ok := (fun k_ => some k_ ≠ (.slice Ao60 y286.length co60 : Value).ownBlock)) (by (with_reducible repeat (first | apply ra | apply rb | apply rc)); exact Kd.R_mono HO294.out (fun _ hk => ⟨hk.2, hk.1.2⟩)) hg hat)
             have n3_ := Aside0.mk (hb)
             have n4_ := Aside0.mk (ho)
             clear BK261
             clear HO288
             clear HO294
             clear HB
             clear HO_3
             have BK261 := n0_
             have HO288 := n1_
             have HO294 := n2_
             have HB := n3_
             have HO291 := n4_
             clear n0_ n1_ n2_ n3_ n4_
             clear ho hb hg hat
             refine hK.out _ _ ⟨(blk_cell BK261.out 0).trans rfl, (blk_cell BK261.out 1).trans rfl, (blk_cell BK261.out 2).trans rfl, (blk_cell BK261.out 3).trans rfl⟩ (fun hHeld => ?_)
             clear hK K
             refine norm_ (a' := ?_) ?_ ?_
             rotate_left
             ·show Act.put _ (some 30) _ = _
              simp only [Act.put, List.setIfInBounds_toArray, List.set_cons_zero, List.set_cons_succ, i64_w, i32_w]
              rfl
             exact norm_ (by simp only [putAll, Act.put, List.setIfInBounds_toArray, List.set_cons_zero, List.set_cons_succ]) (hCont (.slice Ao60 y286.length co60, v290, v293) _ ⟨hHeld, (by (with_reducible repeat (first | apply ra | apply rb | apply rc)); exact Kd.R_mono HO288.out (fun _ hk => ⟨hk.2, hk.1⟩)), (by (with_reducible repeat (first | apply ra | apply rb | apply rc)); exact HO291.out), (by (with_reducible repeat (first | apply ra | apply rb | apply rc)); exact HO294.out), (by (with_reducible repeat (first | refine kc ?_ _ | refine kb ?_ | refine ka ?_ _)); exact BK261.out), (by repeat (first | (with_reducible first | exact HB.out | apply below_alloc | apply pw_below_drewN | apply below_drew1 | refine below_set ?_ GE261.out) | exact HB.out))⟩)
           ·skip
            refine Kd.R_lit_step Kd.string _ 9 ?hg (N := 33) ?hd (xs := ([a0_2] : List ByteArray)) (inner := [.string a0_2]) (ok := fun _ => True) (okp := fun _ => True) ?hr ?hp (fun _ hk => hk) trivial (Below.refl _ _) (Nat.le_refl _) (by simp) ?_; (case hd => rfl); (case hg => rfl); (case hr => first | (go_simp; done) | (go_simp; rfl)); (case hp => exact (Reps.one (show Kd.M Kd.string _ _ _ a0_2 [.string a0_2] from rfl) (Reps.none _ _)))
            intro v293 w55 ho56 hb hg_ hnew_
            clear hg_ hnew_
            (first | rw [← Ny292.out] at ho56 | (simp only [Int.reduceToNat] at ho56; rw [← Ny292.out] at ho56))
            have n0_ := Aside0.mk (Kd.R_elder' (by (with_reducible repeat (first | apply ra | apply rb | apply rc)); exact HO_3.out) (Kd.R_base ho56) hb)
            have n1_ := Aside0.mk (Kd.R_lower (Kd.R_new' ho56 (Kd.R_lt (by (with_reducible repeat (first | apply ra | apply rb | apply rc)); exact HO_3.out))) (below_size (by repeat (first | (with_reducible first | exact HB.out | apply below_alloc | apply pw_below_drewN | apply below_drew1 | refine below_set ?_ GE261.out) | exact HB.out))))
            have n2_ := Aside0.mk (blk_below (g := gb261) (o := .cells #[.int .i64 a0_0, .string a0_1, .string a0_2, .slice A0_3 l0_3.length c0_3] 24 (0, 0)) (by (with_reducible repeat (first | refine kc ?_ _ | refine kb ?_ | refine ka ?_ _)); exact BK261.out) hb)
            have n3_ := Aside0.mk (below_step (by repeat (first | (with_reducible first | exact HB.out | apply below_alloc | apply pw_below_drewN | apply below_drew1 | refine below_set ?_ GE261.out) | exact HB.out)) hb)
            clear HO_3
            clear BK261
            clear HB
            have HO_3 := n0_
            have HO294 := n1_
            have BK261 := n2_
            have HB := n3_
            clear n0_ n1_ n2_ n3_
            clear hb ho56
            refine hK.out _ _ ⟨(blk_cell BK261.out 0).trans rfl, (blk_cell BK261.out 1).trans rfl, (blk_cell BK261.out 2).trans rfl, (blk_cell BK261.out 3).trans rfl⟩ (fun hHeld => ?_)
            clear hK K
            refine norm_ (a' := ?_) ?_ ?_
            rotate_left
            ·show Act.put _ (some 33) _ = _
             simp only [Act.put, List.setIfInBounds_toArray, List.set_cons_zero, List.set_cons_succ, i64_w, i32_w]
             rfl
            refine one_ (i := 1) (N := some 29) #[true, true, false, true, true, true, false, false] rfl rfl (one_of HT_.out (by kernel_rfl)) (by decide) (fun K hK => ?_)
            refine Kd.R_lit_step Kd.string _ 9 ?hg (N := 29) ?hd (xs := ([(⟨#[110, 97, 109, 101]⟩ : ByteArray)] : List ByteArray)) (inner := [.string (⟨#[110, 97, 109, 101]⟩ : ByteArray)]) (ok := fun _ => True) (okp := fun _ => True) ?hr ?hp (fun _ hk => hk) trivial (Below.refl _ _) (Nat.le_refl _) (by simp) ?_; (case hd => rfl); (case hg => rfl); (case hr => first | (go_simp; done) | (go_simp; rfl)); (case hp => exact (Reps.one (show Kd.M Kd.string _ _ _ (⟨#[110, 97, 109, 101]⟩ : ByteArray) [.string (⟨#[110, 97, 109, 101]⟩ : ByteArray)] from rfl) (Reps.none _ _)))
            intro v287 w57 ho58 hb hg_ hnew_
            clear hg_ hnew_
            (first | rw [← Ny286.out] at ho58 | (simp only [Int.reduceToNat] at ho58; rw [← Ny286.out] at ho58))
            have n0_ := Aside0.mk (Kd.R_elder' (by (with_reducible repeat (first | apply ra | apply rb | apply rc)); exact HO_3.out) (Kd.R_base ho58) hb)
            have n1_ := Aside0.mk (Kd.R_elder' (by (with_reducible repeat (first | apply ra | apply rb | apply rc)); exact HO294.out) (Kd.R_base ho58) hb)
            have n2_ := Aside0.mk (Kd.R_lower (Kd.R_new' (Kd.R_new' ho58 (Kd.R_lt (by (with_reducible repeat (first | apply ra | apply rb | apply rc)); exact HO_3.out))) (Kd.R_lt (by (with_reducible repeat (first | apply ra | apply rb | apply rc)); exact HO294.out))) (below_size (by repeat (first | (with_reducible first | exact HB.out | apply below_alloc | apply pw_below_drewN | apply below_drew1 | refine below_set ?_ GE261.out) | exact HB.out))))
            have n3_ := Aside0.mk (blk_below (g := gb261) (o := .cells #[.int .i64 a0_0, .string a0_1, .string a0_2, .slice A0_3 l0_3.length c0_3] 24 (0, 0)) (by (with_reducible repeat (first | refine kc ?_ _ | refine kb ?_ | refine ka ?_ _)); exact BK261.out) hb)
            have n4_ := Aside0.mk (below_step (by repeat (first | (with_reducible first | exact HB.out | apply below_alloc | apply pw_below_drewN | apply below_drew1 | refine below_set ?_ GE261.out) | exact HB.out)) hb)
            clear HO_3
            clear HO294
            clear BK261
            clear HB
            have HO_3 := n0_
            have HO294 := n1_
            have HO288 := n2_
            have BK261 := n3_
            have HB := n4_
            clear n0_ n1_ n2_ n3_ n4_
            clear hb ho58
            obtain ⟨Ao60, co60, eo60⟩ := Kd.R_slice HO288.out
            (first | subst eo60 | (injection eo60 with f1_ f2_ f3_; have f4_ := f1_.symm; have f5_ := f3_.symm; clear f1_ f2_ f3_; subst f4_; subst f5_))
            refine hK.out _ _ ⟨(blk_cell BK261.out 0).trans rfl, (blk_cell BK261.out 1).trans rfl, (blk_cell BK261.out 2).trans rfl, (blk_cell BK261.out 3).trans rfl⟩ (fun hHeld => ?_)
            clear hK K
            refine norm_ (a' := ?_) ?_ ?_
            rotate_left
            ·show Act.put _ (some 29) _ = _
             simp only [Act.put, List.setIfInBounds_toArray, List.set_cons_zero, List.set_cons_succ, i64_w, i32_w]
             rfl
            refine one_ (i := 2) (N := some 30) #[true, true, true, true, true, true, false, false] rfl rfl (one_of HT_.out (by kernel_rfl)) (by decide) (fun K hK => ?_)
            refine Kd.R_append_rows_step Kd.string (w0 := w) w.heap.size (by rfl) (.tmp 28) (.tmp 29) 45 9 (.string ⟨#[]⟩) 16 rfl Tryd.underlying45 info9 rfl (by decide) (by omega) (.slice Ao53 x3_1.length co53) x3_1 y286 _ _ _ (fun k_ => some k_ ≠ (v293 : Value).ownBlock ∧ some k_ ≠ (.slice Ao60 y286.length co60 : Value).ownBlock) (fun _ => False) rfl rfl ?aO ?aR (fun _ _ h => h) (fun _ h => h.elim) ?aF ?aB ?aS ?aL ?_
            (case aR => repeat (first | exact (Kd.R_reads' HO288.out).2.2 | (with_reducible refine Kd.C_alloc ?_ _) | (with_reducible refine Kd.C_drewN ?_ _) | (with_reducible refine Kd.C_drew ?_)))
            (case aB => exact (by repeat (first | (with_reducible first | exact HB.out | apply below_alloc | apply pw_below_drewN | apply below_drew1 | refine below_set ?_ GE261.out) | exact HB.out)))
            (case aF => exact (fun k_ hk => ⟨Kd.fresh' (Kd.R_lt (by (with_reducible repeat (first | apply ra | apply rb | apply rc)); exact HO294.out)) k_ hk, Kd.fresh' (Kd.R_lt (by (with_reducible repeat (first | apply ra | apply rb | apply rc)); exact HO288.out)) k_ hk⟩))
            (case aO => exact (by (with_reducible repeat (first | apply ra | apply rb | apply rc)); exact Kd.R_mono HO_3.out (fun _ hk => ⟨hk.1.2, hk.2⟩)))
            (case aS => exact (below_size (by repeat (first | (with_reducible first | exact HB.out | apply below_alloc | apply pw_below_drewN | apply below_drew1 | refine below_set ?_ GE261.out) | exact HB.out))))
            (case aL => have := LMc34.out; omega)
            intro v290 w59 ho hb hg hat
            rw [← Ny289.out] at ho
            have n0_ := Aside0.mk (blk_grown (g := gb261) (o := .cells #[.int .i64 a0_0, .string a0_1, .string a0_2, .slice A0_3 l0_3.length c0_3] 24 (0, 0)) (by (with_reducible repeat (first | refine kc ?_ _ | refine kb ?_ | refine ka ?_ _)); exact BK261.out) hg (Kd.R_ne HO_3.out BK261.out (by decide)))
            have n1_ := Aside0.mk (Kd.R_after (ok := (fun k_ => some k_ ≠ (.slice Ao60 y286.length co60 : Value).ownBlock)) (by (with_reducible repeat (first | apply ra | apply rb | apply rc)); exact Kd.R_mono HO294.out (fun _ hk => ⟨hk.2, hk.1.2⟩)) hg hat)
            have n2_ := Aside0.mk (Kd.R_after (ok := (fun k_ => some k_ ≠ (v293 : Value).ownBlock)) (by (with_reducible repeat (first | apply ra | apply rb | apply rc)); exact Kd.R_mono HO288.out (fun _ hk => ⟨hk.2, hk.1.2⟩)) hg hat)
            have n3_ := Aside0.mk (hb)
            have n4_ := Aside0.mk (ho)
            clear BK261
            clear HO294
            clear HO288
            clear HB
            clear HO_3
            have BK261 := n0_
            have HO294 := n1_
            have HO288 := n2_
            have HB := n3_
            have HO291 := n4_
            clear n0_ n1_ n2_ n3_ n4_
            clear ho hb hg hat
            refine hK.out _ _ ⟨(blk_cell BK261.out 0).trans rfl, (blk_cell BK261.out 1).trans rfl, (blk_cell BK261.out 2).trans rfl, (blk_cell BK261.out 3).trans rfl⟩ (fun hHeld => ?_)
            clear hK K
            refine norm_ (a' := ?_) ?_ ?_
            rotate_left
            ·show Act.put _ (some 30) _ = _
             simp only [Act.put, List.setIfInBounds_toArray, List.set_cons_zero, List.set_cons_succ, i64_w, i32_w]
             rfl
            exact norm_ (by simp only [putAll, Act.put, List.setIfInBounds_toArray, List.set_cons_zero, List.set_cons_succ]) (hCont (.slice Ao60 y286.length co60, v290, v293) _ ⟨hHeld, (by (with_reducible repeat (first | apply ra | apply rb | apply rc)); exact Kd.R_mono HO288.out (fun _ hk => ⟨hk.2, hk.1⟩)), (by (with_reducible repeat (first | apply ra | apply rb | apply rc)); exact Kd.R_mono HO291.out (fun _ hk => ⟨hk.2, hk.1⟩)), (by (with_reducible repeat (first | apply ra | apply rb | apply rc)); exact HO294.out), (by (with_reducible repeat (first | refine kc ?_ _ | refine kb ?_ | refine ka ?_ _)); exact BK261.out), (by repeat (first | (with_reducible first | exact HB.out | apply below_alloc | apply pw_below_drewN | apply below_drew1 | refine below_set ?_ GE261.out) | exact HB.out))⟩)
          rintro ⟨v287, v290, v293⟩ w61 ⟨hS_, h0_, h1_, h2_, h3_, h4_⟩
          have n0_ : Aside0 (Kd.R Kd.string 9 w61 w.heap.size (fun k_ => some k_ ≠ (v290 : Value).ownBlock ∧ some k_ ≠ (v293 : Value).ownBlock) v287 y286) := ⟨h0_⟩
          have n1_ : Aside0 (Kd.R Kd.string 9 w61 w.heap.size (fun k_ => some k_ ≠ (v287 : Value).ownBlock ∧ some k_ ≠ (v293 : Value).ownBlock) v290 y289) := ⟨h1_⟩
          have n2_ : Aside0 (Kd.R Kd.string 9 w61 w.heap.size (fun k_ => some k_ ≠ (v287 : Value).ownBlock ∧ some k_ ≠ (v290 : Value).ownBlock) v293 y292) := ⟨h2_⟩
          have n3_ : Aside0 (w61.heap[gb261]? = some (.cells #[.int .i64 a0_0, .string a0_1, .string a0_2, .slice A0_3 l0_3.length c0_3] 24 (0, 0))) := ⟨h3_⟩
          have n4_ : Aside0 (Below w.heap.size w w61) := ⟨h4_⟩
          clear HO_3
          clear BK261
          clear HB
          clear h0_ h1_ h2_ h3_ h4_
          have HO288 := n0_
          have HO291 := n1_
          have HO294 := n2_
          have BK261 := n3_
          have HB := n4_
          clear n0_ n1_ n2_ n3_ n4_
          have hHeld : w61.cell? ⟨gb261, 0, none⟩ = some (.int .i64 a0_0) ∧ w61.cell? ⟨gb261, 1, none⟩ = some (.string a0_1) ∧ w61.cell? ⟨gb261, 2, none⟩ = some (.string a0_2) ∧ w61.cell? ⟨gb261, 3, none⟩ = some (.slice A0_3 l0_3.length c0_3) := hS_
          obtain ⟨Ao63, co63, eo63⟩ := Kd.R_slice HO294.out
          (first | subst eo63 | (injection eo63 with f1_ f2_ f3_; have f4_ := f1_.symm; have f5_ := f3_.symm; clear f1_ f2_ f3_; subst f4_; subst f5_))
          refine norm_ (a' := ?_) ?_ ?_
          rotate_left
          ·simp only [putAll, Act.put, List.setIfInBounds_toArray, List.set_cons_zero, List.set_cons_succ]
           rfl
          refine one_ (i := 6) (N := some 34) #[true, true, true, true, true, true, true, false] rfl rfl (one_of HT_.out (by kernel_rfl)) (by decide) (fun K hK => ?_)
          refine Kd.R_append_rows_step Kd.string (w0 := w) w.heap.size (by rfl) (.tmp 30) (.tmp 33) 45 9 (.string ⟨#[]⟩) 16 rfl Tryd.underlying45 info9 rfl (by decide) (by omega) v290 y289 y292 _ _ _ (fun k_ => some k_ ≠ (v287 : Value).ownBlock ∧ some k_ ≠ (.slice Ao63 y292.length co63 : Value).ownBlock) (fun _ => False) rfl rfl ?aO ?aR (fun _ _ h => h) (fun _ h => h.elim) ?aF ?aB ?aS ?aL ?_
          (case aR => repeat (first | exact (Kd.R_reads' HO294.out).2.2 | (with_reducible refine Kd.C_alloc ?_ _) | (with_reducible refine Kd.C_drewN ?_ _) | (with_reducible refine Kd.C_drew ?_)))
          (case aB => exact (by repeat (first | (with_reducible first | exact HB.out | apply below_alloc | apply pw_below_drewN | apply below_drew1 | refine below_set ?_ GE261.out) | exact HB.out)))
          (case aF => exact (fun k_ hk => ⟨Kd.fresh' (Kd.R_lt (by (with_reducible repeat (first | apply ra | apply rb | apply rc)); exact HO288.out)) k_ hk, Kd.fresh' (Kd.R_lt (by (with_reducible repeat (first | apply ra | apply rb | apply rc)); exact HO294.out)) k_ hk⟩))
          (case aO => exact (by (with_reducible repeat (first | apply ra | apply rb | apply rc)); exact HO291.out))
          (case aS => exact (below_size (by repeat (first | (with_reducible first | exact HB.out | apply below_alloc | apply pw_below_drewN | apply below_drew1 | refine below_set ?_ GE261.out) | exact HB.out))))
          (case aL => have := LMc35.out; omega)
          intro v296 w62 ho hb hg hat
          rw [← Ny295.out] at ho
          have n0_ := Aside0.mk (blk_grown (g := gb261) (o := .cells #[.int .i64 a0_0, .string a0_1, .string a0_2, .slice A0_3 l0_3.length c0_3] 24 (0, 0)) (by (with_reducible repeat (first | refine kc ?_ _ | refine kb ?_ | refine ka ?_ _)); exact BK261.out) hg (Kd.R_ne HO291.out BK261.out (by decide)))
          have n1_ := Aside0.mk (Kd.R_after (ok := (fun k_ => some k_ ≠ (.slice Ao63 y292.length co63 : Value).ownBlock)) (by (with_reducible repeat (first | apply ra | apply rb | apply rc)); exact Kd.R_mono HO288.out (fun _ hk => ⟨hk.2, hk.1⟩)) hg hat)
          have n2_ := Aside0.mk (Kd.R_after (ok := (fun k_ => some k_ ≠ (v287 : Value).ownBlock)) (by (with_reducible repeat (first | apply ra | apply rb | apply rc)); exact HO294.out) hg hat)
          have n3_ := Aside0.mk (hb)
          have n4_ := Aside0.mk (ho)
          clear BK261
          clear HO288
          clear HO294
          clear HB
          clear HO291
          have BK261 := n0_
          have HO288 := n1_
          have HO294 := n2_
          have HB := n3_
          have HO297 := n4_
          clear n0_ n1_ n2_ n3_ n4_
          clear ho hb hg hat
          refine hK.out _ _ ⟨(blk_cell BK261.out 0).trans rfl, (blk_cell BK261.out 1).trans rfl, (blk_cell BK261.out 2).trans rfl, (blk_cell BK261.out 3).trans rfl⟩ (fun hHeld => ?_)
          clear hK K
          refine norm_ (a' := ?_) ?_ ?_
          rotate_left
          ·show Act.put _ (some 34) _ = _
           simp only [Act.put, List.setIfInBounds_toArray, List.set_cons_zero, List.set_cons_succ, i64_w, i32_w]
           rfl
          refine pure_ (i := 7) (N := some 3) (v := ?_) (a' := ?_) #[true, true, true, true, true, true, true, true] rfl rfl (any_of HT_.out (by kernel_rfl)) (fun _ _ _ h => h) (Or.inl ⟨by rfl, ?_⟩) ?_ ?_
          rotate_left
          ·intro w'
           go_simp
           with_reducible rfl
          rotate_left
          ·simp only [Act.put, List.setIfInBounds_toArray, List.set_cons_zero, List.set_cons_succ, i64_w, i32_w]
           rfl
          refine done_ (done_of HT_.out (by kernel_rfl)) ?_
          have hcz64_0 : w62.cell? ⟨gb261, 0, none⟩ = some (.int .i64 a0_0) := (blk_cell BK261.out 0).trans rfl
          have hcz64_1 : w62.cell? ⟨gb261, 1, none⟩ = some (.string a0_1) := (blk_cell BK261.out 1).trans rfl
          have hcz64_2 : w62.cell? ⟨gb261, 2, none⟩ = some (.string a0_2) := (blk_cell BK261.out 2).trans rfl
          have hcz64_3 : w62.cell? ⟨gb261, 3, none⟩ = some (.slice A0_3 l0_3.length c0_3) := (blk_cell BK261.out 3).trans rfl
          have hfz64_0 := blk_frozen BK261.out 0
          have hfz64_1 := blk_frozen BK261.out 1
          have hfz64_2 := blk_frozen BK261.out 2
          have hfz64_3 := blk_frozen BK261.out 3
          obtain ⟨Ao65, co65, eo65⟩ := Kd.R_slice HO297.out
          subst eo65
          try go_wp2
          have n0_ := Aside0.mk (Kd.R_drew HO288.out)
          have n1_ := Aside0.mk (Kd.R_drew HO294.out)
          have n2_ := Aside0.mk (Kd.R_drew HO297.out)
          have n3_ := Aside0.mk (blk_drew BK261.out)
          have n4_ := Aside0.mk (below_drew1 HB.out)
          clear HO288
          clear HO294
          clear HO297
          clear BK261
          clear HB
          have HO288 := n0_
          have HO294 := n1_
          have HO297 := n2_
          have BK261 := n3_
          have HB := n4_
          clear n0_ n1_ n2_ n3_ n4_
          refine start_ (n := 8) (S := fun w' => w'.cell? ⟨gb261, 0, none⟩ = some (.int .i64 a0_0) ∧ w'.cell? ⟨gb261, 1, none⟩ = some (.string a0_1) ∧ w'.cell? ⟨gb261, 2, none⟩ = some (.string a0_2) ∧ w'.cell? ⟨gb261, 3, none⟩ = some (.slice A0_3 l0_3.length c0_3)) (ds := []) #[false, false, false, false, false, false, false, false] (by kernel_rfl) rfl rfl ⟨(blk_cell BK261.out 0).trans rfl, (blk_cell BK261.out 1).trans rfl, (blk_cell BK261.out 2).trans rfl, (blk_cell BK261.out 3).trans rfl⟩ (fun hHeld => ?_); refine with_tabW prebendref27_Words.tab9 prebendref27_Words.bits9 (fun HT_ HW_ => ?_)
          generalize w62.drew = w66 at HO288 HO294 HO297 BK261 HB hHeld ⊢
          refine pure_ (i := 0) (N := some 38) (v := ?_) (a' := ?_) #[true, false, false, false, false, false, false, false] rfl rfl (any_of HT_.out (by kernel_rfl)) (fun _ _ _ h => h) (Or.inl ⟨by rfl, ?_⟩) ?_ ?_
          rotate_left
          ·intro w'
           go_simp
           with_reducible rfl
          rotate_left
          ·simp only [Act.put, List.setIfInBounds_toArray, List.set_cons_zero, List.set_cons_succ, i64_w, i32_w]
           rfl
          refine pure_ (i := 3) (N := some 41) (v := ?_) (a' := ?_) #[true, false, false, true, false, false, false, false] rfl rfl (any_of HT_.out (by kernel_rfl)) (fun _ _ _ h => h) (Or.inl ⟨by rfl, ?_⟩) ?_ ?_
          rotate_left
          ·intro w'
           go_simp
           with_reducible rfl
          rotate_left
          ·simp only [Act.put, List.setIfInBounds_toArray, List.set_cons_zero, List.set_cons_succ, i64_w, i32_w]
           rfl
          refine take_ (i := 4) (N := some 42) (v := ?_) (a' := ?_) #[true, false, false, true, true, false, false, false] rfl rfl (take_ofW HT_.out HW_.out (by kernel_rfl)) (fun _ _ _ h => h) (Or.inl ⟨by rfl, ?_⟩) hHeld ?_ ?_
          rotate_left
          ·rintro w' ⟨s0, s1, s2, s3⟩
           go_simp
           with_reducible rfl
          rotate_left
          ·simp only [Act.put, List.setIfInBounds_toArray, List.set_cons_zero, List.set_cons_succ, i64_w, i32_w]
           rfl
          refine join_ (σ := Value × Value × Value) 2 #[true, true, true, true, true, true, false, false] (fun s_ => [(39, s_.1), (40, s_.2.1), (43, s_.2.2)]) (fun s_ w' => (w'.cell? ⟨gb261, 0, none⟩ = some (.int .i64 a0_0) ∧ w'.cell? ⟨gb261, 1, none⟩ = some (.string a0_1) ∧ w'.cell? ⟨gb261, 2, none⟩ = some (.string a0_2) ∧ w'.cell? ⟨gb261, 3, none⟩ = some (.slice A0_3 l0_3.length c0_3)) ∧ (Kd.R Kd.string 9 w' w.heap.size (fun k_ => some k_ ≠ (.slice Ao63 y292.length co63 : Value).ownBlock ∧ some k_ ≠ (s_.1 : Value).ownBlock ∧ some k_ ≠ (s_.2.1 : Value).ownBlock ∧ some k_ ≠ (s_.2.2 : Value).ownBlock) v287 y286) ∧ (Kd.R Kd.string 9 w' w.heap.size (fun k_ => some k_ ≠ (v287 : Value).ownBlock ∧ some k_ ≠ (s_.1 : Value).ownBlock ∧ some k_ ≠ (s_.2.1 : Value).ownBlock ∧ some k_ ≠ (s_.2.2 : Value).ownBlock) (.slice Ao63 y292.length co63) y292) ∧ (Kd.R Kd.string 9 w' w.heap.size (fun k_ => some k_ ≠ (v287 : Value).ownBlock ∧ some k_ ≠ (.slice Ao63 y292.length co63 : Value).ownBlock ∧ some k_ ≠ (s_.2.1 : Value).ownBlock ∧ some k_ ≠ (s_.2.2 : Value).ownBlock) s_.1 y298) ∧ (Kd.R Kd.string 9 w' w.heap.size (fun k_ => some k_ ≠ (v287 : Value).ownBlock ∧ some k_ ≠ (.slice Ao63 y292.length co63 : Value).ownBlock ∧ some k_ ≠ (s_.1 : Value).ownBlock ∧ some k_ ≠ (s_.2.2 : Value).ownBlock) s_.2.1 y301) ∧ (Kd.R Kd.string 9 w' w.heap.size (fun k_ => some k_ ≠ (v287 : Value).ownBlock ∧ some k_ ≠ (.slice Ao63 y292.length co63 : Value).ownBlock ∧ some k_ ≠ (s_.1 : Value).ownBlock ∧ some k_ ≠ (s_.2.1 : Value).ownBlock) s_.2.2 y304) ∧ (w'.heap[gb261]? = some (.cells #[.int .i64 a0_0, .string a0_1, .string a0_2, .slice A0_3 l0_3.length c0_3] 24 (0, 0))) ∧ (Below w.heap.size w w')) ?_ ?_
          rotate_left
          ·intro hCont
           refine two_ (i := 1) (j := 5) (Ni := some 39) (Nj := some 43) #[true, true, false, true, true, false, false, false] #[true, false, false, true, true, true, false, false] rfl rfl rfl rfl (two_of HT_.out (by kernel_rfl)) (by decide) (by decide) (fun K hK => ?_) (fun K hK => ?_)
           ·skip
            refine Kd.R_lit_step Kd.string _ 9 ?hg (N := 39) ?hd (xs := ([(⟨#[107, 101, 121]⟩ : ByteArray)] : List ByteArray)) (inner := [.string (⟨#[107, 101, 121]⟩ : ByteArray)]) (ok := fun _ => True) (okp := fun _ => True) ?hr ?hp (fun _ hk => hk) trivial (Below.refl _ _) (Nat.le_refl _) (by simp) ?_; (case hd => rfl); (case hg => rfl); (case hr => first | (go_simp; done) | (go_simp; rfl)); (case hp => exact (Reps.one (show Kd.M Kd.string _ _ _ (⟨#[107, 101, 121]⟩ : ByteArray) [.string (⟨#[107, 101, 121]⟩ : ByteArray)] from rfl) (Reps.none _ _)))
            intro v299 w67 ho68 hb hg_ hnew_
            clear hg_ hnew_
            (first | rw [← Ny298.out] at ho68 | (simp only [Int.reduceToNat] at ho68; rw [← Ny298.out] at ho68))
            have n0_ := Aside0.mk (Kd.R_elder' (by (with_reducible repeat (first | apply ra | apply rb | apply rc)); exact HO288.out) (Kd.R_base ho68) hb)
            have n1_ := Aside0.mk (Kd.R_elder' (by (with_reducible repeat (first | apply ra | apply rb | apply rc)); exact HO294.out) (Kd.R_base ho68) hb)
            have n2_ := Aside0.mk (Kd.R_elder' (by (with_reducible repeat (first | apply ra | apply rb | apply rc)); exact HO297.out) (Kd.R_base ho68) hb)
            have n3_ := Aside0.mk (Kd.R_lower (Kd.R_new' (Kd.R_new' (Kd.R_new' ho68 (Kd.R_lt (by (with_reducible repeat (first | apply ra | apply rb | apply rc)); exact HO288.out))) (Kd.R_lt (by (with_reducible repeat (first | apply ra | apply rb | apply rc)); exact HO294.out))) (Kd.R_lt (by (with_reducible repeat (first | apply ra | apply rb | apply rc)); exact HO297.out))) (below_size (by repeat (first | (with_reducible first | exact HB.out | apply below_alloc | apply pw_below_drewN | apply below_drew1 | refine below_set ?_ GE261.out) | exact HB.out))))
            have n4_ := Aside0.mk (blk_below (g := gb261) (o := .cells #[.int .i64 a0_0, .string a0_1, .string a0_2, .slice A0_3 l0_3.length c0_3] 24 (0, 0)) (by (with_reducible repeat (first | refine kc ?_ _ | refine kb ?_ | refine ka ?_ _)); exact BK261.out) hb)
            have n5_ := Aside0.mk (below_step (by repeat (first | (with_reducible first | exact HB.out | apply below_alloc | apply pw_below_drewN | apply below_drew1 | refine below_set ?_ GE261.out) | exact HB.out)) hb)
            clear HO288
            clear HO294
            clear HO297
            clear BK261
            clear HB
            have HO288 := n0_
            have HO294 := n1_
            have HO297 := n2_
            have HO300 := n3_
            have BK261 := n4_
            have HB := n5_
            clear n0_ n1_ n2_ n3_ n4_ n5_
            clear hb ho68
            obtain ⟨Ao70, co70, eo70⟩ := Kd.R_slice HO300.out
            (first | subst eo70 | (injection eo70 with f1_ f2_ f3_; have f4_ := f1_.symm; have f5_ := f3_.symm; clear f1_ f2_ f3_; subst f4_; subst f5_))
            refine hK.out _ _ ⟨(blk_cell BK261.out 0).trans rfl, (blk_cell BK261.out 1).trans rfl, (blk_cell BK261.out 2).trans rfl, (blk_cell BK261.out 3).trans rfl⟩ (fun hHeld => ?_)
            clear hK K
            refine norm_ (a' := ?_) ?_ ?_
            rotate_left
            ·show Act.put _ (some 39) _ = _
             simp only [Act.put, List.setIfInBounds_toArray, List.set_cons_zero, List.set_cons_succ, i64_w, i32_w]
             rfl
            refine two_ (i := 2) (j := 5) (Ni := some 40) (Nj := some 43) #[true, true, true, true, true, false, false, false] #[true, true, false, true, true, true, false, false] rfl rfl rfl rfl (two_of HT_.out (by kernel_rfl)) (by decide) (by decide) (fun K hK => ?_) (fun K hK => ?_)
            ·skip
             refine Kd.R_append_rows_step Kd.string (w0 := w) w.heap.size (by rfl) (.tmp 38) (.tmp 39) 45 9 (.string ⟨#[]⟩) 16 rfl Tryd.underlying45 info9 rfl (by decide) (by omega) (.slice Ao65 y295.length co65) y295 y298 _ _ _ (fun k_ => some k_ ≠ (v287 : Value).ownBlock ∧ some k_ ≠ (.slice Ao63 y292.length co63 : Value).ownBlock ∧ some k_ ≠ (.slice Ao70 y298.length co70 : Value).ownBlock) (fun _ => False) rfl rfl ?aO ?aR (fun _ _ h => h) (fun _ h => h.elim) ?aF ?aB ?aS ?aL ?_
             (case aR => repeat (first | exact (Kd.R_reads' HO300.out).2.2 | (with_reducible refine Kd.C_alloc ?_ _) | (with_reducible refine Kd.C_drewN ?_ _) | (with_reducible refine Kd.C_drew ?_)))
             (case aB => exact (by repeat (first | (with_reducible first | exact HB.out | apply below_alloc | apply pw_below_drewN | apply below_drew1 | refine below_set ?_ GE261.out) | exact HB.out)))
             (case aF => exact (fun k_ hk => ⟨Kd.fresh' (Kd.R_lt (by (with_reducible repeat (first | apply ra | apply rb | apply rc)); exact HO288.out)) k_ hk, Kd.fresh' (Kd.R_lt (by (with_reducible repeat (first | apply ra | apply rb | apply rc)); exact HO294.out)) k_ hk, Kd.fresh' (Kd.R_lt (by (with_reducible repeat (first | apply ra | apply rb | apply rc)); exact HO300.out)) k_ hk⟩))
             (case aO => exact (by (with_reducible repeat (first | apply ra | apply rb | apply rc)); exact Kd.R_mono HO297.out (fun _ hk => ⟨hk.1.1, ⟨hk.1.2, hk.2⟩⟩)))
             (case aS => exact (below_size (by repeat (first | (with_reducible first | exact HB.out | apply below_alloc | apply pw_below_drewN | apply below_drew1 | refine below_set ?_ GE261.out) | exact HB.out))))
             (case aL => have := LMc50.out; omega)
             intro v302 w69 ho hb hg hat
             rw [← Ny301.out] at ho
             have n0_ := Aside0.mk (blk_grown (g := gb261) (o := .cells #[.int .i64 a0_0, .string a0_1, .string a0_2, .slice A0_3 l0_3.length c0_3] 24 (0, 0)) (by (with_reducible repeat (first | refine kc ?_ _ | refine kb ?_ | refine ka ?_ _)); exact BK261.out) hg (Kd.R_ne HO297.out BK261.out (by decide)))
             have n1_ := Aside0.mk (Kd.R_after (ok := (fun k_ => some k_ ≠ (.slice Ao63 y292.length co63 : Value).ownBlock ∧ some k_ ≠ (.slice Ao70 y298.length co70 : Value).ownBlock)) (by (with_reducible repeat (first | apply ra | apply rb | apply rc)); exact Kd.R_mono HO288.out (fun _ hk => ⟨⟨hk.1.1, hk.2⟩, hk.1.2⟩)) hg hat)
             have n2_ := Aside0.mk (Kd.R_after (ok := (fun k_ => some k_ ≠ (v287 : Value).ownBlock ∧ some k_ ≠ (.slice Ao70 y298.length co70 : Value).ownBlock)) (by (with_reducible repeat (first | apply ra | apply rb | apply rc)); exact Kd.R_mono HO294.out (fun _ hk => ⟨⟨hk.1.1, hk.2⟩, hk.1.2⟩)) hg hat)
             have n3_ := Aside0.mk (Kd.R_after (ok := (fun k_ => some k_ ≠ (v287 : Value).ownBlock ∧ some k_ ≠ (.slice Ao63 y292.length co63 : Value).ownBlock)) (by (with_reducible repeat (first | apply ra | apply rb | apply rc)); exact Kd.R_mono HO300.out (fun _ hk => ⟨⟨hk.1.1.2, hk.1.2⟩, hk.2⟩)) hg hat)
             have n4_ := Aside0.mk (hb)
             have n5_ := Aside0.mk (ho)
             clear BK261
             clear HO288
             clear HO294
             clear HO300
             clear HB
             clear HO297
             have BK261 := n0_
             have HO288 := n1_
             have HO294 := n2_
             have HO300 := n3_
             have HB := n4_
             have HO303 := n5_
             clear n0_ n1_ n2_ n3_ n4_ n5_
             clear ho hb hg hat
             refine hK.out _ _ ⟨(blk_cell BK261.out 0).trans rfl, (blk_cell BK261.out 1).trans rfl, (blk_cell BK261.out 2).trans rfl, (blk_cell BK261.out 3).trans rfl⟩ (fun hHeld => ?_)
             clear hK K
             refine norm_ (a' := ?_) ?_ ?_
             rotate_left
             ·show Act.put _ (some 40) _ = _
              simp only [Act.put, List.setIfInBounds_toArray, List.set_cons_zero, List.set_cons_succ, i64_w, i32_w]
              rfl
             refine one_ (i := 5) (N := some 43) #[true, true, true, true, true, true, false, false] rfl rfl (one_of HT_.out (by kernel_rfl)) (by decide) (fun K hK => ?_)
             refine Kd.R_lit_step Kd.string _ 9 ?hg (N := 43) ?hd (xs := ([a0_1] : List ByteArray)) (inner := [.string a0_1]) (ok := fun _ => True) (okp := fun _ => True) ?hr ?hp (fun _ hk => hk) trivial (Below.refl _ _) (Nat.le_refl _) (by simp) ?_; (case hd => rfl); (case hg => rfl); (case hr => first | (go_simp; done) | (go_simp; rfl)); (case hp => exact (Reps.one (show Kd.M Kd.string _ _ _ a0_1 [.string a0_1] from rfl) (Reps.none _ _)))
             intro v305 w71 ho72 hb hg_ hnew_
             clear hg_ hnew_
             (first | rw [← Ny304.out] at ho72 | (simp only [Int.reduceToNat] at ho72; rw [← Ny304.out] at ho72))
             have n0_ := Aside0.mk (Kd.R_elder' (by (with_reducible repeat (first | apply ra | apply rb | apply rc)); exact HO288.out) (Kd.R_base ho72) hb)
             have n1_ := Aside0.mk (Kd.R_elder' (by (with_reducible repeat (first | apply ra | apply rb | apply rc)); exact HO294.out) (Kd.R_base ho72) hb)
             have n2_ := Aside0.mk (Kd.R_elder' (by (with_reducible repeat (first | apply ra | apply rb | apply rc)); exact HO300.out) (Kd.R_base ho72) hb)
             have n3_ := Aside0.mk (Kd.R_elder' (by (with_reducible repeat (first | apply ra | apply rb | apply rc)); exact HO303.out) (Kd.R_base ho72) hb)
             have n4_ := Aside0.mk (Kd.R_lower (Kd.R_new' (Kd.R_new' (Kd.R_new' (Kd.R_new' ho72 (Kd.R_lt (by (with_reducible repeat (first | apply ra | apply rb | apply rc)); exact HO288.out))) (Kd.R_lt (by (with_reducible repeat (first | apply ra | apply rb | apply rc)); exact HO294.out))) (Kd.R_lt (by (with_reducible repeat (first | apply ra | apply rb | apply rc)); exact HO300.out))) (Kd.R_lt (by (with_reducible repeat (first | apply ra | apply rb | apply rc)); exact HO303.out))) (below_size (by repeat (first | (with_reducible first | exact HB.out | apply below_alloc | apply pw_below_drewN | apply below_drew1 | refine below_set ?_ GE261.out) | exact HB.out))))
             have n5_ := Aside0.mk (blk_below (g := gb261) (o := .cells #[.int .i64 a0_0, .string a0_1, .string a0_2, .slice A0_3 l0_3.length c0_3] 24 (0, 0)) (by (with_reducible repeat (first | refine kc ?_ _ | refine kb ?_ | refine ka ?_ _)); exact BK261.out) hb)
             have n6_ := Aside0.mk (below_step (by repeat (first | (with_reducible first | exact HB.out | apply below_alloc | apply pw_below_drewN | apply below_drew1 | refine below_set ?_ GE261.out) | exact HB.out)) hb)
             clear HO288
             clear HO294
             clear HO300
             clear HO303
             clear BK261
             clear HB
             have HO288 := n0_
             have HO294 := n1_
             have HO300 := n2_
             have HO303 := n3_
             have HO306 := n4_
             have BK261 := n5_
             have HB := n6_
             clear n0_ n1_ n2_ n3_ n4_ n5_ n6_
             clear hb ho72
             refine hK.out _ _ ⟨(blk_cell BK261.out 0).trans rfl, (blk_cell BK261.out 1).trans rfl, (blk_cell BK261.out 2).trans rfl, (blk_cell BK261.out 3).trans rfl⟩ (fun hHeld => ?_)
             clear hK K
             refine norm_ (a' := ?_) ?_ ?_
             rotate_left
             ·show Act.put _ (some 43) _ = _
              simp only [Act.put, List.setIfInBounds_toArray, List.set_cons_zero, List.set_cons_succ, i64_w, i32_w]
              rfl
             exact norm_ (by simp only [putAll, Act.put, List.setIfInBounds_toArray, List.set_cons_zero, List.set_cons_succ]) (hCont (.slice Ao70 y298.length co70, v302, v305) _ ⟨hHeld, (by (with_reducible repeat (first | apply ra | apply rb | apply rc)); exact Kd.R_mono HO288.out (fun _ hk => ⟨hk.1.1.1, ⟨hk.1.1.2, ⟨hk.1.2, hk.2⟩⟩⟩)), (by (with_reducible repeat (first | apply ra | apply rb | apply rc)); exact Kd.R_mono HO294.out (fun _ hk => ⟨hk.1.1.1, ⟨hk.1.1.2, ⟨hk.1.2, hk.2⟩⟩⟩)), (by (with_reducible repeat (first | apply ra | apply rb | apply rc)); exact Kd.R_mono HO300.out (fun _ hk => ⟨hk.1.1.1, ⟨hk.1.1.2, ⟨hk.1.2, hk.2⟩⟩⟩)), (by (with_reducible repeat (first | apply ra | apply rb | apply rc)); exact Kd.R_mono HO303.out (fun _ hk => ⟨hk.1.1, ⟨hk.1.2.1, ⟨hk.1.2.2, hk.2⟩⟩⟩)), (by (with_reducible repeat (first | apply ra | apply rb | apply rc)); exact Kd.R_mono HO306.out (fun _ hk => ⟨hk.1.1.1.2, ⟨hk.1.1.2, ⟨hk.1.2, hk.2⟩⟩⟩)), (by (with_reducible repeat (first | refine kc ?_ _ | refine kb ?_ | refine ka ?_ _)); exact BK261.out), (by repeat (first | (with_reducible first | exact HB.out | apply below_alloc | apply pw_below_drewN | apply below_drew1 | refine below_set ?_ GE261.out) | exact HB.out))⟩)
            ·skip
             refine Kd.R_lit_step Kd.string _ 9 ?hg (N := 43) ?hd (xs := ([a0_1] : List ByteArray)) (inner := [.string a0_1]) (ok := fun _ => True) (okp := fun _ => True) ?hr ?hp (fun _ hk => hk) trivial (Below.refl _ _) (Nat.le_refl _) (by simp) ?_; (case hd => rfl); (case hg => rfl); (case hr => first | (go_simp; done) | (go_simp; rfl)); (case hp => exact (Reps.one (show Kd.M Kd.string _ _ _ a0_1 [.string a0_1] from rfl) (Reps.none _ _)))
             intro v305 w69 ho70 hb hg_ hnew_
             clear hg_ hnew_
             (first | rw [← Ny304.out] at ho70 | (simp only [Int.reduceToNat] at ho70; rw [← Ny304.out] at ho70))
             have n0_ := Aside0.mk (Kd.R_elder' (by (with_reducible repeat (first | apply ra | apply rb | apply rc)); exact HO288.out) (Kd.R_base ho70) hb)
             have n1_ := Aside0.mk (Kd.R_elder' (by (with_reducible repeat (first | apply ra | apply rb | apply rc)); exact HO294.out) (Kd.R_base ho70) hb)
             have n2_ := Aside0.mk (Kd.R_elder' (by (with_reducible repeat (first | apply ra | apply rb | apply rc)); exact HO297.out) (Kd.R_base ho70) hb)
             have n3_ := Aside0.mk (Kd.R_elder' (by (with_reducible repeat (first | apply ra | apply rb | apply rc)); exact HO300.out) (Kd.R_base ho70) hb)
             have n4_ := Aside0.mk (Kd.R_lower (Kd.R_new' (Kd.R_new' (Kd.R_new' (Kd.R_new' ho70 (Kd.R_lt (by (with_reducible repeat (first | apply ra | apply rb | apply rc)); exact HO288.out))) (Kd.R_lt (by (with_reducible repeat (first | apply ra | apply rb | apply rc)); exact HO294.out))) (Kd.R_lt (by (with_reducible repeat (first | apply ra | apply rb | apply rc)); exact HO297.out))) (Kd.R_lt (by (with_reducible repeat (first | apply ra | apply rb | apply rc)); exact HO300.out))) (below_size (by repeat (first | (with_reducible first | exact HB.out | apply below_alloc | apply pw_below_drewN | apply below_drew1 | refine below_set ?_ GE261.out) | exact HB.out))))
             have n5_ := Aside0.mk (blk_below (g := gb261) (o := .cells #[.int .i64 a0_0, .string a0_1, .string a0_2, .slice A0_3 l0_3.length c0_3] 24 (0, 0)) (by (with_reducible repeat (first | refine kc ?_ _ | refine kb ?_ | refine ka ?_ _)); exact BK261.out) hb)
             have n6_ := Aside0.mk (below_step (by repeat (first | (with_reducible first | exact HB.out | apply below_alloc | apply pw_below_drewN | apply below_drew1 | refine below_set ?_ GE261.out) | exact HB.out)) hb)
             clear HO288
             clear HO294
             clear HO297
             clear HO300
             clear BK261
             clear HB
             have HO288 := n0_
             have HO294 := n1_
             have HO297 := n2_
             have HO300 := n3_
             have HO306 := n4_
             have BK261 := n5_
             have HB := n6_
             clear n0_ n1_ n2_ n3_ n4_ n5_ n6_
             clear hb ho70
             obtain ⟨Ao72, co72, eo72⟩ := Kd.R_slice HO300.out
             (first | subst eo72 | (injection eo72 with f1_ f2_ f3_; have f4_ := f1_.symm; have f5_ := f3_.symm; clear f1_ f2_ f3_; subst f4_; subst f5_))
             refine hK.out _ _ ⟨(blk_cell BK261.out 0).trans rfl, (blk_cell BK261.out 1).trans rfl, (blk_cell BK261.out 2).trans rfl, (blk_cell BK261.out 3).trans rfl⟩ (fun hHeld => ?_)
             clear hK K
             refine norm_ (a' := ?_) ?_ ?_
             rotate_left
             ·show Act.put _ (some 43) _ = _
              simp only [Act.put, List.setIfInBounds_toArray, List.set_cons_zero, List.set_cons_succ, i64_w, i32_w]
              rfl
             refine one_ (i := 2) (N := some 40) #[true, true, true, true, true, true, false, false] rfl rfl (one_of HT_.out (by kernel_rfl)) (by decide) (fun K hK => ?_)
             refine Kd.R_append_rows_step Kd.string (w0 := w) w.heap.size (by rfl) (.tmp 38) (.tmp 39) 45 9 (.string ⟨#[]⟩) 16 rfl Tryd.underlying45 info9 rfl (by decide) (by omega) (.slice Ao65 y295.length co65) y295 y298 _ _ _ (fun k_ => some k_ ≠ (v287 : Value).ownBlock ∧ some k_ ≠ (.slice Ao63 y292.length co63 : Value).ownBlock ∧ some k_ ≠ (.slice Ao72 y298.length co72 : Value).ownBlock ∧ some k_ ≠ (v305 : Value).ownBlock) (fun _ => False) rfl rfl ?aO ?aR (fun _ _ h => h) (fun _ h => h.elim) ?aF ?aB ?aS ?aL ?_
             (case aR => repeat (first | exact (Kd.R_reads' HO300.out).2.2 | (with_reducible refine Kd.C_alloc ?_ _) | (with_reducible refine Kd.C_drewN ?_ _) | (with_reducible refine Kd.C_drew ?_)))
             (case aB => exact (by repeat (first | (with_reducible first | exact HB.out | apply below_alloc | apply pw_below_drewN | apply below_drew1 | refine below_set ?_ GE261.out) | exact HB.out)))
             (case aF => exact (fun k_ hk => ⟨Kd.fresh' (Kd.R_lt (by (with_reducible repeat (first | apply ra | apply rb | apply rc)); exact HO288.out)) k_ hk, Kd.fresh' (Kd.R_lt (by (with_reducible repeat (first | apply ra | apply rb | apply rc)); exact HO294.out)) k_ hk, Kd.fresh' (Kd.R_lt (by (with_reducible repeat (first | apply ra | apply rb | apply rc)); exact HO300.out)) k_ hk, Kd.fresh' (Kd.R_lt (by (with_reducible repeat (first | apply ra | apply rb | apply rc)); exact HO306.out)) k_ hk⟩))
             (case aO => exact (by (with_reducible repeat (first | apply ra | apply rb | apply rc)); exact Kd.R_mono HO297.out (fun _ hk => ⟨hk.1.1.1, ⟨hk.1.1.2, ⟨hk.1.2, hk.2⟩⟩⟩)))
             (case aS => exact (below_size (by repeat (first | (with_reducible first | exact HB.out | apply below_alloc | apply pw_below_drewN | apply below_drew1 | refine below_set ?_ GE261.out) | exact HB.out))))
             (case aL => have := LMc50.out; omega)
             intro v302 w71 ho hb hg hat
             rw [← Ny301.out] at ho
             have n0_ := Aside0.mk (blk_grown (g := gb261) (o := .cells #[.int .i64 a0_0, .string a0_1, .string a0_2, .slice A0_3 l0_3.length c0_3] 24 (0, 0)) (by (with_reducible repeat (first | refine kc ?_ _ | refine kb ?_ | refine ka ?_ _)); exact BK261.out) hg (Kd.R_ne HO297.out BK261.out (by decide)))
             have n1_ := Aside0.mk (Kd.R_after (ok := (fun k_ => some k_ ≠ (.slice Ao63 y292.length co63 : Value).ownBlock ∧ some k_ ≠ (.slice Ao72 y298.length co72 : Value).ownBlock ∧ some k_ ≠ (v305 : Value).ownBlock)) (by (with_reducible repeat (first | apply ra | apply rb | apply rc)); exact Kd.R_mono HO288.out (fun _ hk => ⟨⟨hk.1.1.1, ⟨hk.1.2, hk.2⟩⟩, hk.1.1.2⟩)) hg hat)
             have n2_ := Aside0.mk (Kd.R_after (ok := (fun k_ => some k_ ≠ (v287 : Value).ownBlock ∧ some k_ ≠ (.slice Ao72 y298.length co72 : Value).ownBlock ∧ some k_ ≠ (v305 : Value).ownBlock)) (by (with_reducible repeat (first | apply ra | apply rb | apply rc)); exact Kd.R_mono HO294.out (fun _ hk => ⟨⟨hk.1.1.1, ⟨hk.1.2, hk.2⟩⟩, hk.1.1.2⟩)) hg hat)
             have n3_ := Aside0.mk (Kd.R_after (ok := (fun k_ => some k_ ≠ (v287 : Value).ownBlock ∧ some k_ ≠ (.slice Ao63 y292.length co63 : Value).ownBlock ∧ some k_ ≠ (v305 : Value).ownBlock)) (by (with_reducible repeat (first | apply ra | apply rb | apply rc)); exact Kd.R_mono HO300.out (fun _ hk => ⟨⟨hk.1.1.1.2, ⟨hk.1.1.2, hk.2⟩⟩, hk.1.2⟩)) hg hat)
             have n4_ := Aside0.mk (Kd.R_after (ok := (fun k_ => some k_ ≠ (v287 : Value).ownBlock ∧ some k_ ≠ (.slice Ao63 y292.length co63 : Value).ownBlock ∧ some k_ ≠ (.slice Ao72 y298.length co72 : Value).ownBlock)) (by (with_reducible repeat (first | apply ra | apply rb | apply rc)); exact Kd.R_mono HO306.out (fun _ hk => ⟨⟨hk.1.1.1.2, ⟨hk.1.1.2, hk.2⟩⟩, hk.1.2⟩)) hg hat)
             have n5_ := Aside0.mk (hb)
             have n6_ := Aside0.mk (ho)
             clear BK261
             clear HO288
             clear HO294
             clear HO300
             clear HO306
             clear HB
             clear HO297
             have BK261 := n0_
             have HO288 := n1_
             have HO294 := n2_
             have HO300 := n3_
             have HO306 := n4_
             have HB := n5_
             have HO303 := n6_
             clear n0_ n1_ n2_ n3_ n4_ n5_ n6_
             clear ho hb hg hat
             refine hK.out _ _ ⟨(blk_cell BK261.out 0).trans rfl, (blk_cell BK261.out 1).trans rfl, (blk_cell BK261.out 2).trans rfl, (blk_cell BK261.out 3).trans rfl⟩ (fun hHeld => ?_)
             clear hK K
             refine norm_ (a' := ?_) ?_ ?_
             rotate_left
             ·show Act.put _ (some 40) _ = _
              simp only [Act.put, List.setIfInBounds_toArray, List.set_cons_zero, List.set_cons_succ, i64_w, i32_w]
              rfl
             exact norm_ (by simp only [putAll, Act.put, List.setIfInBounds_toArray, List.set_cons_zero, List.set_cons_succ]) (hCont (.slice Ao72 y298.length co72, v302, v305) _ ⟨hHeld, (by (with_reducible repeat (first | apply ra | apply rb | apply rc)); exact Kd.R_mono HO288.out (fun _ hk => ⟨hk.1.1, ⟨hk.1.2.1, ⟨hk.2, hk.1.2.2⟩⟩⟩)), (by (with_reducible repeat (first | apply ra | apply rb | apply rc)); exact Kd.R_mono HO294.out (fun _ hk => ⟨hk.1.1, ⟨hk.1.2.1, ⟨hk.2, hk.1.2.2⟩⟩⟩)), (by (with_reducible repeat (first | apply ra | apply rb | apply rc)); exact Kd.R_mono HO300.out (fun _ hk => ⟨hk.1.1, ⟨hk.1.2.1, ⟨hk.2, hk.1.2.2⟩⟩⟩)), (by (with_reducible repeat (first | apply ra | apply rb | apply rc)); exact HO303.out), (by (with_reducible repeat (first | apply ra | apply rb | apply rc)); exact Kd.R_mono HO306.out (fun _ hk => ⟨hk.1.1, ⟨hk.1.2.1, ⟨hk.1.2.2, hk.2⟩⟩⟩)), (by (with_reducible repeat (first | refine kc ?_ _ | refine kb ?_ | refine ka ?_ _)); exact BK261.out), (by repeat (first | (with_reducible first | exact HB.out | apply below_alloc | apply pw_below_drewN | apply below_drew1 | refine below_set ?_ GE261.out) | exact HB.out))⟩)
           ·skip
            refine Kd.R_lit_step Kd.string _ 9 ?hg (N := 43) ?hd (xs := ([a0_1] : List ByteArray)) (inner := [.string a0_1]) (ok := fun _ => True) (okp := fun _ => True) ?hr ?hp (fun _ hk => hk) trivial (Below.refl _ _) (Nat.le_refl _) (by simp) ?_; (case hd => rfl); (case hg => rfl); (case hr => first | (go_simp; done) | (go_simp; rfl)); (case hp => exact (Reps.one (show Kd.M Kd.string _ _ _ a0_1 [.string a0_1] from rfl) (Reps.none _ _)))
            intro v305 w67 ho68 hb hg_ hnew_
            clear hg_ hnew_
            (first | rw [← Ny304.out] at ho68 | (simp only [Int.reduceToNat] at ho68; rw [← Ny304.out] at ho68))
            have n0_ := Aside0.mk (Kd.R_elder' (by (with_reducible repeat (first | apply ra | apply rb | apply rc)); exact HO288.out) (Kd.R_base ho68) hb)
            have n1_ := Aside0.mk (Kd.R_elder' (by (with_reducible repeat (first | apply ra | apply rb | apply rc)); exact HO294.out) (Kd.R_base ho68) hb)
            have n2_ := Aside0.mk (Kd.R_elder' (by (with_reducible repeat (first | apply ra | apply rb | apply rc)); exact HO297.out) (Kd.R_base ho68) hb)
            have n3_ := Aside0.mk (Kd.R_lower (Kd.R_new' (Kd.R_new' (Kd.R_new' ho68 (Kd.R_lt (by (with_reducible repeat (first | apply ra | apply rb | apply rc)); exact HO288.out))) (Kd.R_lt (by (with_reducible repeat (first | apply ra | apply rb | apply rc)); exact HO294.out))) (Kd.R_lt (by (with_reducible repeat (first | apply ra | apply rb | apply rc)); exact HO297.out))) (below_size (by repeat (first | (with_reducible first | exact HB.out | apply below_alloc | apply pw_below_drewN | apply below_drew1 | refine below_set ?_ GE261.out) | exact HB.out))))
            have n4_ := Aside0.mk (blk_below (g := gb261) (o := .cells #[.int .i64 a0_0, .string a0_1, .string a0_2, .slice A0_3 l0_3.length c0_3] 24 (0, 0)) (by (with_reducible repeat (first | refine kc ?_ _ | refine kb ?_ | refine ka ?_ _)); exact BK261.out) hb)
            have n5_ := Aside0.mk (below_step (by repeat (first | (with_reducible first | exact HB.out | apply below_alloc | apply pw_below_drewN | apply below_drew1 | refine below_set ?_ GE261.out) | exact HB.out)) hb)
            clear HO288
            clear HO294
            clear HO297
            clear BK261
            clear HB
            have HO288 := n0_
            have HO294 := n1_
            have HO297 := n2_
            have HO306 := n3_
            have BK261 := n4_
            have HB := n5_
            clear n0_ n1_ n2_ n3_ n4_ n5_
            clear hb ho68
            refine hK.out _ _ ⟨(blk_cell BK261.out 0).trans rfl, (blk_cell BK261.out 1).trans rfl, (blk_cell BK261.out 2).trans rfl, (blk_cell BK261.out 3).trans rfl⟩ (fun hHeld => ?_)
            clear hK K
            refine norm_ (a' := ?_) ?_ ?_
            rotate_left
            ·show Act.put _ (some 43) _ = _
             simp only [Act.put, List.setIfInBounds_toArray, List.set_cons_zero, List.set_cons_succ, i64_w, i32_w]
             rfl
            refine one_ (i := 1) (N := some 39) #[true, true, false, true, true, true, false, false] rfl rfl (one_of HT_.out (by kernel_rfl)) (by decide) (fun K hK => ?_)
            refine Kd.R_lit_step Kd.string _ 9 ?hg (N := 39) ?hd (xs := ([(⟨#[107, 101, 121]⟩ : ByteArray)] : List ByteArray)) (inner := [.string (⟨#[107, 101, 121]⟩ : ByteArray)]) (ok := fun _ => True) (okp := fun _ => True) ?hr ?hp (fun _ hk => hk) trivial (Below.refl _ _) (Nat.le_refl _) (by simp) ?_; (case hd => rfl); (case hg => rfl); (case hr => first | (go_simp; done) | (go_simp; rfl)); (case hp => exact (Reps.one (show Kd.M Kd.string _ _ _ (⟨#[107, 101, 121]⟩ : ByteArray) [.string (⟨#[107, 101, 121]⟩ : ByteArray)] from rfl) (Reps.none _ _)))
            intro v299 w69 ho70 hb hg_ hnew_
            clear hg_ hnew_
            (first | rw [← Ny298.out] at ho70 | (simp only [Int.reduceToNat] at ho70; rw [← Ny298.out] at ho70))
            have n0_ := Aside0.mk (Kd.R_elder' (by (with_reducible repeat (first | apply ra | apply rb | apply rc)); exact HO288.out) (Kd.R_base ho70) hb)
            have n1_ := Aside0.mk (Kd.R_elder' (by (with_reducible repeat (first | apply ra | apply rb | apply rc)); exact HO294.out) (Kd.R_base ho70) hb)
            have n2_ := Aside0.mk (Kd.R_elder' (by (with_reducible repeat (first | apply ra | apply rb | apply rc)); exact HO297.out) (Kd.R_base ho70) hb)
            have n3_ := Aside0.mk (Kd.R_elder' (by (with_reducible repeat (first | apply ra | apply rb | apply rc)); exact HO306.out) (Kd.R_base ho70) hb)
            have n4_ := Aside0.mk (Kd.R_lower (Kd.R_new' (Kd.R_new' (Kd.R_new' (Kd.R_new' ho70 (Kd.R_lt (by (with_reducible repeat (first | apply ra | apply rb | apply rc)); exact HO288.out))) (Kd.R_lt (by (with_reducible repeat (first | apply ra | apply rb | apply rc)); exact HO294.out))) (Kd.R_lt (by (with_reducible repeat (first | apply ra | apply rb | apply rc)); exact HO297.out))) (Kd.R_lt (by (with_reducible repeat (first | apply ra | apply rb | apply rc)); exact HO306.out))) (below_size (by repeat (first | (with_reducible first | exact HB.out | apply below_alloc | apply pw_below_drewN | apply below_drew1 | refine below_set ?_ GE261.out) | exact HB.out))))
            have n5_ := Aside0.mk (blk_below (g := gb261) (o := .cells #[.int .i64 a0_0, .string a0_1, .string a0_2, .slice A0_3 l0_3.length c0_3] 24 (0, 0)) (by (with_reducible repeat (first | refine kc ?_ _ | refine kb ?_ | refine ka ?_ _)); exact BK261.out) hb)
            have n6_ := Aside0.mk (below_step (by repeat (first | (with_reducible first | exact HB.out | apply below_alloc | apply pw_below_drewN | apply below_drew1 | refine below_set ?_ GE261.out) | exact HB.out)) hb)
            clear HO288
            clear HO294
            clear HO297
            clear HO306
            clear BK261
            clear HB
            have HO288 := n0_
            have HO294 := n1_
            have HO297 := n2_
            have HO306 := n3_
            have HO300 := n4_
            have BK261 := n5_
            have HB := n6_
            clear n0_ n1_ n2_ n3_ n4_ n5_ n6_
            clear hb ho70
            obtain ⟨Ao72, co72, eo72⟩ := Kd.R_slice HO300.out
            (first | subst eo72 | (injection eo72 with f1_ f2_ f3_; have f4_ := f1_.symm; have f5_ := f3_.symm; clear f1_ f2_ f3_; subst f4_; subst f5_))
            refine hK.out _ _ ⟨(blk_cell BK261.out 0).trans rfl, (blk_cell BK261.out 1).trans rfl, (blk_cell BK261.out 2).trans rfl, (blk_cell BK261.out 3).trans rfl⟩ (fun hHeld => ?_)
            clear hK K
            refine norm_ (a' := ?_) ?_ ?_
            rotate_left
            ·show Act.put _ (some 39) _ = _
             simp only [Act.put, List.setIfInBounds_toArray, List.set_cons_zero, List.set_cons_succ, i64_w, i32_w]
             rfl
            refine one_ (i := 2) (N := some 40) #[true, true, true, true, true, true, false, false] rfl rfl (one_of HT_.out (by kernel_rfl)) (by decide) (fun K hK => ?_)
            refine Kd.R_append_rows_step Kd.string (w0 := w) w.heap.size (by rfl) (.tmp 38) (.tmp 39) 45 9 (.string ⟨#[]⟩) 16 rfl Tryd.underlying45 info9 rfl (by decide) (by omega) (.slice Ao65 y295.length co65) y295 y298 _ _ _ (fun k_ => some k_ ≠ (v287 : Value).ownBlock ∧ some k_ ≠ (.slice Ao63 y292.length co63 : Value).ownBlock ∧ some k_ ≠ (v305 : Value).ownBlock ∧ some k_ ≠ (.slice Ao72 y298.length co72 : Value).ownBlock) (fun _ => False) rfl rfl ?aO ?aR (fun _ _ h => h) (fun _ h => h.elim) ?aF ?aB ?aS ?aL ?_
            (case aR => repeat (first | exact (Kd.R_reads' HO300.out).2.2 | (with_reducible refine Kd.C_alloc ?_ _) | (with_reducible refine Kd.C_drewN ?_ _) | (with_reducible refine Kd.C_drew ?_)))
            (case aB => exact (by repeat (first | (with_reducible first | exact HB.out | apply below_alloc | apply pw_below_drewN | apply below_drew1 | refine below_set ?_ GE261.out) | exact HB.out)))
            (case aF => exact (fun k_ hk => ⟨Kd.fresh' (Kd.R_lt (by (with_reducible repeat (first | apply ra | apply rb | apply rc)); exact HO288.out)) k_ hk, Kd.fresh' (Kd.R_lt (by (with_reducible repeat (first | apply ra | apply rb | apply rc)); exact HO294.out)) k_ hk, Kd.fresh' (Kd.R_lt (by (with_reducible repeat (first | apply ra | apply rb | apply rc)); exact HO306.out)) k_ hk, Kd.fresh' (Kd.R_lt (by (with_reducible repeat (first | apply ra | apply rb | apply rc)); exact HO300.out)) k_ hk⟩))
            (case aO => exact (by (with_reducible repeat (first | apply ra | apply rb | apply rc)); exact Kd.R_mono HO297.out (fun _ hk => ⟨hk.1.1.1, ⟨hk.1.1.2, ⟨hk.1.2, hk.2⟩⟩⟩)))
            (case aS => exact (below_size (by repeat (first | (with_reducible first | exact HB.out | apply below_alloc | apply pw_below_drewN | apply below_drew1 | refine below_set ?_ GE261.out) | exact HB.out))))
            (case aL => have := LMc50.out; omega)
            intro v302 w71 ho hb hg hat
            rw [← Ny301.out] at ho
            have n0_ := Aside0.mk (blk_grown (g := gb261) (o := .cells #[.int .i64 a0_0, .string a0_1, .string a0_2, .slice A0_3 l0_3.length c0_3] 24 (0, 0)) (by (with_reducible repeat (first | refine kc ?_ _ | refine kb ?_ | refine ka ?_ _)); exact BK261.out) hg (Kd.R_ne HO297.out BK261.out (by decide)))
            have n1_ := Aside0.mk (Kd.R_after (ok := (fun k_ => some k_ ≠ (.slice Ao63 y292.length co63 : Value).ownBlock ∧ some k_ ≠ (v305 : Value).ownBlock ∧ some k_ ≠ (.slice Ao72 y298.length co72 : Value).ownBlock)) (by (with_reducible repeat (first | apply ra | apply rb | apply rc)); exact Kd.R_mono HO288.out (fun _ hk => ⟨⟨hk.1.1.1, ⟨hk.1.2, hk.2⟩⟩, hk.1.1.2⟩)) hg hat)
            have n2_ := Aside0.mk (Kd.R_after (ok := (fun k_ => some k_ ≠ (v287 : Value).ownBlock ∧ some k_ ≠ (v305 : Value).ownBlock ∧ some k_ ≠ (.slice Ao72 y298.length co72 : Value).ownBlock)) (by (with_reducible repeat (first | apply ra | apply rb | apply rc)); exact Kd.R_mono HO294.out (fun _ hk => ⟨⟨hk.1.1.1, ⟨hk.1.2, hk.2⟩⟩, hk.1.1.2⟩)) hg hat)
            have n3_ := Aside0.mk (Kd.R_after (ok := (fun k_ => some k_ ≠ (v287 : Value).ownBlock ∧ some k_ ≠ (.slice Ao63 y292.length co63 : Value).ownBlock ∧ some k_ ≠ (.slice Ao72 y298.length co72 : Value).ownBlock)) (by (with_reducible repeat (first | apply ra | apply rb | apply rc)); exact Kd.R_mono HO306.out (fun _ hk => ⟨⟨hk.1.1.1.2, ⟨hk.1.1.2, hk.2⟩⟩, hk.1.2⟩)) hg hat)
            have n4_ := Aside0.mk (Kd.R_after (ok := (fun k_ => some k_ ≠ (v287 : Value).ownBlock ∧ some k_ ≠ (.slice Ao63 y292.length co63 : Value).ownBlock ∧ some k_ ≠ (v305 : Value).ownBlock)) (by (with_reducible repeat (first | apply ra | apply rb | apply rc)); exact Kd.R_mono HO300.out (fun _ hk => ⟨⟨hk.1.1.1.2, ⟨hk.1.1.2, hk.2⟩⟩, hk.1.2⟩)) hg hat)
            have n5_ := Aside0.mk (hb)
            have n6_ := Aside0.mk (ho)
            clear BK261
            clear HO288
            clear HO294
            clear HO306
            clear HO300
            clear HB
            clear HO297
            have BK261 := n0_
            have HO288 := n1_
            have HO294 := n2_
            have HO306 := n3_
            have HO300 := n4_
            have HB := n5_
            have HO303 := n6_
            clear n0_ n1_ n2_ n3_ n4_ n5_ n6_
            clear ho hb hg hat
            refine hK.out _ _ ⟨(blk_cell BK261.out 0).trans rfl, (blk_cell BK261.out 1).trans rfl, (blk_cell BK261.out 2).trans rfl, (blk_cell BK261.out 3).trans rfl⟩ (fun hHeld => ?_)
            clear hK K
            refine norm_ (a' := ?_) ?_ ?_
            rotate_left
            ·show Act.put _ (some 40) _ = _
             simp only [Act.put, List.setIfInBounds_toArray, List.set_cons_zero, List.set_cons_succ, i64_w, i32_w]
             rfl
            exact norm_ (by simp only [putAll, Act.put, List.setIfInBounds_toArray, List.set_cons_zero, List.set_cons_succ]) (hCont (.slice Ao72 y298.length co72, v302, v305) _ ⟨hHeld, (by (with_reducible repeat (first | apply ra | apply rb | apply rc)); exact Kd.R_mono HO288.out (fun _ hk => ⟨hk.1.1, ⟨hk.1.2.2, ⟨hk.2, hk.1.2.1⟩⟩⟩)), (by (with_reducible repeat (first | apply ra | apply rb | apply rc)); exact Kd.R_mono HO294.out (fun _ hk => ⟨hk.1.1, ⟨hk.1.2.2, ⟨hk.2, hk.1.2.1⟩⟩⟩)), (by (with_reducible repeat (first | apply ra | apply rb | apply rc)); exact Kd.R_mono HO300.out (fun _ hk => ⟨hk.1.1, ⟨hk.1.2.1, ⟨hk.2, hk.1.2.2⟩⟩⟩)), (by (with_reducible repeat (first | apply ra | apply rb | apply rc)); exact Kd.R_mono HO303.out (fun _ hk => ⟨hk.1, ⟨hk.2.1, ⟨hk.2.2.2, hk.2.2.1⟩⟩⟩)), (by (with_reducible repeat (first | apply ra | apply rb | apply rc)); exact Kd.R_mono HO306.out (fun _ hk => ⟨hk.1.1, ⟨hk.1.2.1, ⟨hk.1.2.2, hk.2⟩⟩⟩)), (by (with_reducible repeat (first | refine kc ?_ _ | refine kb ?_ | refine ka ?_ _)); exact BK261.out), (by repeat (first | (with_reducible first | exact HB.out | apply below_alloc | apply pw_below_drewN | apply below_drew1 | refine below_set ?_ GE261.out) | exact HB.out))⟩)
          rintro ⟨v299, v302, v305⟩ w73 ⟨hS_, h0_, h1_, h2_, h3_, h4_, h5_, h6_⟩
          have n0_ : Aside0 (Kd.R Kd.string 9 w73 w.heap.size (fun k_ => some k_ ≠ (.slice Ao63 y292.length co63 : Value).ownBlock ∧ some k_ ≠ (v299 : Value).ownBlock ∧ some k_ ≠ (v302 : Value).ownBlock ∧ some k_ ≠ (v305 : Value).ownBlock) v287 y286) := ⟨h0_⟩
          have n1_ : Aside0 (Kd.R Kd.string 9 w73 w.heap.size (fun k_ => some k_ ≠ (v287 : Value).ownBlock ∧ some k_ ≠ (v299 : Value).ownBlock ∧ some k_ ≠ (v302 : Value).ownBlock ∧ some k_ ≠ (v305 : Value).ownBlock) (.slice Ao63 y292.length co63) y292) := ⟨h1_⟩
          have n2_ : Aside0 (Kd.R Kd.string 9 w73 w.heap.size (fun k_ => some k_ ≠ (v287 : Value).ownBlock ∧ some k_ ≠ (.slice Ao63 y292.length co63 : Value).ownBlock ∧ some k_ ≠ (v302 : Value).ownBlock ∧ some k_ ≠ (v305 : Value).ownBlock) v299 y298) := ⟨h2_⟩
          have n3_ : Aside0 (Kd.R Kd.string 9 w73 w.heap.size (fun k_ => some k_ ≠ (v287 : Value).ownBlock ∧ some k_ ≠ (.slice Ao63 y292.length co63 : Value).ownBlock ∧ some k_ ≠ (v299 : Value).ownBlock ∧ some k_ ≠ (v305 : Value).ownBlock) v302 y301) := ⟨h3_⟩
          have n4_ : Aside0 (Kd.R Kd.string 9 w73 w.heap.size (fun k_ => some k_ ≠ (v287 : Value).ownBlock ∧ some k_ ≠ (.slice Ao63 y292.length co63 : Value).ownBlock ∧ some k_ ≠ (v299 : Value).ownBlock ∧ some k_ ≠ (v302 : Value).ownBlock) v305 y304) := ⟨h4_⟩
          have n5_ : Aside0 (w73.heap[gb261]? = some (.cells #[.int .i64 a0_0, .string a0_1, .string a0_2, .slice A0_3 l0_3.length c0_3] 24 (0, 0))) := ⟨h5_⟩
          have n6_ : Aside0 (Below w.heap.size w w73) := ⟨h6_⟩
          clear HO288
          clear HO294
          clear HO297
          clear BK261
          clear HB
          clear h0_ h1_ h2_ h3_ h4_ h5_ h6_
          have HO288 := n0_
          have HO294 := n1_
          have HO300 := n2_
          have HO303 := n3_
          have HO306 := n4_
          have BK261 := n5_
          have HB := n6_
          clear n0_ n1_ n2_ n3_ n4_ n5_ n6_
          have hHeld : w73.cell? ⟨gb261, 0, none⟩ = some (.int .i64 a0_0) ∧ w73.cell? ⟨gb261, 1, none⟩ = some (.string a0_1) ∧ w73.cell? ⟨gb261, 2, none⟩ = some (.string a0_2) ∧ w73.cell? ⟨gb261, 3, none⟩ = some (.slice A0_3 l0_3.length c0_3) := hS_
          obtain ⟨Ao75, co75, eo75⟩ := Kd.R_slice HO306.out
          (first | subst eo75 | (injection eo75 with f1_ f2_ f3_; have f4_ := f1_.symm; have f5_ := f3_.symm; clear f1_ f2_ f3_; subst f4_; subst f5_))
          refine norm_ (a' := ?_) ?_ ?_
          rotate_left
          ·simp only [putAll, Act.put, List.setIfInBounds_toArray, List.set_cons_zero, List.set_cons_succ]
           rfl
          refine one_ (i := 6) (N := some 44) #[true, true, true, true, true, true, true, false] rfl rfl (one_of HT_.out (by kernel_rfl)) (by decide) (fun K hK => ?_)
          refine Kd.R_append_rows_step Kd.string (w0 := w) w.heap.size (by rfl) (.tmp 40) (.tmp 43) 45 9 (.string ⟨#[]⟩) 16 rfl Tryd.underlying45 info9 rfl (by decide) (by omega) v302 y301 y304 _ _ _ (fun k_ => some k_ ≠ (v287 : Value).ownBlock ∧ some k_ ≠ (.slice Ao63 y292.length co63 : Value).ownBlock ∧ some k_ ≠ (v299 : Value).ownBlock ∧ some k_ ≠ (.slice Ao75 y304.length co75 : Value).ownBlock) (fun _ => False) rfl rfl ?aO ?aR (fun _ _ h => h) (fun _ h => h.elim) ?aF ?aB ?aS ?aL ?_
          (case aR => repeat (first | exact (Kd.R_reads' HO306.out).2.2 | (with_reducible refine Kd.C_alloc ?_ _) | (with_reducible refine Kd.C_drewN ?_ _) | (with_reducible refine Kd.C_drew ?_)))
          (case aB => exact (by repeat (first | (with_reducible first | exact HB.out | apply below_alloc | apply pw_below_drewN | apply below_drew1 | refine below_set ?_ GE261.out) | exact HB.out)))
          (case aF => exact (fun k_ hk => ⟨Kd.fresh' (Kd.R_lt (by (with_reducible repeat (first | apply ra | apply rb | apply rc)); exact HO288.out)) k_ hk, Kd.fresh' (Kd.R_lt (by (with_reducible repeat (first | apply ra | apply rb | apply rc)); exact HO294.out)) k_ hk, Kd.fresh' (Kd.R_lt (by (with_reducible repeat (first | apply ra | apply rb | apply rc)); exact HO300.out)) k_ hk, Kd.fresh' (Kd.R_lt (by (with_reducible repeat (first | apply ra | apply rb | apply rc)); exact HO306.out)) k_ hk⟩))
          (case aO => exact (by (with_reducible repeat (first | apply ra | apply rb | apply rc)); exact HO303.out))
          (case aS => exact (below_size (by repeat (first | (with_reducible first | exact HB.out | apply below_alloc | apply pw_below_drewN | apply below_drew1 | refine below_set ?_ GE261.out) | exact HB.out))))
          (case aL => have := LMc51.out; omega)
          intro v308 w74 ho hb hg hat
          rw [← Ny307.out] at ho
          have n0_ := Aside0.mk (blk_grown (g := gb261) (o := .cells #[.int .i64 a0_0, .string a0_1, .string a0_2, .slice A0_3 l0_3.length c0_3] 24 (0, 0)) (by (with_reducible repeat (first | refine kc ?_ _ | refine kb ?_ | refine ka ?_ _)); exact BK261.out) hg (Kd.R_ne HO303.out BK261.out (by decide)))
          have n1_ := Aside0.mk (Kd.R_after (ok := (fun k_ => some k_ ≠ (.slice Ao63 y292.length co63 : Value).ownBlock ∧ some k_ ≠ (v299 : Value).ownBlock ∧ some k_ ≠ (.slice Ao75 y304.length co75 : Value).ownBlock)) (by (with_reducible repeat (first | apply ra | apply rb | apply rc)); exact Kd.R_mono HO288.out (fun _ hk => ⟨⟨hk.1, ⟨hk.2.1, hk.2.2.2⟩⟩, hk.2.2.1⟩)) hg hat)
          have n2_ := Aside0.mk (Kd.R_after (ok := (fun k_ => some k_ ≠ (v287 : Value).ownBlock ∧ some k_ ≠ (v299 : Value).ownBlock ∧ some k_ ≠ (.slice Ao75 y304.length co75 : Value).ownBlock)) (by (with_reducible repeat (first | apply ra | apply rb | apply rc)); exact Kd.R_mono HO294.out (fun _ hk => ⟨⟨hk.1, ⟨hk.2.1, hk.2.2.2⟩⟩, hk.2.2.1⟩)) hg hat)
          have n3_ := Aside0.mk (Kd.R_after (ok := (fun k_ => some k_ ≠ (v287 : Value).ownBlock ∧ some k_ ≠ (.slice Ao63 y292.length co63 : Value).ownBlock ∧ some k_ ≠ (.slice Ao75 y304.length co75 : Value).ownBlock)) (by (with_reducible repeat (first | apply ra | apply rb | apply rc)); exact Kd.R_mono HO300.out (fun _ hk => ⟨⟨hk.1, ⟨hk.2.1, hk.2.2.2⟩⟩, hk.2.2.1⟩)) hg hat)
          have n4_ := Aside0.mk (Kd.R_after (ok := (fun k_ => some k_ ≠ (v287 : Value).ownBlock ∧ some k_ ≠ (.slice Ao63 y292.length co63 : Value).ownBlock ∧ some k_ ≠ (v299 : Value).ownBlock)) (by (with_reducible repeat (first | apply ra | apply rb | apply rc)); exact Kd.R_mono HO306.out (fun _ hk => ⟨⟨hk.1, ⟨hk.2.1, hk.2.2.1⟩⟩, hk.2.2.2⟩)) hg hat)
          have n5_ := Aside0.mk (hb)
          have n6_ := Aside0.mk (ho)
          clear BK261
          clear HO288
          clear HO294
          clear HO300
          clear HO306
          clear HB
          clear HO303
          have BK261 := n0_
          have HO288 := n1_
          have HO294 := n2_
          have HO300 := n3_
          have HO306 := n4_
          have HB := n5_
          have HO309 := n6_
          clear n0_ n1_ n2_ n3_ n4_ n5_ n6_
          clear ho hb hg hat
          refine hK.out _ _ ⟨(blk_cell BK261.out 0).trans rfl, (blk_cell BK261.out 1).trans rfl, (blk_cell BK261.out 2).trans rfl, (blk_cell BK261.out 3).trans rfl⟩ (fun hHeld => ?_)
          clear hK K
          refine norm_ (a' := ?_) ?_ ?_
          rotate_left
          ·show Act.put _ (some 44) _ = _
           simp only [Act.put, List.setIfInBounds_toArray, List.set_cons_zero, List.set_cons_succ, i64_w, i32_w]
           rfl
          refine pure_ (i := 7) (N := some 3) (v := ?_) (a' := ?_) #[true, true, true, true, true, true, true, true] rfl rfl (any_of HT_.out (by kernel_rfl)) (fun _ _ _ h => h) (Or.inl ⟨by rfl, ?_⟩) ?_ ?_
          rotate_left
          ·intro w'
           go_simp
           with_reducible rfl
          rotate_left
          ·simp only [Act.put, List.setIfInBounds_toArray, List.set_cons_zero, List.set_cons_succ, i64_w, i32_w]
           rfl
          refine done_ (done_of HT_.out (by kernel_rfl)) ?_
          try go_wp2
          go_ret
          exact ⟨_, by first | rfl | (simp [errW_none, errW_some] <;> rfl) | (simp [*, errW_none, errW_some] <;> rfl), by (with_reducible repeat (first | apply ra | apply rb | apply rc)); exact Kd.R_mono HO309.out (fun _ hk => trivial), by repeat (first | (with_reducible first | exact HB.out | apply below_alloc | apply pw_below_drewN | apply below_drew1 | refine below_set ?_ GE261.out) | exact HB.out)⟩
         ·rw [if_neg c51] at H
          exact absurd H (by simp)
        ·rw [if_neg c50] at H
         exact absurd H (by simp)
      ·rw [if_neg c35] at H
       exact absurd H (by simp)
     ·rw [if_neg c34] at H
      exact absurd H (by simp)

end Go.Proofs.YtkenihkjdbdlkaaDoor.QLineParses
