/-
  frame.Pack by its walk (frame.Sectors, frame.number, check.Of as the program mp.sh prints them): what it packs, for every record.
-/
import Derived.Test.YtglpelhbncdkmaaProg
import Derived.Below
import Derived.Deep.Draws
import Derived.Deep.AppendLies
import Derived.Maps.AppendAt
import Derived.OwnWalk
import Derived.Laws.BytesArg
import Derived.Laws.MakeOwn
import Derived.Laws.OwnMore
import Derived.Deep.OwnRows
import Derived.Tactics
import Derived.Lib.ConvBytes
import Derived.Laws.Slices
import Derived.WalkKit
import Derived.KernelRfl
import Derived.RowKit3
import Derived.Deep.LoopGhost
import Derived.Deep.QuietTactic
import Derived.BigQuiet
import Derived.WideLaws
import Derived.Deep.DeepCutAuto
import Derived.Deep.CutBlock
import Derived.Deep.RegionHeld3
import Derived.Laws.Rows
import Derived.Lib.AppendStr
import Derived.ArgAppend
import Derived.Laws.IdiomCopy
import Derived.OrdersHeld
import Derived.Laws.BitsLemmas
import Derived.RowKit
import Derived.Test.YtglpelhbncdkmaaWWords
import Derived.Test.YtglpelhbncdkmaaWLast
import Derived.Test.YtglpelhbncdkmaaWTab
import Derived.Test.YtglpelhbncdkmaaWFour
import Derived.Test.YtglpelhbncdkmaaWQPut
import Derived.Test.YtglpelhbncdkmaaWApart
import Derived.Test.YtglpelhbncdkmaaWArr
import Derived.Test.YtglpelhbncdkmaaWZeros
import Derived.Test.YtglpelhbncdkmaaWFoot
import Derived.Test.YtglpelhbncdkmaaWKept
import Derived.Test.YtglpelhbncdkmaaWShare
import Derived.Test.YtglpelhbncdkmaaWN
import Derived.Test.YtglpelhbncdkmaaWFootNe
import Derived.Test.YtglpelhbncdkmaaWAt
import Derived.Test.YtglpelhbncdkmaaWEqStruct
import Derived.Test.YtglpelhbncdkmaaWRepsOne
import Derived.Test.YtglpelhbncdkmaaWInv
import Derived.Test.YtglpelhbncdkmaaWInvWords
import Derived.Test.YtglpelhbncdkmaaWGuard
import Derived.Test.YtglpelhbncdkmaaWNEv
import Derived.Test.YtglpelhbncdkmaaWMore
import Derived.Test.YtglpelhbncdkmaaXCheck
import Derived.Test.YtglpelhbncdkmaaXSlices
import Derived.Test.YtglpelhbncdkmaaXChunk
import Derived.RangeFuncNested
import Derived.RangeFuncBound
import Derived.RangeFuncLeaves
import Derived.RangeFuncBox
import Derived.Shelf.RegionOpen
namespace Go.Proofs.Ytglpelhbncdkmaa.XPack
open Go.RowKit Go.Proofs.YtglpelhbncdkmaaW.PrintWords Go.Proofs.YtglpelhbncdkmaaW.PrintLast Go.Proofs.YtglpelhbncdkmaaW.PrintMore
set_option linter.unusedVariables false
set_option linter.unusedSimpArgs false
theorem info5 : (Try.prog.info? 5).map (fun i => (i.zero, i.size, i.bytes)) = some (some (.int .u8 0), 1, 1) := XSlices.info_u8
section
attribute [local go_sem] max2_int min2_int max_two min_two max_three min_three max_four min_four
/-! ### frame_Sectors: function -/
def frame_Sectors.f (a0 : Int) : Option (Int) := if a0 < 0 then (some 0) else (if a0 > 65535 then (some 0) else (some (wrap64 (Int.tdiv (wrap64 ((wrap64 ((wrap64 (6 + a0)) + 24)) - 1)) 24))))
set_option maxHeartbeats 8000000 in
set_option maxRecDepth 100000 in
theorem frame_Sectors.calls (a0 : Int) (r : Int) (w : World) (h : frame_Sectors.f a0 = some r) :
    Calls Try.prog 33 #[.int .i64 a0] w fun e w' => e = .returned (.int .i64 r) ∧ Drawn0 w w' := by
  have H : (if a0 < 0 then (some 0) else (if a0 > 65535 then (some 0) else (some (wrap64 (Int.tdiv (wrap64 ((wrap64 ((wrap64 (6 + a0)) + 24)) - 1)) 24))))) = some r := h
  clear h
  by_cases c2 : a0 < 0
  · rw [if_pos c2] at H
    have c2b0 : decide (a0 < 0) = true := decide_eq_true c2
    clear c2
    obtain rfl := Option.some.inj H
    go_enter Try.func33, Try.ntmps33
    go_wp2
    go_ret
    exact ⟨by first | rfl | (simp; done) | (simp [*]; done), by repeat (first | exact Drawn0.refl _ | apply Drawn0.step)⟩
  · rw [if_neg c2] at H
    have c2b0 : decide (a0 < 0) = false := decide_eq_false c2
    clear c2
    by_cases c3 : a0 > 65535
    · rw [if_pos c3] at H
      have c3b0 : decide (65535 < a0) = true := decide_eq_true c3
      clear c3
      obtain rfl := Option.some.inj H
      go_enter Try.func33, Try.ntmps33
      go_wp2
      go_ret
      exact ⟨by first | rfl | (simp; done) | (simp [*]; done), by repeat (first | exact Drawn0.refl _ | apply Drawn0.step)⟩
    · rw [if_neg c3] at H
      have c3b0 : decide (65535 < a0) = false := decide_eq_false c3
      clear c3
      obtain rfl := Option.some.inj H
      go_enter Try.func33, Try.ntmps33
      go_wp2
      go_ret
      exact ⟨by first | rfl | (simp; done) | (simp [*]; done), by repeat (first | exact Drawn0.refl _ | apply Drawn0.step)⟩

/-! ### frame_number: function -/
def frame_number.l0 : Nat → List Int → Int → Int → Option (List Int)
  | 0, _, _, _ => none
  | k + 1, x0, x1, x2 => if x2 ≥ 0 then (if 0 ≤ (wrap64 (8 * x2)) then (if x0.length < 140737488355328 then (frame_number.l0 k (x0 ++ [(shr .i64 x1 (wrap64 (8 * x2))) % 256]) x1 (wrap64 (x2 - 1))) else (none)) else (none)) else (some x0)
def frame_number.f (k : Nat) (l0 : List Int) (a1 : Int) (a2 : Int) : Option (List Int) := frame_number.l0 k l0 a1 (wrap64 (a2 - 1))
theorem frame_number.mono_l : ∀ k, (∀ y0 y1 y2, LeO (frame_number.l0 k y0 y1 y2) (frame_number.l0 (k + 1) y0 y1 y2))
  | 0 => fun _ _ _ r h => by simp [frame_number.l0] at h
  | k + 1 => by
    have ih0 := frame_number.mono_l k
    · intro y0 y1 y2
      unfold frame_number.l0
      repeat' first
      | (with_reducible exact ih0 _ _ _)
      | (with_reducible exact LeO.refl _)
      | (with_reducible exact LeO.none _)
      | (with_reducible refine LeO.ite ?_ ?_)
      | (with_reducible refine LeO.bind ?_ (fun _ => ?_))
      | exact ih0 _ _ _
      | exact LeO.none _
      | refine LeO.ite ?_ ?_
      | refine LeO.bind ?_ (fun _ => ?_)
theorem frame_number.mono : ∀ a0 a1 a2 k, LeO (frame_number.f k a0 a1 a2) (frame_number.f (k + 1) a0 a1 a2) := by
  intro a0 a1 a2 k
  have ih0 := frame_number.mono_l k
  unfold frame_number.f
  repeat' first
      | (with_reducible exact ih0 _ _ _)
      | (with_reducible exact LeO.refl _)
      | (with_reducible exact LeO.none _)
      | (with_reducible refine LeO.ite ?_ ?_)
      | (with_reducible refine LeO.bind ?_ (fun _ => ?_))
      | exact ih0 _ _ _
      | exact LeO.none _
      | refine LeO.ite ?_ ?_
      | refine LeO.bind ?_ (fun _ => ?_)
set_option maxHeartbeats 8000000 in
set_option maxRecDepth 100000 in
theorem frame_number.calls (k : Nat) (P0_ : Nat → Prop) (u9000_ : Value) (l0 : List Int) (a1 : Int) (a2 : Int) (r : List Int) (w0 w : World) (hB : Below w0.heap.size w0 w) (ho0 : Kd.R (Kd.int .u8) 5 w w0.heap.size P0_ u9000_ l0) (h : frame_number.f k l0 a1 a2 = some r) :
    Calls Try.prog 40 #[u9000_, .int .i64 a1, .int .i64 a2] w fun e w' => ∃ v0_ : Value, e = .returned (v0_) ∧ Kd.R (Kd.int .u8) 5 w' w0.heap.size (fun k_ => (P0_ k_ ∨ w.heap.size ≤ k_)) v0_ r ∧ Below w0.heap.size w0 w' ∧ Kept w w' (fun k_ => P0_ k_) := by
  have HO0 := Aside0.mk (show Kd.R (Kd.int .u8) 5 w w0.heap.size (fun k_ => (P0_ k_ ∨ w.heap.size ≤ k_)) u9000_ l0 from Kd.R_mono ho0 (fun k_ hk => (.inl hk)))
  have HK := Aside0.mk (Kept.refl w (fun k_ => P0_ k_))
  have HW0 := Aside0.mk hB.size
  have HB := Aside0.mk hB
  clear hB
  have H : (frame_number.l0 k l0 a1 (wrap64 (a2 - 1))) = some r := h
  clear h
  have H' := Aside0.mk H
  clear H
  go_enter Try.func40, Try.ntmps40
  go_wp2
  go_loopg [0, 2] k (fun kq v0 v2 w' => ∃ (x0_1 : List Int) (x2_1 : Int), v2 = .int .i64 x2_1 ∧ Aside0 (frame_number.l0 kq x0_1 a1 x2_1 = some r) ∧ Aside0 (kq ≤ k) ∧ Aside0 (Kd.R (Kd.int .u8) 5 w' w0.heap.size (fun k_ => (P0_ k_ ∨ w.heap.size ≤ k_)) v0 x0_1) ∧ Aside0 (Kept w w' (fun k_ => P0_ k_)) ∧ Aside0 (Below w0.heap.size w0 w'))
  case atStart => exact ⟨(l0), (wrap64 (a2 - 1)), (by first | rfl | (simp; done) | (simp [*]; done)), H', ⟨Nat.le_refl _⟩, ⟨by (with_reducible repeat (first | apply Kd.R_alloc | apply Kd.R_drewN | apply Kd.R_drew)); exact HO0.out⟩, ⟨by repeat (first | (with_reducible first | exact HK.out | apply Kept.alloc | apply Kept.drewN | apply Kept.drew) | exact HK.out)⟩, ⟨by repeat (first | (with_reducible first | exact HB.out | apply below_alloc | apply pw_below_drewN | apply below_drew1) | exact HB.out)⟩⟩
  case round =>
    clear H'
    try clear p2
    obtain ⟨x0_1, x2_1, rfl, HA, HK1, HO_0, HK, HB⟩ := hrel
    cases gk with
    | zero => exact absurd HA.out (by simp [frame_number.l0])
    | succ k1 =>
      have H := HA.out
      clear HA
      simp only [frame_number.l0] at H
      by_cases c4 : x2_1 ≥ 0
      · rw [if_pos c4] at H
        have c4b0 : decide (0 ≤ x2_1) = true := decide_eq_true c4
        clear c4
        obtain ⟨ji5, hji5⟩ : ∃ j_ : Int, (wrap64 (8 * x2_1)) = j_ := ⟨_, rfl⟩
        replace H : (if 0 ≤ (ji5) then (if x0_1.length < 140737488355328 then (frame_number.l0 k1 (x0_1 ++ [(shr .i64 a1 (ji5)) % 256]) a1 (wrap64 (x2_1 - 1))) else (none)) else (none)) = some r := by first | (rw [hji5] at H; exact H) | (simp only [hji5] at H ⊢; exact H)
        have hji5w : (IntKind.i64.wrap (8 * x2_1)) = ji5 := (i64_w _).trans hji5
        by_cases c6 : 0 ≤ (ji5)
        · rw [if_pos c6] at H
          have c6b0 := eq_true c6
          have c6b1 : decide (0 ≤ (ji5)) = true := decide_eq_true c6
          clear c6
          obtain ⟨ji7, hji7⟩ : ∃ j_ : Int, (shr .i64 a1 (ji5)) = j_ := ⟨_, rfl⟩
          replace H : (if x0_1.length < 140737488355328 then (frame_number.l0 k1 (x0_1 ++ [(ji7) % 256]) a1 (wrap64 (x2_1 - 1))) else (none)) = some r := by first | (rw [hji7] at H; exact H) | (simp only [hji7] at H ⊢; exact H)
          have hji7_ : (a1 / 2 ^ min (ji5).toNat 64) = ji7 := hji7
          have hji7z : (ji5) ≤ 64 → (a1 / 2 ^ (ji5).toNat) = ji7 := shr_small hji7
          by_cases c8 : x0_1.length < 140737488355328
          · rw [if_pos c8] at H
            have LMc8 := Aside0.mk c8
            clear c8
            obtain ⟨y101, hy101⟩ : ∃ y_ : List Int, y_ = (x0_1 ++ [(ji7) % 256]) := ⟨_, rfl⟩
            replace H : (frame_number.l0 k1 y101 a1 (wrap64 (x2_1 - 1))) = some r := by first | (rw [hy101]; with_reducible exact H) | (have H2_ := (Option.bind_some _ _).symm.trans H; rw [hy101]; with_reducible exact H2_) | (have H2_ := (Option.bind_some _ _).symm.trans H; with_reducible exact H2_) | with_reducible exact H | (rw [hy101]; exact H) | exact H
            have Ny101 := Aside0.mk hy101
            clear hy101
            have H' := Aside0.mk H
            clear H
            go_wp2_with (first | ((with_reducible refine gate_builtin (b := .append) (xs := #[.tmp 13, .tmp 19]) rfl ?_); at_builtin; refine Kd.R_append (Kd.int .u8) (w0 := w0) w0.heap.size rfl (.tmp 13) (.tmp 19) 23 5 (.int .u8 0) 1 rfl Try.underlying23 info5 rfl (by decide) (by omega) u0 x0_1 ((ji7) % 256) [.int .u8 ((ji7) % 256)] (fun k_ => (P0_ k_ ∨ w.heap.size ≤ k_)) (fun _ => False) rfl rfl ?aP (fun _ hk => hk.elim) ?aF ?aO ?aB ?aS ?aL ?_; (case aP => exact rfl); (case aB => exact (by repeat (first | (with_reducible first | exact HB.out | apply below_alloc | apply pw_below_drewN | apply below_drew1) | exact HB.out))); (case aF => exact (fun k_ hk => (.inr (Nat.le_trans (by first | exact HK.out.1 | exact (show Kept w _ (fun k_ => P0_ k_) from by repeat (first | (with_reducible first | exact HK.out | apply Kept.alloc | apply Kept.drewN | apply Kept.drew) | exact HK.out)).1) hk)))); (case aO => exact (by (with_reducible repeat (first | apply Kd.R_alloc | apply Kd.R_drewN | apply Kd.R_drew)); exact HO_0.out)); (case aS => exact (below_size (by repeat (first | (with_reducible first | exact HB.out | apply below_alloc | apply pw_below_drewN | apply below_drew1) | exact HB.out)))); (case aL => have := LMc8.out; omega); intro v102 w9 ho hb hg hat; rw [← Ny101.out] at ho; have n0_ := Aside0.mk (hb); have n1_ := Aside0.mk (Kept.of_grown (S := (fun k_ => P0_ k_)) hg (by repeat (first | (with_reducible first | exact HK.out | apply Kept.alloc | apply Kept.drewN | apply Kept.drew) | exact HK.out)) (fun k_ e_ => (HO_0.out.1 k_ e_))); have n2_ := Aside0.mk (ho); clear HB; clear HK; clear HO_0; have HB := n0_; have HK := n1_; have HO103 := n2_; clear n0_ n1_ n2_; clear ho hb hg hat))
            go_roundg k1
            case measure => have := HK1.out; omega
            case rel => exact ⟨(y101), (wrap64 (x2_1 - 1)), (by first | rfl | (simp; done) | (simp [*]; done)), H', ⟨by have := HK1.out; omega⟩, ⟨by (with_reducible repeat (first | apply Kd.R_alloc | apply Kd.R_drewN | apply Kd.R_drew)); exact HO103.out⟩, ⟨by repeat (first | (with_reducible first | exact HK.out | apply Kept.alloc | apply Kept.drewN | apply Kept.drew) | exact HK.out)⟩, ⟨by repeat (first | (with_reducible first | exact HB.out | apply below_alloc | apply pw_below_drewN | apply below_drew1) | exact HB.out)⟩⟩
          · rw [if_neg c8] at H
            exact absurd H (by simp)
        · rw [if_neg c6] at H
          exact absurd H (by simp)
      · rw [if_neg c4] at H
        have c4b0 : decide (0 ≤ x2_1) = false := decide_eq_false c4
        clear c4
        obtain rfl := Option.some.inj H
        go_wp2
        go_ret
        exact ⟨_, by first | rfl | (simp [errW_none, errW_some] <;> rfl) | (simp [*, errW_none, errW_some] <;> rfl), by (with_reducible repeat (first | apply Kd.R_alloc | apply Kd.R_drewN | apply Kd.R_drew)); exact HO_0.out, by repeat (first | (with_reducible first | exact HB.out | apply below_alloc | apply pw_below_drewN | apply below_drew1) | exact HB.out), by repeat (first | (with_reducible first | exact HK.out | apply Kept.alloc | apply Kept.drewN | apply Kept.drew) | exact HK.out)⟩

-- NOT PRINTED: function 56 (check_table)

/-! ### check_From: function -/
abbrev check_From.f (a0 : Int) (l1 : List Int) : Option (Int) := XCheck.check_From.f a0 l1
theorem check_From.calls (a0 : Int) (A1 : Option Addr) (c1 : Nat) (l1 : List Int) (r : Int) (w : World) (hr1 : Kd.C (Kd.int .u8) w A1 l1.length l1) (hc1 : l1.length ≤ c1) (h : check_From.f a0 l1 = some r) :
    Calls Try.prog 41 #[.int .u32 a0, .slice A1 l1.length c1] w fun e w' => e = .returned (.int .u32 r) ∧ Below w.heap.size w w' := XCheck.check_From.calls a0 A1 c1 l1 r w hr1 hc1 h

/-! ### check_Of: function -/
def check_Of.f (l0 : List Int) : Option (Int) := (check_From.f 4294967295 l0).bind fun t104 => (some t104)
set_option maxHeartbeats 8000000 in
set_option maxRecDepth 100000 in
theorem check_Of.calls (A0 : Option Addr) (c0 : Nat) (l0 : List Int) (r : Int) (w : World) (hr0 : Kd.C (Kd.int .u8) w A0 l0.length l0) (hc0 : l0.length ≤ c0) (h : check_Of.f l0 = some r) :
    Calls Try.prog 42 #[.slice A0 l0.length c0] w fun e w' => e = .returned (.int .u32 r) ∧ Below w.heap.size w w' := by
  have HR0 := Aside0.mk hr0
  have HC0 := Aside0.mk hc0
  clear hr0 hc0
  have HB := Aside0.mk (Below.refl w.heap.size w)
  have H : ((check_From.f 4294967295 l0).bind fun t104 => (some t104)) = some r := h
  clear h
  replace H := Option.bind_eq_some_iff.mp H
  obtain ⟨t104, A20, H⟩ := H
  replace H : (some t104) = some r := H
  have A2 := Aside0.mk A20
  clear A20
  obtain rfl := Option.some.inj H
  go_enter Try.func42, Try.ntmps42
  go_wp2_with (first | ((with_reducible refine gate_callee (f := 41) rfl ?_); refine goesL_ (some 4) rfl rfl Try.func41 (by kernel_rfl) rfl #[.int .u32 4294967295, .slice A0 l0.length c0] rfl (by (try simp only [List.map_toArray, List.map_cons, List.map_nil]); first | done | rfl | (simp only [List.length_drop, List.length_take]; rfl)) ?_; (with_reducible refine (check_From.calls 4294967295 _ _ l0 t104 _ ?side1 ?side2 A2.out).mono ?_); (case side1 => repeat (first | exact HR0.out | (with_reducible refine Kd.C_alloc ?_ _) | (with_reducible refine Kd.C_drewN ?_ _) | (with_reducible refine Kd.C_drew ?_))); (case side2 => exact HC0.out); rintro e w3 ⟨rfl, hb⟩; refine ⟨_, rfl, ?_⟩; have n0_ := Aside0.mk (below_step (by repeat (first | (with_reducible first | exact HB.out | apply below_alloc | apply pw_below_drewN | apply below_drew1) | exact HB.out)) hb); clear HB; have HB := n0_; clear n0_; (try clear hb); (try clear hb2); (try clear hk); (try clear hi)))
  go_ret
  exact ⟨by first | rfl | (simp [errW_none, errW_some] <;> rfl) | (simp [*, errW_none, errW_some] <;> rfl), by repeat (first | (with_reducible first | exact HB.out | apply below_alloc | apply pw_below_drewN | apply below_drew1) | exact HB.out)⟩

-- NOT PRINTED: function 57 (slices_Grow_byte_byte)

-- NOT PRINTED: function 45 (slices_Concat_byte_byte)

-- NOT PRINTED: function 46 (slices_Chunk_byte_byte)

-- NOT PRINTED: function 47 (slices_Clip_byte_byte)

end
open Go.Proofs.Ytglpelhbncdkmaa.XChunk
theorem num_shr (a : Int) : shr .i64 a 24 = a / 16777216 ∧ shr .i64 a 16 = a / 65536 ∧ shr .i64 a 8 = a / 256 ∧ shr .i64 a 0 = a := by
  refine ⟨rfl, rfl, rfl, ?_⟩
  show a / 2 ^ 0 = a
  omega
theorem number_4 (a : Int) (l : List Int) (hl : l.length < 1000) : frame_number.f 6 l a 4 = some (l ++ be4 a) := by
  have w0 : wrap64 (4 - 1) = 3 := by decide +kernel
  have w1 : wrap64 (3 - 1) = 2 := by decide +kernel
  have w2 : wrap64 (2 - 1) = 1 := by decide +kernel
  have w3 : wrap64 (1 - 1) = 0 := by decide +kernel
  have w4 : wrap64 (0 - 1) = -1 := by decide +kernel
  have m3 : wrap64 (8 * 3) = 24 := by decide +kernel
  have m2 : wrap64 (8 * 2) = 16 := by decide +kernel
  have m1 : wrap64 (8 * 1) = 8 := by decide +kernel
  have m0 : wrap64 (8 * 0) = 0 := by decide +kernel
  obtain ⟨s3, s2, s1, s0⟩ := num_shr a
  have c0 : l.length < 140737488355328 := by omega
  have c1 : l.length + 1 < 140737488355328 := by omega
  have c2 : l.length + 1 + 1 < 140737488355328 := by omega
  have c3 : l.length + 1 + 1 + 1 < 140737488355328 := by omega
  simp only [frame_number.f, frame_number.l0, w0, w1, w2, w3, w4, m0, m1, m2, m3, s0, s1, s2, s3, List.length_append, List.length_cons, List.length_nil, Nat.zero_add, c0, c1, c2, c3, if_true, ge_iff_le, show (0 : Int) ≤ 3 from by decide, show (0 : Int) ≤ 24 from by decide, show (0 : Int) ≤ 16 from by decide, show (0 : Int) ≤ 8 from by decide, show (0 : Int) ≤ 2 from by decide, show (0 : Int) ≤ 1 from by decide, show (0 : Int) ≤ 0 from by decide, show ¬ (0 : Int) ≤ -1 from by decide, if_false, be4, List.append_assoc, List.cons_append, List.nil_append]
theorem number_2 (a : Int) (l : List Int) (hl : l.length < 1000) : frame_number.f 6 l a 2 = some (l ++ be2 a) := by
  have w2 : wrap64 (2 - 1) = 1 := by decide +kernel
  have w3 : wrap64 (1 - 1) = 0 := by decide +kernel
  have w4 : wrap64 (0 - 1) = -1 := by decide +kernel
  have m1 : wrap64 (8 * 1) = 8 := by decide +kernel
  have m0 : wrap64 (8 * 0) = 0 := by decide +kernel
  obtain ⟨s3, s2, s1, s0⟩ := num_shr a
  have c0 : l.length < 140737488355328 := by omega
  have c1 : l.length + 1 < 140737488355328 := by omega
  simp only [frame_number.f, frame_number.l0, w2, w3, w4, m0, m1, s0, s1, s2, s3, List.length_append, List.length_cons, List.length_nil, Nat.zero_add, c0, c1, if_true, ge_iff_le, show (0 : Int) ≤ 8 from by decide, show (0 : Int) ≤ 1 from by decide, show (0 : Int) ≤ 0 from by decide, show ¬ (0 : Int) ≤ -1 from by decide, if_false, be2, List.append_assoc, List.cons_append, List.nil_append]
theorem Sectors_f (n : Nat) (h : n ≤ 65535) : frame_Sectors.f (n : Int) = some ((sectors n : Nat) : Int) := by
  have e1 : ¬ (n : Int) < 0 := by omega
  have e2 : ¬ (n : Int) > 65535 := by omega
  have e3 : wrap64 (6 + (n : Int)) = 6 + n := (by unfold wrap64; omega)
  have e4 : wrap64 (6 + (n : Int) + 24) = 6 + n + 24 := (by unfold wrap64; omega)
  have e5 : wrap64 (6 + (n : Int) + 24 - 1) = 6 + n + 24 - 1 := (by unfold wrap64; omega)
  have e6 : Int.tdiv (6 + (n : Int) + 24 - 1) 24 = ((sectors n : Nat) : Int) := by
    rw [Int.tdiv_eq_ediv_of_nonneg (by omega)]; unfold sectors; omega
  have e7 : wrap64 ((sectors n : Nat) : Int) = (sectors n : Nat) := (by unfold wrap64 sectors; omega)
  rw [frame_Sectors.f, if_neg e1, if_neg e2, e3, e4, e5, e6, e7]
theorem Pack_some {a0 a1 : Int} {l2 r1 : List Int} {r2 : Int} (h : XChunk.frame_Pack.f a0 a1 l2 = some (r1, r2)) :
    (¬ (0 ≤ a0 ∧ a0 < 4294967296 ∧ 0 ≤ a1 ∧ a1 < 4294967296) ∧ r1 = [] ∧ r2 = 1) ∨
    ((0 ≤ a0 ∧ a0 < 4294967296 ∧ 0 ≤ a1 ∧ a1 < 4294967296) ∧ l2.length > 65535 ∧ r1 = [] ∧ r2 = 2) ∨
    ((0 ≤ a0 ∧ a0 < 4294967296 ∧ 0 ≤ a1 ∧ a1 < 4294967296) ∧ l2.length ≤ 65535 ∧ (∀ c ∈ l2, 0 ≤ c ∧ c < 256) ∧ r1 = packed a0 a1 l2 ∧ r2 = 0) := by
  unfold XChunk.frame_Pack.f at h
  split at h
  · next h1 =>
    split at h
    · next h2 => injection h with h; injection h with ha hb; exact .inr (.inl ⟨h1, h2, ha.symm, hb.symm⟩)
    · next h2 =>
      split at h
      · next h3 =>
        injection h with h; injection h with ha hb
        exact .inr (.inr ⟨h1, by omega, fun c hc => of_decide_eq_true (List.all_eq_true.1 h3 c hc), ha.symm, hb.symm⟩)
      · cases h
  · next h1 => injection h with h; injection h with ha hb; exact .inl ⟨h1, ha.symm, hb.symm⟩
theorem below_2 {w w1 w2 : World} (h : Below w.heap.size w w1) (h' : Below w1.heap.size w1 w2) : Below w.heap.size w w2 := below_step h h'
theorem boxed_2 {w1 w2 : World} {B t : Nat} {v : Value} (h : Boxed w1 B t v) (h' : Below w1.heap.size w1 w2) : Boxed w2 B t v := (h'.block B h.lt).trans h
theorem below_al {w w1 : World} (h : Below w.heap.size w w1) (o : Obj) : Below w.heap.size w (w1.alloc o) := below_alloc h o
theorem rows3 {w : World} {g : Nat} {A1 A2 A3 : Option Addr} {c1 c2 c3 : Nat} {l1 l2 l3 : List Int} {cells : Array Value} {t : Nat} {mm : Nat × Nat} (hb : w.heap[g]? = some (.cells cells t mm)) (hc : cells = #[.slice A1 l1.length c1, .slice A2 l2.length c2, .slice A3 l3.length c3])
    (h1 : Kd.C (Kd.int .u8) w A1 l1.length l1) (e1 : l1.length ≤ c1) (h2 : Kd.C (Kd.int .u8) w A2 l2.length l2) (e2 : l2.length ≤ c2) (h3 : Kd.C (Kd.int .u8) w A3 l3.length l3) (e3 : l3.length ≤ c3) :
    Kd.C (Kd.slice 5 (Kd.int .u8)) w (some ⟨g, 0, none⟩) [l1, l2, l3].length [l1, l2, l3] := by
  subst hc
  refine ⟨rfl, by simp, fun _ => ⟨_, rfl, fun j p hj => ?_⟩⟩
  have hcell : ∀ (j : Nat) (u : Value), #[Value.slice A1 l1.length c1, .slice A2 l2.length c2, .slice A3 l3.length c3][j]? = some u → w.cell? ((⟨g, 0, none⟩ : Addr).add (j * (Kd.slice 5 (Kd.int .u8)).sz + 0)) = some u := by
    intro j u hu
    rw [show (Kd.slice 5 (Kd.int .u8)).sz = 1 from rfl, Nat.mul_one, Nat.add_zero]
    by_cases hj : j = 0
    · subst hj; simpa [World.cell?, Addr.add, hb] using hu
    · simpa [World.cell?, Addr.add, hj, hb] using hu
  match j, hj with
  | 0, hj => cases hj; exact ⟨[.slice A1 l1.length c1], rfl, ⟨A1, c1, rfl, e1, h1⟩, fun i u hu => by match i, hu with | 0, hu => cases hu; exact hcell 0 _ rfl⟩
  | 1, hj => cases hj; exact ⟨[.slice A2 l2.length c2], rfl, ⟨A2, c2, rfl, e2, h2⟩, fun i u hu => by match i, hu with | 0, hu => cases hu; exact hcell 1 _ rfl⟩
  | 2, hj => cases hj; exact ⟨[.slice A3 l3.length c3], rfl, ⟨A3, c3, rfl, e3, h3⟩, fun i u hu => by match i, hu with | 0, hu => cases hu; exact hcell 2 _ rfl⟩
theorem add_eq (g o j : Nat) : (⟨g, o, none⟩ : Addr).add j = ⟨g, o + j, none⟩ := by
  by_cases hj : j = 0
  · subst hj; rfl
  · simp [Addr.add, hj]
theorem own_cells {w : World} {base n c : Nat} {A : Option Addr} {xs : List Value} (h : w.ownsRow base 5 1 (.slice A n c) n xs) (hn : 0 < n) :
    ∃ g, A = some ⟨g, 0, none⟩ ∧ base ≤ g ∧ g < w.heap.size ∧ c ≤ 9223372036854775807 ∧ n ≤ c ∧ ∀ W : World, W.heap[g]? = w.heap[g]? → ∀ j u, xs[j]? = some u → W.cell? ⟨g, j, none⟩ = some u := by
  obtain ⟨hlen, ⟨_, h0⟩ | ⟨g, cap, cur, e, hg, hheap, hle, hcap, hsz, htk⟩⟩ := h
  · omega
  · injection e with e1 e2 e3
    subst e1 e3
    refine ⟨g, rfl, hg, (Array.getElem?_eq_some_iff.1 hheap).1, hcap, hle, fun W hW j u hu => ?_⟩
    have hj : cur[j]? = some u := by
      rw [← htk, List.getElem?_take] at hu
      split at hu
      · simpa using hu
      · cases hu
    simp [World.cell?, hW, hheap, hj]
theorem part_cells {xs : List Value} {a m j : Nat} {u : Value} (h : ((xs.drop a).take m)[j]? = some u) : xs[a + j]? = some u := by
  rw [List.getElem?_take] at h
  split at h
  · rwa [List.getElem?_drop] at h
  · cases h
theorem ownFrom_keepX {β : Type} {n₀ B B' : Nat} {w₀ : World} (h0 : n₀ ≤ w₀.heap.size) (h1 : n₀ ≤ B') : OwnFrom B' (fun (_ : β) W => KeepX n₀ B w₀ W) :=
  fun _ W W' row hs hg hr => ⟨Nat.le_trans hs.1 hg.size, fun k hk hB => (hg.block k (Nat.lt_of_lt_of_le (Nat.lt_of_lt_of_le hk h0) hs.1) (fun e => by have := (hr k e.symm).1; omega)).trans (hs.2 k hk hB)⟩
theorem append_stepIn {F : Fence} {n : Nat} {P : Program} (w : World) {ops : Array Oper} {o : Oper} {a : Act} {Q : Exit → Act → World → Prop} {K : Act → World → Prop} {X : Prop} (hw : Region.wanted o (yielded ops a.tmps) = true)
    (s x : Operand) (t : TypeId) (hop : o.op = Op.call { callee := Callee.builtin Builtin.append, args := #[s, x], argTypes := #[t, t] })
    (base : Nat) (e : TypeId) (i : TypeInfo) (z : Value) (size bytes : Nat) (h1 : P.underlying t = some (.slice e)) (h2 : P.info? e = some i) (h3 : i.zero = some z) (h4 : i.size = size) (h5 : i.bytes = bytes) (h6 : z.cells.size = size) (h7 : 0 < size)
    (v : Value) (k : Nat) (xs : List Value) (hs : a.eval s = v) (hown : w.ownsRow base e size v k xs) (ad : Addr) (m c : Nat) (news : List Value) (hx : a.eval x = .slice (some ad) m c) (hn : news.length = m * size)
    (hc : ∀ j u, news[j]? = some u → w.cell? (ad.add j) = some u) (h1c : ∀ u ∈ news, u.oneCell' = true) (b1 : k + m ≤ maxLen) (b2 : (k + m) * bytes ≤ 140737488355328) (b3 : base ≤ w.heap.size)
    (hK : ∀ v' w', w'.ownsRow base e size v' (k + m) (xs ++ news) → w.grownBy w' v.ownBlock → K (a.put o.dst v') w') :
    if Region.wanted o (yielded ops a.tmps) = true then Oper.wpIn F n P o a w K Q else X := by
  obtain ⟨v', w', hrun, r1, r2, r3⟩ := run_append_own (P := P) w base t o.type e i z size bytes h1 h2 h3 h4 h5 h6 h7 v k xs hown ad m c news hn hc h1c b1 b2 b3
  rw [if_pos hw]
  unfold Oper.wpIn
  refine ⟨?_, ?_⟩
  · simp [Oper.about, hop, resolve, Target.leads, Sem.run_pure]
  · rw [Oper.semAt_plain F _ _ (by rw [hop]; intro c hc'; cases hc')]
    simp [execOp, hop, resolve, invoke, builtin, hs, hx, hrun, Result.andThen]
    exact hK v' w' r1 r2
theorem own_le {w : World} {base n : Nat} {v : Value} {xs : List Value} (h : w.ownsRow base 5 1 v n xs) (r : Nat) (e : v.ownBlock = some r) : base ≤ r ∧ ∃ cells, w.heap[r]? = some (.cells cells 5 (0, 0)) := by
  rcases h.2 with ⟨rfl, _⟩ | ⟨g, cap, cur, rfl, hg, hh, _⟩
  · cases e
  · cases e; exact ⟨hg, cur, hh⟩
theorem own_form {w : World} {base n : Nat} {v : Value} {xs : List Value} (h : w.ownsRow base 5 1 v n xs) (hn : 0 < n) : ∃ g c, v = .slice (some ⟨g, 0, none⟩) n c := by
  rcases h.2 with ⟨_, h0⟩ | ⟨g, cap, cur, rfl, _⟩
  · omega
  · exact ⟨g, cap, rfl⟩
theorem kept_row {w w1 : World} {base n : Nat} {v : Value} {xs : List Value} (h : w.ownsRow base 5 1 v n xs) (g : w.grownBy w1 v.ownBlock) : KeepsOthers w w1 := by
  refine ⟨g.size, fun k o hk ho => ?_⟩
  have hlt := (Array.getElem?_eq_some_iff.1 hk).1
  by_cases e : some k = v.ownBlock
  · obtain ⟨_, cells, hc⟩ := own_le h k e.symm
    rw [hc] at hk; cases hk; cases ho
  · exact (g.block k hlt e).trans hk
theorem kept_x {w w1 : World} {base n N B : Nat} {v : Value} {xs : List Value} (h : w.ownsRow base 5 1 v n xs) (g : w.grownBy w1 v.ownBlock) (hN : N ≤ base) (hs : N ≤ w.heap.size) : KeepX N B w w1 :=
  ⟨g.size, fun k hk _ => g.block k (by omega) (fun e => by have := (own_le h k e.symm).1; omega)⟩
theorem undrew {w w1 : World} {r : Option Nat} (g : w.drew.grownBy w1 r) : w.grownBy w1 r := ⟨g.os, g.tape, g.output, g.size, g.block⟩
theorem round_end {W w1 w2 : World} {v v1 v2 : Value} {BO B0 k k1 k2 : Nat} {xs ys zs : List Value} (hv : Boxed W BO 23 v) (hrow : W.ownsRow (BO + 3) 5 1 v k xs) (hs : BO + 3 ≤ W.heap.size) (h0 : B0 ≤ BO)
    (r1 : w1.ownsRow (BO + 3) 5 1 v1 k1 ys) (g1 : W.grownBy w1 v.ownBlock) (r2 : w2.ownsRow (BO + 3) 5 1 v2 k2 zs) (g2 : w1.grownBy w2 v1.ownBlock) :
    Boxed w2 BO 23 v ∧ KeepsOthers W (w2.setCell ⟨BO, 0, none⟩ v2) ∧ KeepX (BO + 3) BO W (w2.setCell ⟨BO, 0, none⟩ v2) ∧ Boxed (w2.setCell ⟨BO, 0, none⟩ v2) BO 23 v2 ∧ (w2.setCell ⟨BO, 0, none⟩ v2).ownsRow (BO + 3) 5 1 v2 k2 zs ∧ Below B0 W (w2.setCell ⟨BO, 0, none⟩ v2) := by
  have hs1 : BO + 3 ≤ w1.heap.size := Nat.le_trans hs g1.size
  have hv1 : Boxed w1 BO 23 v := hv.kept g1 (fun e => by have := (own_le hrow BO e.symm).1; omega)
  have hv2 : Boxed w2 BO 23 v := hv1.kept g2 (fun e => by have := (own_le r1 BO e.symm).1; omega)
  have gs := grownBy_setCell' w2 BO v2
  refine ⟨hv2, ((kept_row hrow g1).trans (kept_row r1 g2)).trans (KeepsOthers.setCell _ _ _), ((kept_x hrow g1 (Nat.le_refl _) hs).trans (kept_x r1 g2 (Nat.le_refl _) hs1)).trans ⟨gs.size, fun i hi hB => gs.block i (by have := g2.size; omega) (fun e => hB (by injection e))⟩, hv2.set v2, r2.kept gs ?_, ?_⟩
  · rcases r2.2 with ⟨rfl, _⟩ | ⟨g, cap, cur, rfl, hg, _⟩
    · exact .inl rfl
    · exact .inr (by intro e; injection e with e; first | (change g = BO at e; omega) | (change BO = g at e; omega))
  · refine (((Below.refl B0 W).grown g1 (by omega) (fun r e => ?_)).grown g2 (by omega) (fun r e => ?_)).grown gs (by have := g2.size; omega) (fun r e => ?_)
    · have := (own_le hrow r e).1; omega
    · have := (own_le r1 r e).1; omega
    · cases e; omega
attribute [local irreducible] stampOf be4 be2 filled body cuts sectors XCheck.fr
attribute [local go_sem] Oper.semAt_some
set_option maxHeartbeats 4000000 in
set_option maxRecDepth 100000 in
theorem pack_walk (a0 : Int) (a1 : Int) (A2 : Option Addr) (c2 : Nat) (l2 : List Int) (w : World) (hr2 : Kd.C (Kd.int .u8) w A2 l2.length l2) (hc2 : l2.length ≤ c2)
    (ha : 0 ≤ a0 ∧ a0 < 4294967296 ∧ 0 ≤ a1 ∧ a1 < 4294967296) (hl : l2.length ≤ 65535) (hb : ∀ c ∈ l2, 0 ≤ c ∧ c < 256) :
    Calls Try.prog 34 #[.int .i64 a0, .int .i64 a1, .slice A2 l2.length c2] w fun e w' => ∃ v0_ : Value, e = .returned (.tuple #[v0_, .int .i64 0]) ∧ Kd.V (Kd.int .u8) 5 w' w.heap.size (fun k_ => w.heap.size ≤ k_ ∧ ∃ cells, w'.heap[k_]? = some (.cells cells 5 (0, 0))) v0_ (packed a0 a1 l2) ∧ Below w.heap.size w w' := by
  have hm := hr2.2.1
  have i0 : ¬ (min a0 a1 < 0) := by omega
  have i1 : ¬ (max a0 a1 > 4294967295) := by omega
  have i0' : 0 ≤ a0 := ha.1
  have i2 : ((l2.length : Nat) : Int) ≤ 65535 := by omega
  have N1 := Aside0.mk (show frame_number.f 6 [] a0 4 = some (be4 a0) from number_4 a0 [] (by decide))
  have N2 := Aside0.mk (show frame_number.f 6 (be4 a0) a1 4 = some (stampOf a0 a1) from by have := number_4 a1 (be4 a0) (by rw [be4_len]; decide); unfold stampOf; exact this)
  have N3 := Aside0.mk (show frame_number.f 6 [] ((l2.length : Nat) : Int) 2 = some (be2 ((l2.length : Nat) : Int)) from number_2 ((l2.length : Nat) : Int) [] (by decide))
  have F1 := Aside0.mk (show check_Of.f (stampOf a0 a1) = some (XCheck.fr 4294967295 (stampOf a0 a1)) from by unfold check_Of.f; rw [show check_From.f 4294967295 (stampOf a0 a1) = _ from From_f _ _ (by decide) (stamp_range a0 a1)]; rfl)
  have F2 := Aside0.mk (show check_From.f (XCheck.fr 4294967295 (stampOf a0 a1)) (be2 ((l2.length : Nat) : Int)) = _ from From_f _ _ (sum_range _ _ (by decide)) (be2_range _))
  have F3 := Aside0.mk (show check_From.f (XCheck.fr (XCheck.fr 4294967295 (stampOf a0 a1)) (be2 ((l2.length : Nat) : Int))) l2 = some (sumOf a0 a1 l2) from From_f _ _ (sum_range _ _ (sum_range _ _ (by decide))) hb)
  have hS : 0 ≤ sumOf a0 a1 l2 ∧ sumOf a0 a1 l2 < 4294967296 := sum_range _ _ (sum_range _ _ (sum_range _ _ (by decide)))
  have N4 := Aside0.mk (show frame_number.f 6 [] (sumOf a0 a1 l2) 4 = some (be4 (sumOf a0 a1 l2)) from number_4 (sumOf a0 a1 l2) [] (by decide))
  have S1 := Aside0.mk (Sectors_f l2.length hl)
  have HS := Aside0.mk (sectors_le l2.length)
  have hm2 : sectors l2.length ≤ 3000 := by unfold sectors; omega
  have HF := Aside0.mk (show filled a0 a1 l2 = _ from by unfold filled; rfl)
  have L1 := Aside0.mk (stamp_len a0 a1)
  have L2 := Aside0.mk (be2_len ((l2.length : Nat) : Int))
  have L3 := Aside0.mk (be4_len (sumOf a0 a1 l2))
  have LB := Aside0.mk (show be2 ((l2.length : Nat) : Int) ++ (be4 (sumOf a0 a1 l2) ++ l2) = body a0 a1 l2 from by unfold body; rfl)
  have LL := Aside0.mk (body_len a0 a1 l2)
  have LF := Aside0.mk (filled_len a0 a1 l2)
  have LP := Aside0.mk (show packed a0 a1 l2 = cuts (filled a0 a1 l2) (stampOf a0 a1) (List.range (sectors l2.length)) from by unfold packed cut; rfl)
  generalize packed a0 a1 l2 = out at LP ⊢
  generalize filled a0 a1 l2 = full at HF LF LP
  generalize body a0 a1 l2 = bod at HF LB LL
  generalize sumOf a0 a1 l2 = S at F3 hS N4 L3 LB
  generalize XCheck.fr (XCheck.fr 4294967295 (stampOf a0 a1)) (be2 ((l2.length : Nat) : Int)) = S2 at F2 F3
  generalize XCheck.fr 4294967295 (stampOf a0 a1) = S3 at F1 F2
  generalize stampOf a0 a1 = mk at N2 F1 L1 LP
  generalize be4 a0 = b1 at N1 N2
  generalize be4 S = b4 at N4 L3 LB
  generalize be2 ((l2.length : Nat) : Int) = b2 at N3 F2 L2 LB
  generalize sectors l2.length = m at S1 HS HF LF LP hm2
  refine (callsIn_wide (n := 8)).1 (callsIn_of_wp_marks Try.func34 rfl trivial ?_ rfl)
  refine wpIn_wide.2 ?_
  simp only [Try.ntmps34, List.size_toArray, List.length_cons, List.length_nil, Nat.reduceAdd, Nat.reduceSub, Array.replicate_succ, Array.replicate_zero, List.push_toArray, List.append_toArray, List.nil_append, List.cons_append]
  go_wp2_with fail
  refine (frame_number.calls 6 (fun _ => False) (.slice none 0 0) [] a0 4 _ w w (Below.refl _ _) (Kd.R_nil _ _ _ _ _) N1.out).mono ?_
  rintro e w1 ⟨v1, rfl, hR1, hB1, -⟩
  obtain ⟨A1, c1, rfl⟩ := Kd.R_slice hR1
  go_wp2_with fail
  refine (frame_number.calls 6 (fun _ => True) _ _ a1 4 _ w w1 hB1 (Kd.R_mono hR1 (fun _ _ => trivial)) N2.out).mono ?_
  rintro e w2 ⟨v2, rfl, hR2, hB2, -⟩
  obtain ⟨Am, cm, rfl⟩ := Kd.R_slice hR2
  go_wp2_with fail
  have bx := Boxed.new w2 23 (.slice Am mk.length cm)
  have hB3 := below_al hB2 (.cells #[.slice Am mk.length cm] 23)
  have hRm := Kd.R_alloc hR2 (.cells #[.slice Am mk.length cm] 23)
  have hB8 : w.heap.size ≤ w2.heap.size := hB2.size
  generalize w2.alloc (.cells #[.slice Am mk.length cm] 23) = w3 at bx hB3 hRm ⊢
  generalize w2.heap.size = B8 at bx hB8 ⊢
  clear hR1 hB1 hR2 hB2
  refine (frame_number.calls 6 (fun _ => False) (.slice none 0 0) [] _ 2 _ w3 w3 (Below.refl _ _) (Kd.R_nil _ _ _ _ _) N3.out).mono ?_
  rintro e w4 ⟨v4, rfl, hR4, hB4, -⟩
  obtain ⟨A4, c4, rfl⟩ := Kd.R_slice hR4
  obtain ⟨_, _, e4, hc4, hC4⟩ := Kd.R_reads hR4
  cases e4
  replace bx := boxed_2 bx hB4
  replace hRm := Kd.R_below hRm hB4
  replace hB3 := below_2 hB3 hB4
  clear hB4 hR4
  obtain ⟨_, _, em, hcm, hCm⟩ := Kd.R_reads hRm
  cases em
  have hbc := bx.cell
  go_wp2_with fail
  refine (check_Of.calls _ _ mk _ w4 hCm hcm F1.out).mono ?_
  rintro e w5 ⟨rfl, hB5⟩
  replace bx := boxed_2 bx hB5
  replace hRm := Kd.R_below hRm hB5
  replace hB3 := below_2 hB3 hB5
  replace hC4 := Kd.C_below hC4 hB5
  clear hB5 hCm hbc
  go_wp2_with fail
  refine (check_From.calls _ _ _ b2 _ w5 hC4 hc4 F2.out).mono ?_
  rintro e w6 ⟨rfl, hB6⟩
  replace bx := boxed_2 bx hB6
  replace hRm := Kd.R_below hRm hB6
  replace hB3 := below_2 hB3 hB6
  replace hC4 := Kd.C_below hC4 hB6
  clear hB6
  go_wp2_with fail
  refine (check_From.calls _ _ _ l2 _ w6 (Kd.C_below hr2 hB3) hc2 F3.out).mono ?_
  rintro e w7 ⟨rfl, hB7⟩
  replace bx := boxed_2 bx hB7
  replace hRm := Kd.R_below hRm hB7
  replace hB3 := below_2 hB3 hB7
  replace hC4 := Kd.C_below hC4 hB7
  clear hB7
  go_wp2_with fail
  refine (frame_number.calls 6 (fun _ => False) (.slice none 0 0) [] _ 4 _ w7 w7 (Below.refl _ _) (Kd.R_nil _ _ _ _ _) N4.out).mono ?_
  rintro e w8 ⟨v8, rfl, hR8, hB8', -⟩
  obtain ⟨A8, c8, rfl⟩ := Kd.R_slice hR8
  obtain ⟨_, _, e8, hc8, hC8⟩ := Kd.R_reads hR8
  cases e8
  replace bx := boxed_2 bx hB8'
  replace hRm := Kd.R_below hRm hB8'
  replace hB3 := below_2 hB3 hB8'
  replace hC4 := Kd.C_below hC4 hB8'
  clear hB8' hR8
  go_wp2_with fail
  have hrow : (w8.alloc (.cells #[.slice A4 b2.length c4, .slice A8 b4.length c8, .slice A2 l2.length c2] 23)).heap[w8.heap.size]? = some (.cells #[.slice A4 b2.length c4, .slice A8 b4.length c8, .slice A2 l2.length c2] 23 (0, 0)) := World.alloc_heap_new w8 _
  have hal : Below w8.heap.size w8 (w8.alloc (.cells #[.slice A4 b2.length c4, .slice A8 b4.length c8, .slice A2 l2.length c2] 23)) := below_al (Below.refl _ _) _
  have hC3 := rows3 hrow rfl (Kd.C_below hC4 hal) hc4 (Kd.C_below hC8 hal) hc8 (Kd.C_below hr2 (below_2 hB3 hal)) hc2
  replace bx := boxed_2 bx hal
  replace hRm := Kd.R_below hRm hal
  replace hB3 := below_2 hB3 hal
  generalize w8.heap.size = g9 at hC3 ⊢
  generalize w8.alloc (.cells #[.slice A4 b2.length c4, .slice A8 b4.length c8, .slice A2 l2.length c2] 23) = w9 at bx hRm hB3 hC3 ⊢
  clear hal hrow hC8 hC4
  refine (XSlices.concat_walk (some ⟨g9, 0, none⟩) 3 [b2, b4, l2] w9 hC3 (by have := L2.out; have := L3.out; simp only [XSlices.total, List.map_cons, List.map_nil, List.sum_cons, List.sum_nil]; omega)).mono ?_
  rw [show [b2, b4, l2].flatten = bod from by rw [← LB.out]; simp]
  rintro e w10 ⟨v10, rfl, hRd, hB10⟩
  obtain ⟨Ad, cd, rfl⟩ := Kd.R_slice hRd
  go_wp2_with fail
  refine (frame_Sectors.calls _ _ _ S1.out).mono ?_
  rintro e w11 ⟨rfl, ⟨n11, rfl⟩⟩
  have hR11 := Kd.R_drewN hRd n11
  have hB11 := pw_below_drewN hB10 n11
  generalize w10.drewN n11 = w11 at hR11 hB11 ⊢
  clear hRd hB10 hC3
  have k1 : ((bod.length : Nat) : Int) ≤ (m : Int) * 24 := by have := HS.out; have := LL.out; omega
  have k2 : 0 ≤ (m : Int) * 24 := by omega
  have k3 : (m : Int) * 24 ≤ 72000 := by omega
  have k4 : 0 ≤ (m : Int) * 24 - ((bod.length : Nat) : Int) := by omega
  have k5 : (bod.length + ((m : Int) * 24 - ((bod.length : Nat) : Int)).toNat) * 1 ≤ 140737488355328 := by omega
  have HF' := Aside0.mk (show bod ++ List.replicate ((m : Int) * 24 - ((bod.length : Nat) : Int)).toNat (0 : Int) = full from by
    rw [HF.out]; congr 1; congr 1; have := LL.out; have := HS.out; omega)
  clear HF
  go_wp2_with (at_builtin; refine Kd.R_append_zeros (Kd.int .u8) (w0 := w9) w9.heap.size rfl (.tmp 47) (.tmp 54) 23 3 5 (.int .u8 0) 1 rfl Try.underlying23 Try.underlying3 XSlices.info_u8 rfl (by decide) (by decide) _ bod 0 ((m : Int) * 24 - ((bod.length : Nat) : Int)) (fun _ => True) rfl rfl rfl (fun _ _ => trivial) hR11 k4 hB11 hB11.size k5 ?_; rw [HF'.out]; rintro v12 w12 hR12 hB12 - -; obtain ⟨A12, c12, rfl⟩ := Kd.R_slice hR12)
  replace bx := boxed_2 bx hB12
  replace hRm := Kd.R_below hRm hB12
  replace hB3 := below_2 hB3 hB12
  have hB8l := bx.lt
  have hw12 := hB3.size
  have hm1 : 1 ≤ m := by have := HS.out; omega
  have hfl : full.length = 24 * m := LF.out
  have HOM := Kd.own_of_R hRm
  have HOD := Kd.own_of_R hR12
  obtain ⟨gm, rfl, hgm, hgml, -, -, hmc⟩ := own_cells HOM (by have := L1.out; omega)
  obtain ⟨gd, rfl, hgd, hgdl, hdc1, hdc2, hdc⟩ := own_cells HOD (by omega)
  clear HOM HOD hR11 hB11 hR12 hRm hB12
  refine (chunk_walk (some ⟨gd, 0, none⟩) full.length c12 _).mono ?_
  rintro e w14 ⟨rfl, hw14⟩
  have bO := Boxed.new w12 23 (.slice none 0 0)
  have hb13 := below_al (Below.refl w12.heap.size w12) (.cells #[.slice none 0 0] 23)
  have hs13 : (w12.alloc (.cells #[.slice none 0 0] 23)).heap.size = w12.heap.size + 1 := by simp
  generalize w12.alloc (.cells #[.slice none 0 0] 23) = w13 at bO hb13 hs13 hw14 ⊢
  have bS := (Boxed.new w13 23 (.slice (some ⟨gd, 0, none⟩) full.length c12)).alloc (.cells #[.int .i64 24] 3)
  have bN := Boxed.new (w13.alloc (.cells #[.slice (some ⟨gd, 0, none⟩) full.length c12] 23)) 3 (.int .i64 24)
  have hb14 := below_al (below_al (Below.refl w13.heap.size w13) (.cells #[.slice (some ⟨gd, 0, none⟩) full.length c12] 23)) (.cells #[.int .i64 24] 3)
  have hs14 : ((w13.alloc (.cells #[.slice (some ⟨gd, 0, none⟩) full.length c12] 23)).alloc (.cells #[.int .i64 24] 3)).heap.size = w12.heap.size + 3 := by simp [hs13]
  rw [← hw14] at bS bN hb14 hs14
  rw [World.size_alloc] at bN
  clear hw14
  replace bO := boxed_2 bO hb14
  rw [hs13] at bS bN
  rw [hs13]
  have hb' := below_2 hb13 hb14
  replace bx := boxed_2 bx hb'
  replace hB3 := below_2 hB3 hb'
  replace hmc := fun W (h : W.heap[gm]? = w14.heap[gm]?) => hmc W (h.trans (hb'.block gm hgml))
  replace hdc := fun W (h : W.heap[gd]? = w14.heap[gd]?) => hdc W (h.trans (hb'.block gd hgdl))
  clear hb13 hb14 hb' hs13
  generalize w12.heap.size = BO at *
  go_wp2_with fail
  refine (wpIn_wide (n := 8)).1 ?_
  refine' wpIn_rangeFunc_ownG rfl (by decide) (gf := 54) (lb := #[.pointer (some ⟨BO + 1, 0, none⟩), .pointer (some ⟨BO + 1 + 1, 0, none⟩)]) rfl trivial (enters_of Try.func54 (by kernel_rfl) rfl)
    (chunk_stops 7 (by decide) (BO + 1) (BO + 1 + 1) (BO + 3) BO gd c12 m (by omega) hdc1 (by omega) w14 (by omega) (by rw [← hfl]; exact bS.cell) bN.cell) keepX_t (keepX_b (by omega)) (Below.refl _ _) (fun _ => rfl)
    (fun pre W => (∃ v, Boxed W BO 23 v ∧ W.ownsRow (BO + 3) 5 1 v (cuts full mk (pre.map (·.1))).length (encs (Value.int .u8) (cuts full mk (pre.map (·.1)))) ∧ True) ∧ (Below w.heap.size w W ∧ KeepX (BO + 3) BO w14 W))
    (fun _ _ _ => False)
    (OwnFrom.and (Own.from (holdsRow_own (BO + 3) BO 23 5 1 _ _ _) _) (OwnFrom.and (ownFrom_below (Nat.le_refl _) (by omega)) (ownFrom_keepX (by omega) (by omega))))
    (fun _ _ _ _ _ hs _ _ => hs)
    ⟨⟨_, bO, by unfold cuts; exact World.ownsRow_nil _ _ _ _, trivial⟩, hB3, KeepX.refl _ _ _⟩ _ ?assign ?body ?done ?stop
  case assign =>
    intro l x W K hK
    dsimp only [piece]
    gi_wp2
    exact hK
  case stop =>
    rintro D c pre W _ _ h _
    exact h.elim
  case done =>
    rintro D ys W hD hys ⟨⟨v, hv, hrow, -⟩, hBW, hKW⟩ hK
    rw [hys, ← LP.out] at hrow
    have hol := Aside0.mk (show out.length = 32 * m from by
      rw [LP.out, cuts_len _ _ _ (fun k hk => by have := List.mem_range.1 hk; omega) L1.out, List.length_range])
    obtain ⟨go, co, rfl⟩ := own_form hrow (by have := hol.out; omega)
    have hRo := Kd.R_V (base' := w.heap.size) (Kd.R_of_own (h1 := fun _ => rfl) (ok := fun k_ => w.heap.size ≤ k_) hrow (fun r e => by have := (own_le hrow r e).1; omega))
    have hc := hv.cell
    go_wp2_with fail
    refine (XSlices.clip_walk _ co out W (Kd.V_at hRo).2.1 (by have := hol.out; omega)).mono ?_
    rintro e W' ⟨rfl, rfl⟩
    go_wp2_with fail
    refine ⟨by simp, .inl ⟨_, _, rfl, run_takeDeferred hK, ?_⟩⟩
    have hrow2 := ownsRow_putObj hrow (.deferred none) hK rfl
    have hT2 := own_le hrow2 go (by simp [Value.ownBlock])
    have hR2 := Kd.R_V (base' := w.heap.size) (Kd.R_of_own (h1 := fun _ => rfl) (ok := fun k_ => k_ = go) hrow2 (fun r e => by simp [Value.ownBlock] at e; exact e.symm))
    exact ⟨_, results_tmp2 rfl _ _ _, _, rfl, Kd.V_mono (Kd.V_mk (Nat.le_refl _) (Kd.V_at hR2).2.2) (fun k_ hk_ => by subst hk_; exact ⟨by omega, hT2.2⟩), hBW.trans (belowK_b (w := w) (Nat.le_refl _) W D _ _ (by omega) hK rfl rfl)⟩
  case body =>
    rintro l pre x W ⟨⟨v, hv, hrow, -⟩, hBW, hKW⟩ hlt
    have hc := hv.cell
    have hf := hv.frozen
    have hc8 : W.cell? ⟨B8, 0, none⟩ = some (.slice (some ⟨gm, 0, none⟩) mk.length cm) := (hKW.cell (p := ⟨B8, 0, none⟩) (by simp; omega) (by simp; omega)).trans bx.cell
    obtain ⟨i5, hi5, hz0, hz1, hz2⟩ := info_parts XSlices.info_u8
    have hWs : w14.heap.size ≤ W.heap.size := hKW.1
    have hs3 : BO + 3 ≤ W.heap.size := by omega
    have hW0 : w.heap.size ≤ W.heap.size := by omega
    have hx := x.2
    have hpl : pre.length < 3000 := by omega
    have hcl : (cuts full mk (pre.map (·.1))).length = 32 * pre.length := by
      rw [cuts_len _ _ _ (fun k hk => by obtain ⟨y, _, rfl⟩ := List.mem_map.1 hk; have := y.2; omega) L1.out, List.length_map]
    have hl8 := L1.out
    have hn1 : (encs (Value.int .u8) ((full.drop (24 * x.1)).take 24)).length = 24 * 1 := by rw [encs_length, List.length_take, List.length_drop]; omega
    have hn2 : (encs (Value.int .u8) mk).length = 8 * 1 := by rw [encs_length]; omega
    have ho1 : ∀ u ∈ encs (Value.int .u8) ((full.drop (24 * x.1)).take 24), u.oneCell' = true := by
      intro u hu; obtain ⟨z, _, rfl⟩ := List.mem_map.1 hu; rfl
    have ho2 : ∀ u ∈ encs (Value.int .u8) mk, u.oneCell' = true := by
      intro u hu; obtain ⟨z, _, rfl⟩ := List.mem_map.1 hu; rfl
    have hc1 : ∀ j u, (encs (Value.int .u8) ((full.drop (24 * x.1)).take 24))[j]? = some u → W.cell? ((⟨gd, 24 * x.1, none⟩ : Addr).add j) = some u := by
      intro j u hu
      rw [add_eq]
      refine hdc W (hKW.2 gd (by omega) (by omega)) _ _ ?_
      have e : encs (Value.int .u8) ((full.drop (24 * x.1)).take 24) = ((encs (Value.int .u8) full).drop (24 * x.1)).take 24 := by unfold encs; rw [List.map_take, List.map_drop]
      rw [e] at hu
      exact part_cells hu
    have hm1a : (cuts full mk (pre.map (·.1))).length + 24 ≤ maxLen := by rw [hcl]; unfold maxLen; omega
    have hm1b : ((cuts full mk (pre.map (·.1))).length + 24) * 1 ≤ 140737488355328 := by rw [hcl]; omega
    have hm2a : (cuts full mk (pre.map (·.1))).length + 24 + 8 ≤ maxLen := by rw [hcl]; unfold maxLen; omega
    have hm2b : ((cuts full mk (pre.map (·.1))).length + 24 + 8) * 1 ≤ 140737488355328 := by rw [hcl]; omega
    have hmid : ∀ (v1 : Value) (w1 : World), W.grownBy w1 v.ownBlock → BO + 3 ≤ w1.heap.size ∧ w1.cell? ⟨B8, 0, none⟩ = some (.slice (some ⟨gm, 0, none⟩) 8 cm) ∧ ∀ j u, (encs (Value.int .u8) mk)[j]? = some u → w1.cell? ((⟨gm, 0, none⟩ : Addr).add j) = some u := by
      intro v1 w1 g1
      have kx := kept_x (B := BO) hrow g1 (Nat.le_refl _) hs3
      have kx' := hKW.trans kx
      refine ⟨Nat.le_trans hs3 g1.size, ?_, fun j u hu => ?_⟩
      · rw [← hl8]
        exact (kx'.cell (p := ⟨B8, 0, none⟩) (by simp; omega) (by simp; omega)).trans bx.cell
      · rw [add_eq, Nat.zero_add]
        exact hmc w1 (kx'.2 gm (by omega) (by omega)) _ _ hu
    have hfin : (cuts full mk ((pre ++ [x]).map (·.1))).length = (cuts full mk (pre.map (·.1))).length + 24 + 8 ∧ encs (Value.int .u8) (cuts full mk ((pre ++ [x]).map (·.1))) = (encs (Value.int .u8) (cuts full mk (pre.map (·.1))) ++ encs (Value.int .u8) ((full.drop (24 * x.1)).take 24)) ++ encs (Value.int .u8) mk := by
      have e : cuts full mk ((pre ++ [x]).map (·.1)) = (cuts full mk (pre.map (·.1)) ++ (full.drop (24 * x.1)).take 24) ++ mk := by
        rw [List.map_append]; exact cuts_snoc _ _ _ _
      rw [e]
      refine ⟨?_, by unfold encs; rw [List.map_append, List.map_append]⟩
      rw [List.length_append, List.length_append, List.length_take, List.length_drop, hl8]; omega
    have hend : ∀ (v1 : Value) (w1 : World) (v2 : Value) (w2 : World), w1.ownsRow (BO + 3) 5 1 v1 ((cuts full mk (pre.map (·.1))).length + 24) (encs (Value.int .u8) (cuts full mk (pre.map (·.1))) ++ encs (Value.int .u8) ((full.drop (24 * x.1)).take 24)) → W.grownBy w1 v.ownBlock →
        w2.ownsRow (BO + 3) 5 1 v2 ((cuts full mk (pre.map (·.1))).length + 24 + 8) ((encs (Value.int .u8) (cuts full mk (pre.map (·.1))) ++ encs (Value.int .u8) ((full.drop (24 * x.1)).take 24)) ++ encs (Value.int .u8) mk) → w1.grownBy w2 v1.ownBlock →
        (w2.cell? ⟨BO, 0, none⟩ = some v ∧ w2.frozen? ⟨BO, 0, none⟩ = false) ∧ (KeepsFrom w14.heap.size W (w2.setCell ⟨BO, 0, none⟩ v2) ∧ KeepX (BO + 3) BO W (w2.setCell ⟨BO, 0, none⟩ v2) ∧ ((∃ v, Boxed (w2.setCell ⟨BO, 0, none⟩ v2) BO 23 v ∧ (w2.setCell ⟨BO, 0, none⟩ v2).ownsRow (BO + 3) 5 1 v (cuts full mk ((pre ++ [x]).map (·.1))).length (encs (Value.int .u8) (cuts full mk ((pre ++ [x]).map (·.1)))) ∧ True) ∧ (Below w.heap.size w (w2.setCell ⟨BO, 0, none⟩ v2) ∧ KeepX (BO + 3) BO w14 (w2.setCell ⟨BO, 0, none⟩ v2)))) := by
      intro v1 w1 v2 w2 r1 g1 r2 g2
      obtain ⟨E1, E2, E3, E4, E5, E6⟩ := round_end hv hrow hs3 hw12 r1 g1 r2 g2
      exact ⟨⟨E1.cell, E1.frozen⟩, E2.from _, E3, ⟨v2, E4, by rw [hfin.1, hfin.2]; exact E5, trivial⟩, hBW.trans E6, hKW.trans E3⟩
    have hmx : Try.prog.follows .mixedOrders = true := by kernel_rfl
    gi_wp2
    refine wpIn_region_any hmx ?_
    change wpAnyIn _ _ _ _ _ _ _ _ _ (World.drew _)
    refine wpAnyIn_ready (rs := [0, 1, 3]) (by kernel_rfl) (by simp) ?_
    refine AllReadyIn.cons rfl (fun K hK => ?_) (AllReadyIn.cons rfl (fun K hK => ?_) (AllReadyIn.cons rfl (fun K hK => ?_) AllReadyIn.nil))
    · go_simp
      refine hK _ _ ?_
      clear hK K
      refine wpAnyIn_ready (rs := [1, 3]) (by kernel_rfl) (by simp) ?_
      refine AllReadyIn.cons rfl (fun K hK => ?_) (AllReadyIn.cons rfl (fun K hK => ?_) AllReadyIn.nil)
      · go_simp
        refine hK _ _ ?_
        clear hK K
        refine wpAnyIn_ready (rs := [2, 3]) (by kernel_rfl) (by simp) ?_
        refine AllReadyIn.cons rfl (fun K hK => ?_) (AllReadyIn.cons rfl (fun K hK => ?_) AllReadyIn.nil)
        · refine append_stepIn W.drew rfl (.tmp 59) (.tmp 60) 23 rfl (BO + 3) 5 i5 (.int .u8 0) 1 1 Try.underlying23 hi5 hz0 hz1 hz2 rfl (by decide) v _ _ rfl hrow ⟨gd, 24 * x.1, none⟩ 24 24 (encs (Value.int .u8) ((full.drop (24 * x.1)).take 24)) rfl hn1 hc1 ho1 hm1a hm1b hs3 ?_
          intro v1 w1 r1 g1
          replace g1 := undrew g1
          obtain ⟨hs1, hc81, hcm1⟩ := hmid v1 w1 g1
          refine hK _ _ ?_
          clear hK K
          refine wpAnyIn_ready (rs := [3]) (by kernel_rfl) (by simp) ?_
          refine AllReadyIn.cons rfl (fun K hK => ?_) AllReadyIn.nil
          · go_simp
            refine hK _ _ ?_
            clear hK K
            refine wpAnyIn_ready (rs := [4]) (by kernel_rfl) (by simp) ?_
            refine AllReadyIn.cons rfl (fun K hK => ?_) AllReadyIn.nil
            · refine append_stepIn w1 rfl (.tmp 61) (.tmp 62) 23 rfl (BO + 3) 5 i5 (.int .u8 0) 1 1 Try.underlying23 hi5 hz0 hz1 hz2 rfl (by decide) v1 _ _ rfl r1 ⟨gm, 0, none⟩ 8 cm (encs (Value.int .u8) mk) rfl hn2 hcm1 ho2 hm2a hm2b hs1 ?_
              intro v2 w2 r2 g2
              obtain ⟨⟨hcS, hfS⟩, hE⟩ := hend v1 w1 v2 w2 r1 g1 r2 g2
              obtain ⟨g', c', rfl⟩ := own_form r2 (by omega)
              refine hK _ _ ?_
              clear hK K
              refine wpAnyIn_ready (rs := [5]) (by kernel_rfl) (by simp) ?_
              refine AllReadyIn.cons rfl (fun K hK => ?_) AllReadyIn.nil
              · go_simp
                refine hK _ _ ?_
                clear hK K
                refine wpAnyIn_done (by kernel_rfl) ?_ _
                exact hE
        · go_simp
          refine hK _ _ ?_
          clear hK K
          refine wpAnyIn_ready (rs := [2]) (by kernel_rfl) (by simp) ?_
          refine AllReadyIn.cons rfl (fun K hK => ?_) AllReadyIn.nil
          · refine append_stepIn W.drew rfl (.tmp 59) (.tmp 60) 23 rfl (BO + 3) 5 i5 (.int .u8 0) 1 1 Try.underlying23 hi5 hz0 hz1 hz2 rfl (by decide) v _ _ rfl hrow ⟨gd, 24 * x.1, none⟩ 24 24 (encs (Value.int .u8) ((full.drop (24 * x.1)).take 24)) rfl hn1 hc1 ho1 hm1a hm1b hs3 ?_
            intro v1 w1 r1 g1
            replace g1 := undrew g1
            obtain ⟨hs1, hc81, hcm1⟩ := hmid v1 w1 g1
            refine hK _ _ ?_
            clear hK K
            refine wpAnyIn_ready (rs := [4]) (by kernel_rfl) (by simp) ?_
            refine AllReadyIn.cons rfl (fun K hK => ?_) AllReadyIn.nil
            · refine append_stepIn w1 rfl (.tmp 61) (.tmp 62) 23 rfl (BO + 3) 5 i5 (.int .u8 0) 1 1 Try.underlying23 hi5 hz0 hz1 hz2 rfl (by decide) v1 _ _ rfl r1 ⟨gm, 0, none⟩ 8 cm (encs (Value.int .u8) mk) rfl hn2 hcm1 ho2 hm2a hm2b hs1 ?_
              intro v2 w2 r2 g2
              obtain ⟨⟨hcS, hfS⟩, hE⟩ := hend v1 w1 v2 w2 r1 g1 r2 g2
              obtain ⟨g', c', rfl⟩ := own_form r2 (by omega)
              refine hK _ _ ?_
              clear hK K
              refine wpAnyIn_ready (rs := [5]) (by kernel_rfl) (by simp) ?_
              refine AllReadyIn.cons rfl (fun K hK => ?_) AllReadyIn.nil
              · go_simp
                refine hK _ _ ?_
                clear hK K
                refine wpAnyIn_done (by kernel_rfl) ?_ _
                exact hE
      · go_simp
        refine hK _ _ ?_
        clear hK K
        refine wpAnyIn_ready (rs := [1]) (by kernel_rfl) (by simp) ?_
        refine AllReadyIn.cons rfl (fun K hK => ?_) AllReadyIn.nil
        · go_simp
          refine hK _ _ ?_
          clear hK K
          refine wpAnyIn_ready (rs := [2]) (by kernel_rfl) (by simp) ?_
          refine AllReadyIn.cons rfl (fun K hK => ?_) AllReadyIn.nil
          · refine append_stepIn W.drew rfl (.tmp 59) (.tmp 60) 23 rfl (BO + 3) 5 i5 (.int .u8 0) 1 1 Try.underlying23 hi5 hz0 hz1 hz2 rfl (by decide) v _ _ rfl hrow ⟨gd, 24 * x.1, none⟩ 24 24 (encs (Value.int .u8) ((full.drop (24 * x.1)).take 24)) rfl hn1 hc1 ho1 hm1a hm1b hs3 ?_
            intro v1 w1 r1 g1
            replace g1 := undrew g1
            obtain ⟨hs1, hc81, hcm1⟩ := hmid v1 w1 g1
            refine hK _ _ ?_
            clear hK K
            refine wpAnyIn_ready (rs := [4]) (by kernel_rfl) (by simp) ?_
            refine AllReadyIn.cons rfl (fun K hK => ?_) AllReadyIn.nil
            · refine append_stepIn w1 rfl (.tmp 61) (.tmp 62) 23 rfl (BO + 3) 5 i5 (.int .u8 0) 1 1 Try.underlying23 hi5 hz0 hz1 hz2 rfl (by decide) v1 _ _ rfl r1 ⟨gm, 0, none⟩ 8 cm (encs (Value.int .u8) mk) rfl hn2 hcm1 ho2 hm2a hm2b hs1 ?_
              intro v2 w2 r2 g2
              obtain ⟨⟨hcS, hfS⟩, hE⟩ := hend v1 w1 v2 w2 r1 g1 r2 g2
              obtain ⟨g', c', rfl⟩ := own_form r2 (by omega)
              refine hK _ _ ?_
              clear hK K
              refine wpAnyIn_ready (rs := [5]) (by kernel_rfl) (by simp) ?_
              refine AllReadyIn.cons rfl (fun K hK => ?_) AllReadyIn.nil
              · go_simp
                refine hK _ _ ?_
                clear hK K
                refine wpAnyIn_done (by kernel_rfl) ?_ _
                exact hE
    · go_simp
      refine hK _ _ ?_
      clear hK K
      refine wpAnyIn_ready (rs := [0, 3]) (by kernel_rfl) (by simp) ?_
      refine AllReadyIn.cons rfl (fun K hK => ?_) (AllReadyIn.cons rfl (fun K hK => ?_) AllReadyIn.nil)
      · go_simp
        refine hK _ _ ?_
        clear hK K
        refine wpAnyIn_ready (rs := [2, 3]) (by kernel_rfl) (by simp) ?_
        refine AllReadyIn.cons rfl (fun K hK => ?_) (AllReadyIn.cons rfl (fun K hK => ?_) AllReadyIn.nil)
        · refine append_stepIn W.drew rfl (.tmp 59) (.tmp 60) 23 rfl (BO + 3) 5 i5 (.int .u8 0) 1 1 Try.underlying23 hi5 hz0 hz1 hz2 rfl (by decide) v _ _ rfl hrow ⟨gd, 24 * x.1, none⟩ 24 24 (encs (Value.int .u8) ((full.drop (24 * x.1)).take 24)) rfl hn1 hc1 ho1 hm1a hm1b hs3 ?_
          intro v1 w1 r1 g1
          replace g1 := undrew g1
          obtain ⟨hs1, hc81, hcm1⟩ := hmid v1 w1 g1
          refine hK _ _ ?_
          clear hK K
          refine wpAnyIn_ready (rs := [3]) (by kernel_rfl) (by simp) ?_
          refine AllReadyIn.cons rfl (fun K hK => ?_) AllReadyIn.nil
          · go_simp
            refine hK _ _ ?_
            clear hK K
            refine wpAnyIn_ready (rs := [4]) (by kernel_rfl) (by simp) ?_
            refine AllReadyIn.cons rfl (fun K hK => ?_) AllReadyIn.nil
            · refine append_stepIn w1 rfl (.tmp 61) (.tmp 62) 23 rfl (BO + 3) 5 i5 (.int .u8 0) 1 1 Try.underlying23 hi5 hz0 hz1 hz2 rfl (by decide) v1 _ _ rfl r1 ⟨gm, 0, none⟩ 8 cm (encs (Value.int .u8) mk) rfl hn2 hcm1 ho2 hm2a hm2b hs1 ?_
              intro v2 w2 r2 g2
              obtain ⟨⟨hcS, hfS⟩, hE⟩ := hend v1 w1 v2 w2 r1 g1 r2 g2
              obtain ⟨g', c', rfl⟩ := own_form r2 (by omega)
              refine hK _ _ ?_
              clear hK K
              refine wpAnyIn_ready (rs := [5]) (by kernel_rfl) (by simp) ?_
              refine AllReadyIn.cons rfl (fun K hK => ?_) AllReadyIn.nil
              · go_simp
                refine hK _ _ ?_
                clear hK K
                refine wpAnyIn_done (by kernel_rfl) ?_ _
                exact hE
        · go_simp
          refine hK _ _ ?_
          clear hK K
          refine wpAnyIn_ready (rs := [2]) (by kernel_rfl) (by simp) ?_
          refine AllReadyIn.cons rfl (fun K hK => ?_) AllReadyIn.nil
          · refine append_stepIn W.drew rfl (.tmp 59) (.tmp 60) 23 rfl (BO + 3) 5 i5 (.int .u8 0) 1 1 Try.underlying23 hi5 hz0 hz1 hz2 rfl (by decide) v _ _ rfl hrow ⟨gd, 24 * x.1, none⟩ 24 24 (encs (Value.int .u8) ((full.drop (24 * x.1)).take 24)) rfl hn1 hc1 ho1 hm1a hm1b hs3 ?_
            intro v1 w1 r1 g1
            replace g1 := undrew g1
            obtain ⟨hs1, hc81, hcm1⟩ := hmid v1 w1 g1
            refine hK _ _ ?_
            clear hK K
            refine wpAnyIn_ready (rs := [4]) (by kernel_rfl) (by simp) ?_
            refine AllReadyIn.cons rfl (fun K hK => ?_) AllReadyIn.nil
            · refine append_stepIn w1 rfl (.tmp 61) (.tmp 62) 23 rfl (BO + 3) 5 i5 (.int .u8 0) 1 1 Try.underlying23 hi5 hz0 hz1 hz2 rfl (by decide) v1 _ _ rfl r1 ⟨gm, 0, none⟩ 8 cm (encs (Value.int .u8) mk) rfl hn2 hcm1 ho2 hm2a hm2b hs1 ?_
              intro v2 w2 r2 g2
              obtain ⟨⟨hcS, hfS⟩, hE⟩ := hend v1 w1 v2 w2 r1 g1 r2 g2
              obtain ⟨g', c', rfl⟩ := own_form r2 (by omega)
              refine hK _ _ ?_
              clear hK K
              refine wpAnyIn_ready (rs := [5]) (by kernel_rfl) (by simp) ?_
              refine AllReadyIn.cons rfl (fun K hK => ?_) AllReadyIn.nil
              · go_simp
                refine hK _ _ ?_
                clear hK K
                refine wpAnyIn_done (by kernel_rfl) ?_ _
                exact hE
      · go_simp
        refine hK _ _ ?_
        clear hK K
        refine wpAnyIn_ready (rs := [0]) (by kernel_rfl) (by simp) ?_
        refine AllReadyIn.cons rfl (fun K hK => ?_) AllReadyIn.nil
        · go_simp
          refine hK _ _ ?_
          clear hK K
          refine wpAnyIn_ready (rs := [2]) (by kernel_rfl) (by simp) ?_
          refine AllReadyIn.cons rfl (fun K hK => ?_) AllReadyIn.nil
          · refine append_stepIn W.drew rfl (.tmp 59) (.tmp 60) 23 rfl (BO + 3) 5 i5 (.int .u8 0) 1 1 Try.underlying23 hi5 hz0 hz1 hz2 rfl (by decide) v _ _ rfl hrow ⟨gd, 24 * x.1, none⟩ 24 24 (encs (Value.int .u8) ((full.drop (24 * x.1)).take 24)) rfl hn1 hc1 ho1 hm1a hm1b hs3 ?_
            intro v1 w1 r1 g1
            replace g1 := undrew g1
            obtain ⟨hs1, hc81, hcm1⟩ := hmid v1 w1 g1
            refine hK _ _ ?_
            clear hK K
            refine wpAnyIn_ready (rs := [4]) (by kernel_rfl) (by simp) ?_
            refine AllReadyIn.cons rfl (fun K hK => ?_) AllReadyIn.nil
            · refine append_stepIn w1 rfl (.tmp 61) (.tmp 62) 23 rfl (BO + 3) 5 i5 (.int .u8 0) 1 1 Try.underlying23 hi5 hz0 hz1 hz2 rfl (by decide) v1 _ _ rfl r1 ⟨gm, 0, none⟩ 8 cm (encs (Value.int .u8) mk) rfl hn2 hcm1 ho2 hm2a hm2b hs1 ?_
              intro v2 w2 r2 g2
              obtain ⟨⟨hcS, hfS⟩, hE⟩ := hend v1 w1 v2 w2 r1 g1 r2 g2
              obtain ⟨g', c', rfl⟩ := own_form r2 (by omega)
              refine hK _ _ ?_
              clear hK K
              refine wpAnyIn_ready (rs := [5]) (by kernel_rfl) (by simp) ?_
              refine AllReadyIn.cons rfl (fun K hK => ?_) AllReadyIn.nil
              · go_simp
                refine hK _ _ ?_
                clear hK K
                refine wpAnyIn_done (by kernel_rfl) ?_ _
                exact hE
    · go_simp
      refine hK _ _ ?_
      clear hK K
      refine wpAnyIn_ready (rs := [0, 1]) (by kernel_rfl) (by simp) ?_
      refine AllReadyIn.cons rfl (fun K hK => ?_) (AllReadyIn.cons rfl (fun K hK => ?_) AllReadyIn.nil)
      · go_simp
        refine hK _ _ ?_
        clear hK K
        refine wpAnyIn_ready (rs := [1]) (by kernel_rfl) (by simp) ?_
        refine AllReadyIn.cons rfl (fun K hK => ?_) AllReadyIn.nil
        · go_simp
          refine hK _ _ ?_
          clear hK K
          refine wpAnyIn_ready (rs := [2]) (by kernel_rfl) (by simp) ?_
          refine AllReadyIn.cons rfl (fun K hK => ?_) AllReadyIn.nil
          · refine append_stepIn W.drew rfl (.tmp 59) (.tmp 60) 23 rfl (BO + 3) 5 i5 (.int .u8 0) 1 1 Try.underlying23 hi5 hz0 hz1 hz2 rfl (by decide) v _ _ rfl hrow ⟨gd, 24 * x.1, none⟩ 24 24 (encs (Value.int .u8) ((full.drop (24 * x.1)).take 24)) rfl hn1 hc1 ho1 hm1a hm1b hs3 ?_
            intro v1 w1 r1 g1
            replace g1 := undrew g1
            obtain ⟨hs1, hc81, hcm1⟩ := hmid v1 w1 g1
            refine hK _ _ ?_
            clear hK K
            refine wpAnyIn_ready (rs := [4]) (by kernel_rfl) (by simp) ?_
            refine AllReadyIn.cons rfl (fun K hK => ?_) AllReadyIn.nil
            · refine append_stepIn w1 rfl (.tmp 61) (.tmp 62) 23 rfl (BO + 3) 5 i5 (.int .u8 0) 1 1 Try.underlying23 hi5 hz0 hz1 hz2 rfl (by decide) v1 _ _ rfl r1 ⟨gm, 0, none⟩ 8 cm (encs (Value.int .u8) mk) rfl hn2 hcm1 ho2 hm2a hm2b hs1 ?_
              intro v2 w2 r2 g2
              obtain ⟨⟨hcS, hfS⟩, hE⟩ := hend v1 w1 v2 w2 r1 g1 r2 g2
              obtain ⟨g', c', rfl⟩ := own_form r2 (by omega)
              refine hK _ _ ?_
              clear hK K
              refine wpAnyIn_ready (rs := [5]) (by kernel_rfl) (by simp) ?_
              refine AllReadyIn.cons rfl (fun K hK => ?_) AllReadyIn.nil
              · go_simp
                refine hK _ _ ?_
                clear hK K
                refine wpAnyIn_done (by kernel_rfl) ?_ _
                exact hE
      · go_simp
        refine hK _ _ ?_
        clear hK K
        refine wpAnyIn_ready (rs := [0]) (by kernel_rfl) (by simp) ?_
        refine AllReadyIn.cons rfl (fun K hK => ?_) AllReadyIn.nil
        · go_simp
          refine hK _ _ ?_
          clear hK K
          refine wpAnyIn_ready (rs := [2]) (by kernel_rfl) (by simp) ?_
          refine AllReadyIn.cons rfl (fun K hK => ?_) AllReadyIn.nil
          · refine append_stepIn W.drew rfl (.tmp 59) (.tmp 60) 23 rfl (BO + 3) 5 i5 (.int .u8 0) 1 1 Try.underlying23 hi5 hz0 hz1 hz2 rfl (by decide) v _ _ rfl hrow ⟨gd, 24 * x.1, none⟩ 24 24 (encs (Value.int .u8) ((full.drop (24 * x.1)).take 24)) rfl hn1 hc1 ho1 hm1a hm1b hs3 ?_
            intro v1 w1 r1 g1
            replace g1 := undrew g1
            obtain ⟨hs1, hc81, hcm1⟩ := hmid v1 w1 g1
            refine hK _ _ ?_
            clear hK K
            refine wpAnyIn_ready (rs := [4]) (by kernel_rfl) (by simp) ?_
            refine AllReadyIn.cons rfl (fun K hK => ?_) AllReadyIn.nil
            · refine append_stepIn w1 rfl (.tmp 61) (.tmp 62) 23 rfl (BO + 3) 5 i5 (.int .u8 0) 1 1 Try.underlying23 hi5 hz0 hz1 hz2 rfl (by decide) v1 _ _ rfl r1 ⟨gm, 0, none⟩ 8 cm (encs (Value.int .u8) mk) rfl hn2 hcm1 ho2 hm2a hm2b hs1 ?_
              intro v2 w2 r2 g2
              obtain ⟨⟨hcS, hfS⟩, hE⟩ := hend v1 w1 v2 w2 r1 g1 r2 g2
              obtain ⟨g', c', rfl⟩ := own_form r2 (by omega)
              refine hK _ _ ?_
              clear hK K
              refine wpAnyIn_ready (rs := [5]) (by kernel_rfl) (by simp) ?_
              refine AllReadyIn.cons rfl (fun K hK => ?_) AllReadyIn.nil
              · go_simp
                refine hK _ _ ?_
                clear hK K
                refine wpAnyIn_done (by kernel_rfl) ?_ _
                exact hE
set_option maxHeartbeats 1000000 in
theorem pack_bad (a0 : Int) (a1 : Int) (A2 : Option Addr) (c2 : Nat) (l2 : List Int) (w : World) (hm : l2.length ≤ 9223372036854775807) (ha : ¬ (0 ≤ a0 ∧ a0 < 4294967296 ∧ 0 ≤ a1 ∧ a1 < 4294967296)) :
    Calls Try.prog 34 #[.int .i64 a0, .int .i64 a1, .slice A2 l2.length c2] w fun e w' => e = .returned (.tuple #[.slice none 0 0, .int .i64 1]) ∧ Below w.heap.size w w' := by
  by_cases h0 : min a0 a1 < 0
  · go_enter Try.func34, Try.ntmps34
    go_wp2
    refine bodyPost_ret (results_tmp2 rfl _ _ _) rfl ?_
    exact ⟨rfl, Below.refl _ _⟩
  · have h1 : 4294967295 < max a0 a1 := by omega
    go_enter Try.func34, Try.ntmps34
    go_wp2
    refine bodyPost_ret (results_tmp2 rfl _ _ _) rfl ?_
    exact ⟨rfl, Below.refl _ _⟩
set_option maxHeartbeats 1000000 in
theorem pack_long (a0 : Int) (a1 : Int) (A2 : Option Addr) (c2 : Nat) (l2 : List Int) (w : World) (hm : l2.length ≤ 9223372036854775807) (ha : 0 ≤ a0 ∧ a0 < 4294967296 ∧ 0 ≤ a1 ∧ a1 < 4294967296) (hl : 65535 < l2.length) :
    Calls Try.prog 34 #[.int .i64 a0, .int .i64 a1, .slice A2 l2.length c2] w fun e w' => e = .returned (.tuple #[.slice none 0 0, .int .i64 2]) ∧ Below w.heap.size w w' := by
  have h0 : ¬ min a0 a1 < 0 := by omega
  have h1 : ¬ 4294967295 < max a0 a1 := by omega
  have h2 : 65535 < ((l2.length : Nat) : Int) := by omega
  go_enter Try.func34, Try.ntmps34
  go_wp2
  refine bodyPost_ret (results_tmp2 rfl _ _ _) rfl ?_
  exact ⟨rfl, Below.refl _ _⟩
theorem frame_Pack.calls (a0 : Int) (a1 : Int) (A2 : Option Addr) (c2 : Nat) (l2 : List Int) (r1 : List Int) (r2 : Int) (w : World) (hr2 : Kd.C (Kd.int .u8) w A2 l2.length l2) (hc2 : l2.length ≤ c2) (h : XChunk.frame_Pack.f a0 a1 l2 = some (r1, r2)) :
    Calls Try.prog 34 #[.int .i64 a0, .int .i64 a1, .slice A2 l2.length c2] w fun e w' => ∃ v0_ : Value, e = .returned (.tuple #[v0_, .int .i64 r2]) ∧ Kd.V (Kd.int .u8) 5 w' w.heap.size (fun k_ => (w.heap.size ≤ k_)) v0_ r1 ∧ Below w.heap.size w w' := by
  rcases Pack_some h with ⟨ha, rfl, rfl⟩ | ⟨ha, hl, rfl, rfl⟩ | ⟨ha, hl, hb, rfl, rfl⟩
  · refine (pack_bad a0 a1 A2 c2 l2 w hr2.2.1 ha).mono ?_
    rintro e w' ⟨rfl, hB⟩
    exact ⟨_, rfl, Kd.V_nil _ _ _ _ _, hB⟩
  · refine (pack_long a0 a1 A2 c2 l2 w hr2.2.1 ha hl).mono ?_
    rintro e w' ⟨rfl, hB⟩
    exact ⟨_, rfl, Kd.V_nil _ _ _ _ _, hB⟩
  · refine (pack_walk a0 a1 A2 c2 l2 w hr2 hc2 ha hl hb).mono ?_
    rintro e w' ⟨v, rfl, hV, hB⟩
    exact ⟨_, rfl, Kd.V_mono hV (fun k hk => hk.1), hB⟩
end Go.Proofs.Ytglpelhbncdkmaa.XPack
