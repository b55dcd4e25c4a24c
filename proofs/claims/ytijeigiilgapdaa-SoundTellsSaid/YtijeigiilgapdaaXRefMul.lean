/-
 The reference's product (prebendref01.Mul) by its walk.
-/
import Derived.Laws.CopyOwn
import Derived.ArgAppend
import Derived.Below
import Derived.BigQuiet
import Derived.Deep.AppendLies
import Derived.Deep.CutBlock
import Derived.Deep.DeepCutAuto
import Derived.Deep.Draws
import Derived.Deep.LoopGhost
import Derived.Deep.OwnRows
import Derived.Deep.QuietTactic
import Derived.Deep.RegionHeld3
import Derived.Deep.WholeRow
import Derived.KernelRfl
import Derived.Laws.BitsLemmas
import Derived.Laws.BytesArg
import Derived.Laws.IdiomCopy
import Derived.Laws.MakeOwn
import Derived.Laws.OwnMore
import Derived.Laws.Rows
import Derived.Laws.Slices
import Derived.Lib.AppendStr
import Derived.Lib.ConvBytes
import Derived.Lib.Hide
import Derived.Maps.AppendAt
import Derived.OrdersHeld
import Derived.Outline
import Derived.OwnWalk
import Derived.RowKit
import Derived.RowKit3
import Derived.Tactics
import Derived.WalkKit
import Derived.WideLaws
import Derived.Test.YtijeigiilgapdaaProg
import Derived.Test.YtijeigiilgapdaaWAll

import Derived.Test.YtijeigiilgapdaaXBase
namespace Go.Proofs.Ytijeigiilgapdaa.XRefMul
open Go.RowKit Go.Proofs.YtijeigiilgapdaaW.PrintWords Go.Proofs.YtijeigiilgapdaaW.PrintLast Go.Proofs.YtijeigiilgapdaaW.PrintMore XBase
set_option linter.unusedVariables false
set_option linter.unusedSimpArgs false
def fitsB (n : Int) : Bool := decide (-1152921504606846976 ≤ n) && decide (n ≤ 1152921504606846976)
theorem fits_walk (n : Int) (w : World) : Calls Try.prog 47 #[.int .i64 n] w fun e w' => e = .returned (.bool (fitsB n)) ∧ w' = w := by
 unfold fitsB
 by_cases h : -1152921504606846976 ≤ n
 ·have h1 : decide (-1152921504606846976 ≤ n) = true := decide_eq_true h
  rw [h1, Bool.true_and]
  go_enter Try.func47, Try.ntmps47
  go_wp2
  go_ret
  exact ⟨rfl, rfl⟩
 ·have h1 : decide (-1152921504606846976 ≤ n) = false := decide_eq_false h
  rw [h1, Bool.false_and]
  go_enter Try.func47, Try.ntmps47
  go_wp2
  go_ret
  exact ⟨rfl, rfl⟩
theorem abs_walk (n : Int) (w : World) (h0 : -1152921504606846976 ≤ n) (h1 : n ≤ 1152921504606846976) : Calls Try.prog 64 #[.int .i64 n] w fun e w' => e = .returned (.int .i64 ((n.natAbs : Nat) : Int)) ∧ w' = w := by
 by_cases h : n < 0
 ·have e : ((n.natAbs : Nat) : Int) = -n := by omega
  have b1 : decide (n < 0) = true := decide_eq_true h
  rw [e]
  go_enter Try.func64, Try.ntmps64
  go_wp2
  go_ret
  exact ⟨rfl, rfl⟩
 ·have e : ((n.natAbs : Nat) : Int) = n := by omega
  have b1 : decide (n < 0) = false := decide_eq_false h
  rw [e]
  go_enter Try.func64, Try.ntmps64
  go_wp2
  go_ret
  exact ⟨rfl, rfl⟩
/-- One by one; held against a quotient. -/
def mulR : Int → List Int → Int × Int
 | out, [] => (out, 0)
 | out, n :: ns => if fitsB n = true ∧ ¬ (n ≠ 0 ∧ 1152921504606846976 / n.natAbs < out.natAbs) then mulR (out * n) ns else (0, 2)
theorem mulR_step (out : Int) (xs : List Int) (k : Nat) (h : k < xs.length) : mulR out (xs.drop k) = if fitsB xs[k] = true ∧ ¬ (xs[k] ≠ 0 ∧ 1152921504606846976 / xs[k].natAbs < out.natAbs) then mulR (out * xs[k]) (xs.drop (k + 1)) else (0, 2) := by
 rw [List.drop_eq_getElem_cons h]; rfl
theorem mulR_end (out : Int) (xs : List Int) : mulR out (xs.drop xs.length) = (out, 0) := by rw [List.drop_length]; rfl
theorem abs_mul {a b : Nat} (hb : 0 < b) (h : ¬ 1152921504606846976 / b < a) : a * b ≤ 1152921504606846976 := by
 have h1 : a ≤ 1152921504606846976 / b := by omega
 exact Nat.le_trans (Nat.mul_le_mul_right b h1) (Nat.div_mul_le_self _ _)
attribute [local irreducible] mulR
set_option maxHeartbeats 2000000 in
theorem mul_walk (A : Option Addr) (c : Nat) (xs : List Int) (w : World) (h : (Kd.int .i64).C w A xs.length xs) (hc : xs.length ≤ c) :
  Calls Try.prog 49 #[.slice A xs.length c] w fun e w' => e = .returned (.tuple #[.int .i64 (mulR 1 xs).1, .int .i64 (mulR 1 xs).2]) ∧ Drawn0 w w' := by
 have HC := Aside0.mk h
 have hl := h.2.1
 clear h
 obtain ⟨r, hr⟩ : ∃ r, mulR 1 xs = r := ⟨_, rfl⟩
 have HR := Aside0.mk (show mulR 1 (xs.drop 0) = r by rw [List.drop_zero]; exact hr)
 rw [hr]
 clear hr
 go_enter Try.func49, Try.ntmps49
 go_wp2
 go_loopw [4, 5] (fun v4 v5 wr => ∃ (k : Nat) (out : Int), k ≤ xs.length ∧ v5 = .int .i64 k ∧ v4 = .int .i64 out ∧ out.natAbs ≤ 1152921504606846976 ∧ Aside0 (mulR out (xs.drop k) = r) ∧ wr = w) (fun _ v5 _ => xs.length - (intOf v5).toNat)
 case atStart => exact ⟨0, 1, Nat.zero_le _, rfl, rfl, by decide, HR, rfl⟩
 case round =>
  clear HR
  obtain ⟨k, out, hk, rfl, rfl, ho, HR, rfl⟩ := hrel
  by_cases hlk : k < xs.length
  ·have g0 : (0 : Int) ≤ (k : Int) := by omega
   obtain ⟨ad, rfl, hcell⟩ := Kd.at_int HC.out (k : Int) g0 (by omega)
   rw [Int.toNat_natCast] at hcell
   have erd : rd xs (k : Int) = xs[k] := by unfold rd; rw [Int.toNat_natCast, List.getD_eq_getElem?_getD, List.getElem?_eq_getElem hlk]; rfl
   rw [erd] at hcell
   have hst := mulR_step out xs k hlk
   rw [HR.out] at hst
   clear erd HR
   obtain ⟨n, hn⟩ : ∃ n, xs[k] = n := ⟨_, rfl⟩
   rw [hn] at hst hcell
   clear hn
   have FW := Aside0.mk (fits_walk n wr)
   by_cases hf : fitsB n = true
   rotate_left
   ·rw [if_neg (fun h => hf h.1)] at hst
    subst hst
    have hf : fitsB n = false := by simpa using hf
    rw [hf] at FW
    go_wp2_with (go_at_call 47; refine FW.out.mono ?_; rintro e w1 ⟨rfl, rfl⟩)
    refine bodyPost_ret (results_list (rs := [.tmp 2, .tmp 3]) rfl (by simp) (.tmp (.tmp .nil))) rfl ?_
    exact ⟨rfl, Drawn0.refl _⟩
   rw [hf] at FW
   have hfb := hf
   unfold fitsB at hfb
   rw [Bool.and_eq_true] at hfb
   have hn0 := of_decide_eq_true hfb.1
   have hn1 := of_decide_eq_true hfb.2
   by_cases hz : n = 0
   ·subst hz
    rw [if_pos ⟨hf, fun h => h.1 rfl⟩, Int.mul_zero] at hst
    have HS := Aside0.mk hst.symm
    have HO : out * 0 = 0 := Int.mul_zero _
    clear hst hf hfb
    go_wp2_with (go_at_call 47; refine FW.out.mono ?_; rintro e w1 ⟨rfl, rfl⟩)
    go_roundw
    case rel => exact ⟨k + 1, 0, hlk, by go_num, by go_num, by decide, HS, trivial⟩
    case measure => simp [intOf]; omega
   have AO := Aside0.mk (abs_walk out wr (by omega) (by omega))
   have AN := Aside0.mk (abs_walk n wr hn0 hn1)
   obtain ⟨a, ha⟩ : ∃ a, n.natAbs = a := ⟨_, rfl⟩
   obtain ⟨o, hoo⟩ : ∃ o, out.natAbs = o := ⟨_, rfl⟩
   obtain ⟨q, hq⟩ : ∃ q, 1152921504606846976 / a = q := ⟨_, rfl⟩
   have ha0 : 0 < a := by omega
   have htd : Int.tdiv 1152921504606846976 ((a : Nat) : Int) = ((q : Nat) : Int) := by rw [← hq]; rfl
   have hqr : q ≤ 1152921504606846976 := by rw [← hq]; exact Nat.div_le_self _ _
   have hne : ((a : Nat) : Int) ≠ 0 := by omega
   rw [ha, hoo, hq] at hst
   rw [ha] at AN
   rw [hoo] at AO
   by_cases hlt : q < o
   ·have b1 : decide (((q : Nat) : Int) < ((o : Nat) : Int)) = true := decide_eq_true (by omega)
    rw [if_neg (fun h => h.2 ⟨hz, hlt⟩)] at hst
    subst hst
    clear hf hfb hq ha hoo ho
    go_wp2_with (first | (go_at_call 47; refine FW.out.mono ?_; rintro e w1 ⟨rfl, rfl⟩) | (go_at_call 64; (with_reducible refine AO.out.mono ?_); rintro e w1 ⟨rfl, rfl⟩) | (go_at_call 64; (with_reducible refine AN.out.mono ?_); rintro e w1 ⟨rfl, rfl⟩))
    refine bodyPost_ret (results_list (rs := [.tmp 2, .tmp 3]) rfl (by simp) (.tmp (.tmp .nil))) rfl ?_
    exact ⟨rfl, Drawn0.refl _⟩
   ·have b1 : decide (((q : Nat) : Int) < ((o : Nat) : Int)) = false := decide_eq_false (by omega)
    rw [if_pos ⟨hf, fun h => hlt h.2⟩] at hst
    have hab : (out * n).natAbs ≤ 1152921504606846976 := by rw [Int.natAbs_mul, ha, hoo]; rw [← hq] at hlt; exact abs_mul ha0 hlt
    obtain ⟨p, hp⟩ : ∃ p, out * n = p := ⟨_, rfl⟩
    have hw : IntKind.i64.wrap (out * n) = p := by rw [hp]; exact wr64 p (by omega) (by omega)
    rw [hp] at hst hab
    have HS := Aside0.mk hst.symm
    clear hst hf hfb hq ha hoo
    go_wp2_with (first | (go_at_call 47; refine FW.out.mono ?_; rintro e w1 ⟨rfl, rfl⟩) | (go_at_call 64; (with_reducible refine AO.out.mono ?_); rintro e w1 ⟨rfl, rfl⟩) | (go_at_call 64; (with_reducible refine AN.out.mono ?_); rintro e w1 ⟨rfl, rfl⟩))
    go_roundw
    case rel => exact ⟨k + 1, p, hlk, by go_num, by go_num, hab, HS, trivial⟩
    case measure => simp [intOf]; omega
  ·obtain rfl : k = xs.length := by omega
   have hr := HR.out
   rw [mulR_end] at hr
   subst hr
   go_wp2
   refine bodyPost_ret (results_list (rs := [.tmp 2, .tmp 3]) rfl (by simp) (.tmp (.tmp .nil))) rfl ?_
   exact ⟨rfl, Drawn0.refl _⟩
end Go.Proofs.Ytijeigiilgapdaa.XRefMul
