/-
 slices.IndexFunc over structs: the first element that a function value takes, whatever it is.
-/
import Derived.Laws.CopyOwn
import Derived.ArgAppend
import Derived.Below
import Derived.BigQuiet
import Derived.Deep.AppendLies
import Derived.Deep.CutBlock
import Derived.Deep.DeepCutAuto
import Derived.Deep.Draws
import Derived.Deep.LoopGhost
import Derived.Deep.OwnRows
import Derived.Deep.QuietTactic
import Derived.Deep.RegionHeld3
import Derived.Deep.WholeRow
import Derived.KernelRfl
import Derived.Laws.BitsLemmas
import Derived.Laws.BytesArg
import Derived.Laws.IdiomCopy
import Derived.Laws.MakeOwn
import Derived.Laws.OwnMore
import Derived.Laws.Rows
import Derived.Laws.Slices
import Derived.Lib.AppendStr
import Derived.Lib.ConvBytes
import Derived.Lib.Hide
import Derived.Maps.AppendAt
import Derived.OrdersHeld
import Derived.Outline
import Derived.OwnWalk
import Derived.RowKit
import Derived.RowKit3
import Derived.Tactics
import Derived.WalkKit
import Derived.WideLaws
import Derived.Test.YtijeigiilgapdaaProg
import Derived.Test.YtijeigiilgapdaaWAll

import Derived.Test.YtijeigiilgapdaaXBase
namespace Go.Proofs.Ytijeigiilgapdaa.XIdx
open Go.RowKit Go.Proofs.YtijeigiilgapdaaW.PrintWords Go.Proofs.YtijeigiilgapdaaW.PrintLast Go.Proofs.YtijeigiilgapdaaW.PrintMore XBase
set_option linter.unusedVariables false
set_option linter.unusedSimpArgs false
/-- The first place that p takes, or -1. -/
def idxF {α : Type} (p : α → Bool) : List α → Nat → Int
 | [], _ => -1
 | x :: xs, k => if p x then (k : Int) else idxF p xs (k + 1)
theorem idxF_step {α : Type} (p : α → Bool) (xs : List α) (k : Nat) (h : k < xs.length) : idxF p (xs.drop k) k = if p xs[k] then (k : Int) else idxF p (xs.drop (k + 1)) (k + 1) := by
 rw [List.drop_eq_getElem_cons h]; rfl
theorem idxF_end {α : Type} (p : α → Bool) (xs : List α) : idxF p (xs.drop xs.length) xs.length = -1 := by rw [List.drop_length]; rfl
attribute [local irreducible] idxF
theorem sizeTreeGood1 : (Try.prog.info? 34).map (·.size) = some 3 := by kernel_rfl
set_option maxHeartbeats 1000000 in
theorem idxTreeGood1_walk {α : Type} (d : Kd α) (hd : d.sz = 3) (p : α → Bool)  (Bi : Nat) (A : Option Addr) (c : Nat) (xs : List α) (w : World) (h : d.C w A xs.length xs)
  (H : ∀ w' x cs, Below w.heap.size w w' → x ∈ xs → d.K w' x cs → Calls Try.prog 53 #[.agg cs.toArray, .pointer (some ⟨Bi, 0, none⟩)] w' fun e w'' => e = .returned (.bool (p x)) ∧ Below w'.heap.size w' w'') :
  Calls Try.prog 67 #[.slice A xs.length c, .func (.func 53) #[] #[.pointer (some ⟨Bi, 0, none⟩)]] w fun e w' => e = .returned (.int .i64 (idxF p xs 0)) ∧ Below w.heap.size w w' := by
 obtain ⟨r, hr⟩ : ∃ r, idxF p xs 0 = r := ⟨_, rfl⟩
 rw [hr]
 have HR := Aside0.mk (show idxF p (xs.drop 0) 0 = r by rw [List.drop_zero]; exact hr)
 have HH := Aside0.mk H
 have HC := Aside0.mk h
 have hl := h.2.1
 clear hr h H
 go_enter Try.func67, Try.ntmps67
 go_wp2
 go_loopw [5, 8] (fun v5 v8 wr => ∃ k : Nat, k ≤ xs.length ∧ v8 = .int .i64 k ∧ Aside0 (idxF p (xs.drop k) k = r) ∧ Below w.heap.size w wr) (fun _ v8 _ => xs.length - (intOf v8).toNat)
 case atStart => exact ⟨0, Nat.zero_le _, rfl, HR, Below.refl _ _⟩
 case round =>
  clear HR
  obtain ⟨k, hk, rfl, HR, hB⟩ := hrel
  by_cases hlk : k < xs.length
  ·obtain ⟨ad, cs, rfl, hcl, hK, hce⟩ := Kd.C_get (Kd.C_below HC.out hB) xs[k] (k : Int) (by omega) (by omega)
   rw [Int.toNat_natCast, List.getD_eq_getElem?_getD, List.getElem?_eq_getElem hlk] at hK
   rw [Int.toNat_natCast, hd] at hce
   rw [hd] at hcl
   have hK : d.K wr xs[k] cs := hK
   have hst := idxF_step p xs k hlk
   rw [HR.out] at hst
   have CL := Aside0.mk (fun wq (hq : Below wr.heap.size wr wq) => HH.out wq xs[k] cs (hB.trans (hq.mono hB.size)) (List.getElem_mem _) (d.K_below hq hK))
   have hsz : (Try.prog.info? 34).map (·.size) = some cs.length := by rw [hcl]; exact sizeTreeGood1
   have HCE := Aside0.mk (fun j v hj => (show wr.cell? ((ad.add (k * 3)).add j) = some v by rw [add_add]; exact hce j v hj))
   have HST := Aside0.mk hst
   have HB := Aside0.mk hB
   clear hst hce hK hB HR
   obtain ⟨b, hb⟩ : ∃ b, p xs[k] = b := ⟨_, rfl⟩
   rw [hb] at HST CL
   clear hb
   go_wp2_with (with_reducible refine wpList_load_seg rfl 34 _ rfl (ad.add (k * 3)) rfl cs _ Try.underlying34 rfl hsz HCE.out ?_)
   refine (CL.out _ (Below.refl _ _)).mono ?_
   rintro e w1 ⟨rfl, hB1⟩
   have hB2 := Aside0.mk (below_step HB.out hB1)
   clear hB1 CL HCE
   cases b with
   | true =>
    have hr := HST.out
    rw [if_pos rfl] at hr
    subst hr
    go_wp2
    go_ret
    exact ⟨rfl, hB2.out⟩
   | false =>
    have hr := HST.out
    rw [if_neg (by decide)] at hr
    have HR2 := Aside0.mk hr.symm
    clear hr
    go_wp2
    go_roundw
    case rel => exact ⟨k + 1, hlk, by go_num, HR2, hB2.out⟩
    case measure => simp [intOf]; omega
  ·obtain rfl : k = xs.length := by omega
   have hr := HR.out
   rw [idxF_end] at hr
   subst hr
   go_wp2
   go_ret
   exact ⟨rfl, hB⟩
theorem sizeFind1 : (Try.prog.info? 50).map (·.size) = some 12 := by kernel_rfl
set_option maxHeartbeats 1000000 in
theorem idxFind1_walk {α : Type} (d : Kd α) (hd : d.sz = 12) (p : α → Bool)  (Bi : Nat) (A : Option Addr) (c : Nat) (xs : List α) (w : World) (h : d.C w A xs.length xs)
  (H : ∀ w' x cs, Below w.heap.size w w' → x ∈ xs → d.K w' x cs → Calls Try.prog 58 #[.agg cs.toArray, .pointer (some ⟨Bi, 0, none⟩)] w' fun e w'' => e = .returned (.bool (p x)) ∧ Below w'.heap.size w' w'') :
  Calls Try.prog 57 #[.slice A xs.length c, .func (.func 58) #[] #[.pointer (some ⟨Bi, 0, none⟩)]] w fun e w' => e = .returned (.int .i64 (idxF p xs 0)) ∧ Below w.heap.size w w' := by
 obtain ⟨r, hr⟩ : ∃ r, idxF p xs 0 = r := ⟨_, rfl⟩
 rw [hr]
 have HR := Aside0.mk (show idxF p (xs.drop 0) 0 = r by rw [List.drop_zero]; exact hr)
 have HH := Aside0.mk H
 have HC := Aside0.mk h
 have hl := h.2.1
 clear hr h H
 go_enter Try.func57, Try.ntmps57
 go_wp2
 go_loopw [5, 8] (fun v5 v8 wr => ∃ k : Nat, k ≤ xs.length ∧ v8 = .int .i64 k ∧ Aside0 (idxF p (xs.drop k) k = r) ∧ Below w.heap.size w wr) (fun _ v8 _ => xs.length - (intOf v8).toNat)
 case atStart => exact ⟨0, Nat.zero_le _, rfl, HR, Below.refl _ _⟩
 case round =>
  clear HR
  obtain ⟨k, hk, rfl, HR, hB⟩ := hrel
  by_cases hlk : k < xs.length
  ·obtain ⟨ad, cs, rfl, hcl, hK, hce⟩ := Kd.C_get (Kd.C_below HC.out hB) xs[k] (k : Int) (by omega) (by omega)
   rw [Int.toNat_natCast, List.getD_eq_getElem?_getD, List.getElem?_eq_getElem hlk] at hK
   rw [Int.toNat_natCast, hd] at hce
   rw [hd] at hcl
   have hK : d.K wr xs[k] cs := hK
   have hst := idxF_step p xs k hlk
   rw [HR.out] at hst
   have CL := Aside0.mk (fun wq (hq : Below wr.heap.size wr wq) => HH.out wq xs[k] cs (hB.trans (hq.mono hB.size)) (List.getElem_mem _) (d.K_below hq hK))
   have hsz : (Try.prog.info? 50).map (·.size) = some cs.length := by rw [hcl]; exact sizeFind1
   have HCE := Aside0.mk (fun j v hj => (show wr.cell? ((ad.add (k * 12)).add j) = some v by rw [add_add]; exact hce j v hj))
   have HST := Aside0.mk hst
   have HB := Aside0.mk hB
   clear hst hce hK hB HR
   obtain ⟨b, hb⟩ : ∃ b, p xs[k] = b := ⟨_, rfl⟩
   rw [hb] at HST CL
   clear hb
   go_wp2_with (with_reducible refine wpList_load_seg rfl 50 _ rfl (ad.add (k * 12)) rfl cs _ Try.underlying50 rfl hsz HCE.out ?_)
   refine (CL.out _ (Below.refl _ _)).mono ?_
   rintro e w1 ⟨rfl, hB1⟩
   have hB2 := Aside0.mk (below_step HB.out hB1)
   clear hB1 CL HCE
   cases b with
   | true =>
    have hr := HST.out
    rw [if_pos rfl] at hr
    subst hr
    go_wp2
    go_ret
    exact ⟨rfl, hB2.out⟩
   | false =>
    have hr := HST.out
    rw [if_neg (by decide)] at hr
    have HR2 := Aside0.mk hr.symm
    clear hr
    go_wp2
    go_roundw
    case rel => exact ⟨k + 1, hlk, by go_num, HR2, hB2.out⟩
    case measure => simp [intOf]; omega
  ·obtain rfl : k = xs.length := by omega
   have hr := HR.out
   rw [idxF_end] at hr
   subst hr
   go_wp2
   go_ret
   exact ⟨rfl, hB⟩
end Go.Proofs.Ytijeigiilgapdaa.XIdx
