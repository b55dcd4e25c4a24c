/-
 tree.Good by its walk.
-/
import Derived.Laws.CopyOwn
import Derived.ArgAppend
import Derived.Below
import Derived.BigQuiet
import Derived.Deep.AppendLies
import Derived.Deep.CutBlock
import Derived.Deep.DeepCutAuto
import Derived.Deep.Draws
import Derived.Deep.LoopGhost
import Derived.Deep.OwnRows
import Derived.Deep.QuietTactic
import Derived.Deep.RegionHeld3
import Derived.Deep.WholeRow
import Derived.KernelRfl
import Derived.Laws.BitsLemmas
import Derived.Laws.BytesArg
import Derived.Laws.IdiomCopy
import Derived.Laws.MakeOwn
import Derived.Laws.OwnMore
import Derived.Laws.Rows
import Derived.Laws.Slices
import Derived.Lib.AppendStr
import Derived.Lib.ConvBytes
import Derived.Lib.Hide
import Derived.Maps.AppendAt
import Derived.OrdersHeld
import Derived.Outline
import Derived.OwnWalk
import Derived.RowKit
import Derived.RowKit3
import Derived.Tactics
import Derived.WalkKit
import Derived.WideLaws
import Derived.Test.YtijeigiilgapdaaProg
import Derived.Test.YtijeigiilgapdaaWAll

import Derived.Test.YtijeigiilgapdaaXIdx
namespace Go.Proofs.Ytijeigiilgapdaa.XGood
open Go.RowKit Go.Proofs.YtijeigiilgapdaaW.PrintWords Go.Proofs.YtijeigiilgapdaaW.PrintLast Go.Proofs.YtijeigiilgapdaaW.PrintMore XBase XIdx
set_option linter.unusedVariables false
set_option linter.unusedSimpArgs false
def FundIs {α : Type} (d : Kd α) (nm : α → ByteArray) (par lim : α → Int) : Prop := d.sz = 3 ∧ ∀ w x cs, d.K w x cs → cs = [.string (nm x), .int .i64 (par x), .int .i64 (lim x)]
theorem good1_walk (x g : ByteArray) (b c : Int) (Bi : Nat) (w : World) (hb : w.cell? ⟨Bi, 0, none⟩ = some (.string g)) (hlt : Bi < w.heap.size) :
  Calls Try.prog 53 #[.agg #[.string x, .int .i64 b, .int .i64 c], .pointer (some ⟨Bi, 0, none⟩)] w fun e w' => e = .returned (.bool (x.toList == g.toList)) ∧ Below w.heap.size w w' := by
 go_enter Try.func53, Try.ntmps53
 go_wp2
 go_ret
 exact ⟨rfl, (Below.refl _ _).alloc (Nat.le_refl _) _⟩
attribute [local irreducible] idxF
theorem cont_walk {α : Type} (d : Kd α) (nm : α → ByteArray) (par lim : α → Int) (hd : FundIs d nm par lim) (g : ByteArray) (Bi : Nat) (A : Option Addr) (c : Nat) (xs : List α) (w : World) (h : d.C w A xs.length xs) (hb : w.cell? ⟨Bi, 0, none⟩ = some (.string g)) (hlt : Bi < w.heap.size) :
  Calls Try.prog 52 #[.slice A xs.length c, .func (.func 53) #[] #[.pointer (some ⟨Bi, 0, none⟩)]] w fun e w' => e = .returned (.bool (decide (0 ≤ idxF (fun x => (nm x).toList == g.toList) xs 0))) ∧ Below w.heap.size w w' := by
 have IW := Aside0.mk (idxTreeGood1_walk d hd.1 (fun x => (nm x).toList == g.toList) Bi A c xs w h (fun w' x cs hB hx hK => by
  have := hd.2 w' x cs hK
  subst this
  exact good1_walk (nm x) g (par x) (lim x) Bi w' ((hB.cell (p := ⟨Bi, 0, none⟩) hlt).trans hb) (Nat.lt_of_lt_of_le hlt hB.size)))
 obtain ⟨r, hr⟩ : ∃ r, idxF (fun x => (nm x).toList == g.toList) xs 0 = r := ⟨_, rfl⟩
 rw [hr] at IW ⊢
 clear h hr
 go_enter Try.func52, Try.ntmps52
 go_wp2_with (go_at_call 67; refine IW.out.mono ?_; rintro e w1 ⟨rfl, hB1⟩; have HB1 := Aside0.mk hB1; clear hB1)
 go_ret
 exact ⟨rfl, HB1.out⟩
/-- What a fund at a place must be. -/
def goodAt {α : Type} (nm : α → ByteArray) (par lim : α → Int) (xs : List α) (n : Nat) (x : α) : Bool :=
 !(decide (0 ≤ idxF (fun y => (nm y).toList == (nm x).toList) (xs.take n) 0)) && !((nm x).toList.isEmpty) && !(decide (16 < ((nm x).size : Int))) && !(decide (par x < -1)) && !(decide ((n : Int) ≤ par x)) && !(decide (lim x < 0)) && !(decide (1152921504606846976 < lim x))
def goodFrom {α : Type} (nm : α → ByteArray) (par lim : α → Int) (xs : List α) : Nat → List α → Bool
 | _, [] => true
 | n, x :: ys => goodAt nm par lim xs n x && goodFrom nm par lim xs (n + 1) ys
theorem goodFrom_step {α : Type} (nm : α → ByteArray) (par lim : α → Int) (xs : List α) (k : Nat) (h : k < xs.length) : goodFrom nm par lim xs k (xs.drop k) = (goodAt nm par lim xs k xs[k] && goodFrom nm par lim xs (k + 1) (xs.drop (k + 1))) := by
 rw [List.drop_eq_getElem_cons h]; rfl
theorem goodFrom_end {α : Type} (nm : α → ByteArray) (par lim : α → Int) (xs : List α) : goodFrom nm par lim xs xs.length (xs.drop xs.length) = true := by rw [List.drop_length]; rfl
def goodF {α : Type} (nm : α → ByteArray) (par lim : α → Int) (xs : List α) : Bool := decide (xs.length ≤ 8) && goodFrom nm par lim xs 0 xs
attribute [local irreducible] goodFrom
theorem infoFund : (Try.prog.info? 34).map (fun i => (i.zero, i.size, i.bytes)) = some (some (.agg #[.string ⟨#[]⟩, .int .i64 0, .int .i64 0]), 3, 32) := by kernel_rfl
set_option maxHeartbeats 4000000 in
set_option maxRecDepth 100000 in
theorem good_walk {α : Type} (d : Kd α) (nm : α → ByteArray) (par lim : α → Int) (hd : FundIs d nm par lim) (A : Option Addr) (c : Nat) (xs : List α) (w : World) (h : d.C w A xs.length xs) (hc : xs.length ≤ c) :
  Calls Try.prog 38 #[.slice A xs.length c] w fun e w' => e = .returned (.bool (goodF nm par lim xs)) ∧ Below w.heap.size w w' := by
 have HC := Aside0.mk h
 have hl := h.2.1
 clear h
 by_cases h8 : xs.length ≤ 8
 rotate_left
 ·have b1 : decide ((8 : Int) < (xs.length : Int)) = true := decide_eq_true (by omega)
  have e : goodF nm par lim xs = false := by unfold goodF; rw [decide_eq_false h8]; rfl
  rw [e]
  go_enter Try.func38, Try.ntmps38
  go_wp2
  go_ret
  exact ⟨rfl, Below.refl _ _⟩
 have b1 : decide ((8 : Int) < (xs.length : Int)) = false := decide_eq_false (by omega)
 have e : goodF nm par lim xs = goodFrom nm par lim xs 0 (xs.drop 0) := by unfold goodF; rw [decide_eq_true h8, List.drop_zero]; rfl
 rw [e]
 obtain ⟨r, hr⟩ : ∃ r, goodFrom nm par lim xs 0 (xs.drop 0) = r := ⟨_, rfl⟩
 rw [hr]
 have HR := Aside0.mk hr
 clear hr e
 go_enter Try.func38, Try.ntmps38
 go_wp2
 go_loopw [11] (fun v11 wr => ∃ k : Nat, k ≤ xs.length ∧ v11 = .int .i64 k ∧ Aside0 (goodFrom nm par lim xs k (xs.drop k) = r) ∧ Aside0 (Below w.heap.size w wr)) (fun v11 _ => xs.length - (intOf v11).toNat)
 case atStart => exact ⟨0, Nat.zero_le _, rfl, HR, Aside0.mk (Below.refl _ _)⟩
 case round =>
  clear HR
  obtain ⟨k, hk, rfl, HR, HB⟩ := hrel
  by_cases hlk : k < xs.length
  ·obtain ⟨ad, cs, rfl, hcl, hK, hce⟩ := Kd.C_get (Kd.C_below HC.out HB.out) xs[k] (k : Int) (by omega) (by omega)
   rw [Int.toNat_natCast, List.getD_eq_getElem?_getD, List.getElem?_eq_getElem hlk] at hK
   rw [Int.toNat_natCast, hd.1] at hce
   have hst := goodFrom_step nm par lim xs k hlk
   rw [HR.out] at hst
   obtain ⟨x, hx⟩ : ∃ x, xs[k] = x := ⟨_, rfl⟩
   rw [hx] at hst
   have hK : d.K wr xs[k] cs := hK
   have hcs := hd.2 _ _ _ hK
   subst hcs
   rw [hx] at hce
   have s0 := hce 0 _ rfl
   have s1 := hce 1 _ rfl
   have s2 := hce 2 _ rfl
   rw [Nat.add_zero] at s0
   rw [add_field ad (k * 3) 1 (by decide)] at s1
   rw [add_field ad (k * 3) 2 (by decide)] at s2
   clear hce hK hcl hx
   obtain ⟨i5, hi5, _, hsz, _⟩ := info_parts infoFund
   have hcut := cut_to (P := Try.prog) 22 34 .i64 Try.underlying22 hi5 (some ad) xs.length c ((k : Nat) : Int) (by omega) (by omega) hc
   rw [Int.toNat_natCast] at hcut
   have HST := Aside0.mk hst
   clear hst HR
   have g0 : (0 : Int) ≤ (k : Int) := by omega
   go_upto_region 6 with fail
   have hBx : Below wr.heap.size wr (wr.alloc (.cells #[.string (nm x), .int .i64 (par x), .int .i64 (lim x)] 34)) := Below.alloc (Below.refl _ _) (Nat.le_refl _) _
   have HX := Aside0.mk (blk_new wr (.cells #[.string (nm x), .int .i64 (par x), .int .i64 (lim x)] 34))
   have HB1 := Aside0.mk (HB.out.trans (hBx.mono HB.out.size))
   have hlt : wr.heap.size < (wr.alloc (.cells #[.string (nm x), .int .i64 (par x), .int .i64 (lim x)] 34)).heap.size := by simp
   clear hBx s0 s1 s2 HB
   generalize hw1 : wr.alloc (.cells #[.string (nm x), .int .i64 (par x), .int .i64 (lim x)] 34) = w1 at *
   generalize hgx : wr.heap.size = gx at *
   clear hw1 hgx
   have hx0 : w1.cell? ⟨gx, 0, none⟩ = some (.string (nm x)) := by rw [blk_cell HX.out]; rfl
   have hCk := Kd.C_take (Kd.C_below HC.out HB1.out) (m := k) (by omega)
   have etl : (xs.take k).length = k := by rw [List.length_take]; omega
   have CW := Aside0.mk (cont_walk d nm par lim hd (nm x) gx (some ad) c (xs.take k) w1 hCk hx0 hlt)
   rw [etl] at CW
   obtain ⟨t, ht⟩ : ∃ t, decide (0 ≤ idxF (fun y => (nm y).toList == (nm x).toList) (xs.take k) 0) = t := ⟨_, rfl⟩
   have HT := Aside0.mk ht
   rw [ht] at CW
   clear ht hx0 hCk etl
   obtain ⟨s, hs⟩ : ∃ s, nm x = s := ⟨_, rfl⟩
   obtain ⟨p, hp⟩ : ∃ p, par x = p := ⟨_, rfl⟩
   obtain ⟨q, hq⟩ : ∃ q, lim x = q := ⟨_, rfl⟩
   have hg := HST.out
   unfold goodAt at hg
   rw [HT.out, hs, hp, hq] at hg
   rw [hs, hp, hq] at HX
   have HG := Aside0.mk hg
   clear hg HST HT hs hp hq
   have CX := Aside0.mk (fun w2 (hb : Below w1.heap.size w1 w2) => (show w2.cell? ⟨gx, 0, none⟩ = some (.string s) ∧ w2.cell? ⟨gx, 1, none⟩ = some (.int .i64 p) ∧ w2.cell? ⟨gx, 2, none⟩ = some (.int .i64 q) from by
    have := (hb.block gx hlt).trans HX.out
    refine ⟨?_, ?_, ?_⟩ <;> (rw [blk_cell this]; rfl)))
   cases t with
   | true =>
    have hr : r = false := by have h_ := HG.out; clear HG HC HX CX CW HB1 hcut hi5; simp_all
    subst hr
    go_wp2_with (go_at_call 52; refine CW.out.mono ?_; rintro e w2 ⟨rfl, hB2⟩; obtain ⟨hx0, hx1, hx2⟩ := CX.out w2 hB2; have HB2 := Aside0.mk (HB1.out.trans (hB2.mono HB1.out.size)); clear hB2)
    go_ret
    exact ⟨rfl, HB2.out⟩
   | false =>

   by_cases c1 : s.toList.isEmpty = true
   ·have c1e : (s.toList == []) = true := by simpa using c1
    have hr : r = false := by have h_ := HG.out; clear HG HC HX CX CW HB1 hcut hi5; simp_all
    subst hr
    go_wp2_with (go_at_call 52; refine CW.out.mono ?_; rintro e w2 ⟨rfl, hB2⟩; obtain ⟨hx0, hx1, hx2⟩ := CX.out w2 hB2; have HB2 := Aside0.mk (HB1.out.trans (hB2.mono HB1.out.size)); clear hB2)
    go_ret
    exact ⟨rfl, HB2.out⟩
   have c1' : s.toList.isEmpty = false := by simpa using c1
   have c1e : (s.toList == []) = false := by simpa using c1
   by_cases c2 : 16 < (s.size : Int)
   ·have d2 : decide (16 < (s.size : Int)) = true := decide_eq_true c2
    have hr : r = false := by have h_ := HG.out; clear HG HC HX CX CW HB1 hcut hi5; simp_all
    subst hr
    go_wp2_with (go_at_call 52; refine CW.out.mono ?_; rintro e w2 ⟨rfl, hB2⟩; obtain ⟨hx0, hx1, hx2⟩ := CX.out w2 hB2; have HB2 := Aside0.mk (HB1.out.trans (hB2.mono HB1.out.size)); clear hB2)
    go_ret
    exact ⟨rfl, HB2.out⟩
   have d2 : decide (16 < (s.size : Int)) = false := decide_eq_false c2
   by_cases c3 : p < -1
   ·have d3 : decide (p < -1) = true := decide_eq_true c3
    have hr : r = false := by have h_ := HG.out; clear HG HC HX CX CW HB1 hcut hi5; simp_all
    subst hr
    go_wp2_with (go_at_call 52; refine CW.out.mono ?_; rintro e w2 ⟨rfl, hB2⟩; obtain ⟨hx0, hx1, hx2⟩ := CX.out w2 hB2; have HB2 := Aside0.mk (HB1.out.trans (hB2.mono HB1.out.size)); clear hB2)
    go_ret
    exact ⟨rfl, HB2.out⟩
   have d3 : decide (p < -1) = false := decide_eq_false c3
   by_cases c4 : (k : Int) ≤ p
   ·have d4 : decide ((k : Int) ≤ p) = true := decide_eq_true c4
    have hr : r = false := by have h_ := HG.out; clear HG HC HX CX CW HB1 hcut hi5; simp_all
    subst hr
    go_wp2_with (go_at_call 52; refine CW.out.mono ?_; rintro e w2 ⟨rfl, hB2⟩; obtain ⟨hx0, hx1, hx2⟩ := CX.out w2 hB2; have HB2 := Aside0.mk (HB1.out.trans (hB2.mono HB1.out.size)); clear hB2)
    go_ret
    exact ⟨rfl, HB2.out⟩
   have d4 : decide ((k : Int) ≤ p) = false := decide_eq_false c4
   by_cases c5 : q < 0
   ·have d5 : decide (q < 0) = true := decide_eq_true c5
    have hr : r = false := by have h_ := HG.out; clear HG HC HX CX CW HB1 hcut hi5; simp_all
    subst hr
    go_wp2_with (go_at_call 52; refine CW.out.mono ?_; rintro e w2 ⟨rfl, hB2⟩; obtain ⟨hx0, hx1, hx2⟩ := CX.out w2 hB2; have HB2 := Aside0.mk (HB1.out.trans (hB2.mono HB1.out.size)); clear hB2)
    go_ret
    exact ⟨rfl, HB2.out⟩
   have d5 : decide (q < 0) = false := decide_eq_false c5
   by_cases c6 : 1152921504606846976 < q
   ·have d6 : decide (1152921504606846976 < q) = true := decide_eq_true c6
    have hr : r = false := by have h_ := HG.out; clear HG HC HX CX CW HB1 hcut hi5; simp_all
    subst hr
    go_wp2_with (go_at_call 52; refine CW.out.mono ?_; rintro e w2 ⟨rfl, hB2⟩; obtain ⟨hx0, hx1, hx2⟩ := CX.out w2 hB2; have HB2 := Aside0.mk (HB1.out.trans (hB2.mono HB1.out.size)); clear hB2)
    go_ret
    exact ⟨rfl, HB2.out⟩
   have d6 : decide (1152921504606846976 < q) = false := decide_eq_false c6
   have HR2 := Aside0.mk (show goodFrom nm par lim xs (k + 1) (xs.drop (k + 1)) = r by have h_ := HG.out; clear HG HC HX CX CW HB1 hcut hi5; simp_all)

   go_wp2_with (go_at_call 52; refine CW.out.mono ?_; rintro e w2 ⟨rfl, hB2⟩; obtain ⟨hx0, hx1, hx2⟩ := CX.out w2 hB2; have HB2 := Aside0.mk (HB1.out.trans (hB2.mono HB1.out.size)); clear hB2)
   exact ⟨⟨k + 1, hlk, by go_num, HR2, HB2⟩, by simp [intOf]; omega⟩
  ·obtain rfl : k = xs.length := by omega
   have hr := HR.out
   rw [goodFrom_end] at hr
   subst hr
   go_wp2
   go_ret
   exact ⟨rfl, HB.out⟩
end Go.Proofs.Ytijeigiilgapdaa.XGood
