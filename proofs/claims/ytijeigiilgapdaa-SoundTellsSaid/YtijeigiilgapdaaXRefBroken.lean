/-
 prebendref25.Broken by its walk.
-/
import Derived.Laws.CopyOwn
import Derived.ArgAppend
import Derived.Below
import Derived.BigQuiet
import Derived.Deep.AppendLies
import Derived.Deep.CutBlock
import Derived.Deep.DeepCutAuto
import Derived.Deep.Draws
import Derived.Deep.LoopGhost
import Derived.Deep.OwnRows
import Derived.Deep.QuietTactic
import Derived.Deep.RegionHeld3
import Derived.Deep.WholeRow
import Derived.KernelRfl
import Derived.Laws.BitsLemmas
import Derived.Laws.BytesArg
import Derived.Laws.IdiomCopy
import Derived.Laws.MakeOwn
import Derived.Laws.OwnMore
import Derived.Laws.Rows
import Derived.Laws.Slices
import Derived.Lib.AppendStr
import Derived.Lib.ConvBytes
import Derived.Lib.Hide
import Derived.Maps.AppendAt
import Derived.OrdersHeld
import Derived.Outline
import Derived.OwnWalk
import Derived.RowKit
import Derived.RowKit3
import Derived.Tactics
import Derived.WalkKit
import Derived.WideLaws
import Derived.Test.YtijeigiilgapdaaProg
import Derived.Test.YtijeigiilgapdaaWAll

import Derived.Test.YtijeigiilgapdaaXSnd
import Derived.Test.YtijeigiilgapdaaXBase
import Derived.Test.YtijeigiilgapdaaQSoundTellsx10
import Derived.Test.YtijeigiilgapdaaQSoundTellsx11
import Derived.Test.YtijeigiilgapdaaQSoundTellsx12
import Derived.Test.YtijeigiilgapdaaQSoundTellsx13
import Derived.Test.YtijeigiilgapdaaQSoundTellsx16
import Derived.Test.YtijeigiilgapdaaQSoundTellsx17
import Derived.Test.YtijeigiilgapdaaQSoundTellsx18
import Derived.Test.YtijeigiilgapdaaQSoundTellsx19
namespace Go.Proofs.Ytijeigiilgapdaa.XRB
open Go.RowKit Go.Proofs.YtijeigiilgapdaaW.PrintWords Go.Proofs.YtijeigiilgapdaaW.PrintLast Go.Proofs.YtijeigiilgapdaaW.PrintMore Go.Proofs.Ytijeigiilgapdaa.QSoundTells XCom XSnd XBase
set_option linter.unusedVariables false
set_option linter.unusedSimpArgs false
/-- A state's rows, read. -/
structure StR (W : World) (A3 : Option Addr) (c3 : Nat) (fs : List S34) (A4 : Option Addr) (c4 : Nat) (al : List S36) (A5 : Option Addr) (c5 : Nat) (rs : List S68) (A6 : Option Addr) (c6 : Nat) (js : List S50) (A7 : Option Addr) (c7 : Nat) (ks : List ByteArray) : Prop where
 r3 : Kd.C k34 W A3 fs.length fs
 l3 : fs.length ≤ c3
 r4 : Kd.C k36 W A4 al.length al
 l4 : al.length ≤ c4
 r5 : Kd.C k68 W A5 rs.length rs
 l5 : rs.length ≤ c5
 r6 : Kd.C k50 W A6 js.length js
 l6 : js.length ≤ c6
 r7 : Kd.C Kd.string W A7 ks.length ks
 l7 : ks.length ≤ c7
theorem StR.below {W W' : World} {A3 : Option Addr} {c3 : Nat} {fs : List S34} {A4 : Option Addr} {c4 : Nat} {al : List S36} {A5 : Option Addr} {c5 : Nat} {rs : List S68} {A6 : Option Addr} {c6 : Nat} {js : List S50} {A7 : Option Addr} {c7 : Nat} {ks : List ByteArray} (h : StR W A3 c3 fs A4 c4 al A5 c5 rs A6 c6 js A7 c7 ks) (hb : Below W.heap.size W W') : StR W' A3 c3 fs A4 c4 al A5 c5 rs A6 c6 js A7 c7 ks :=
 ⟨Kd.C_below h.r3 hb, h.l3, Kd.C_below h.r4 hb, h.l4, Kd.C_below h.r5 hb, h.l5, Kd.C_below h.r6 hb, h.l6, Kd.C_below h.r7 hb, h.l7⟩
theorem st_cells {W : World} {gs : Nat} {v0 v1 v2 v3 v4 v5 v6 v7 : Value} (h : W.heap[gs]? = some (.cells #[v0, v1, v2, v3, v4, v5, v6, v7] 28 (0, 0))) :
  W.cell? ⟨gs, 0, none⟩ = some v0 ∧ W.cell? ⟨gs, 1, none⟩ = some v1 ∧ W.cell? ⟨gs, 2, none⟩ = some v2 ∧ W.cell? ⟨gs, 3, none⟩ = some v3 ∧ W.cell? ⟨gs, 4, none⟩ = some v4 ∧ W.cell? ⟨gs, 5, none⟩ = some v5 ∧ W.cell? ⟨gs, 6, none⟩ = some v6 ∧ W.cell? ⟨gs, 7, none⟩ = some v7 := by
 refine ⟨?_, ?_, ?_, ?_, ?_, ?_, ?_, ?_⟩ <;> (rw [blk_cell h]; rfl)
attribute [local irreducible] addR flatA lienFrom spentFrom sgFrom apFrom cnt costR overFrom covOk XSnd.sums nodeOk
set_option maxHeartbeats 16000000 in
set_option maxRecDepth 100000 in
theorem rbroken_walk (a0 w next : Int) (A3 : Option Addr) (c3 : Nat) (fs : List S34) (A4 : Option Addr) (c4 : Nat) (al : List S36) (A5 : Option Addr) (c5 : Nat) (rs : List S68) (A6 : Option Addr) (c6 : Nat) (js : List S50) (A7 : Option Addr) (c7 : Nat) (ks : List ByteArray) (nodes : Int) (W : World) (hst : StR W A3 c3 fs A4 c4 al A5 c5 rs A6 c6 js A7 c7 ks) (hf : fs.length ≤ 40) (hl : al.length ≤ 40) (hr : rs.length ≤ 4611686018427387904) (hs : Sizes js) :
  Calls Try.prog 6 #[.agg #[.int .i64 a0, .int .i64 w, .int .i64 next, .slice A3 fs.length c3, .slice A4 al.length c4, .slice A5 rs.length c5, .slice A6 js.length c6, .slice A7 ks.length c7], .int .i64 nodes] W fun e w' => e = .returned (.int .i64 (brokenR w next nodes fs al rs js)) ∧ Below W.heap.size W w' := by
 obtain ⟨r, hbr⟩ : ∃ r, brokenR w next nodes fs al rs js = r := ⟨_, rfl⟩
 have HBR := Aside0.mk hbr
 unfold brokenR at hbr
 have HST := Aside0.mk hst
 have hjl : js.length ≤ 40 := hs.1
 rw [HBR.out]
 obtain ⟨w1, hw1⟩ : ∃ z, W.alloc (.cells #[.int .i64 a0, .int .i64 w, .int .i64 next, .slice A3 fs.length c3, .slice A4 al.length c4, .slice A5 rs.length c5, .slice A6 js.length c6, .slice A7 ks.length c7] 28) = z := ⟨_, rfl⟩
 have HS := Aside0.mk (show w1.heap[W.heap.size]? = some (.cells #[.int .i64 a0, .int .i64 w, .int .i64 next, .slice A3 fs.length c3, .slice A4 al.length c4, .slice A5 rs.length c5, .slice A6 js.length c6, .slice A7 ks.length c7] 28 (0, 0)) by rw [← hw1]; exact blk_new W _)
 have B1 := Aside0.mk (show Below W.heap.size W w1 by rw [← hw1]; exact Below.alloc (Below.refl _ _) (Nat.le_refl _) _)
 have hlt : W.heap.size < w1.heap.size := by rw [← hw1]; simp
 have SC := Aside0.mk (fun wq (hb : Below w1.heap.size w1 wq) => st_cells ((hb.block W.heap.size hlt).trans HS.out))
 have BW := Aside0.mk (fun wq (hb : Below w1.heap.size w1 wq) => B1.out.trans (hb.mono B1.out.size))
 have TR := Aside0.mk (fun wq (hb : Below w1.heap.size w1 wq) => HST.out.below (BW.out wq hb))
 have BR := Aside0.mk (Below.refl w1.heap.size w1)
 -- the calls
 obtain ⟨k1, q1⟩ := (flat_ev w al hl).ex
 obtain ⟨k2, q2⟩ := (radd_ev (w :: flatA al) (by rw [List.length_cons, flatA_len]; omega)).ex
 have FLAT := Aside0.mk (fun wq (hb : Below w1.heap.size w1 wq) => prebendref09_Flat.calls k1 w A4 c4 al _ wq (TR.out wq hb).r4 (TR.out wq hb).l4 q1)
 obtain ⟨s1, s2, hss⟩ : ∃ s1 s2, addR 0 (w :: flatA al) = (s1, s2) := ⟨_, _, rfl⟩
 rw [hss] at q2
 have ADD := Aside0.mk (fun A c wq (h : Kd.C (Kd.int .i64) wq A (w :: flatA al).length (w :: flatA al)) (hc : (w :: flatA al).length ≤ c) => prebendref01_Add.calls k2 A c _ s1 s2 wq h hc q2)
 obtain ⟨k3, q3⟩ := (rfunds_ev fs (by omega)).ex
 have GOOD := Aside0.mk (fun wq (hb : Below w1.heap.size w1 wq) => prebendref08_Good.calls k3 A3 c3 fs _ wq (TR.out wq hb).r3 (TR.out wq hb).l3 q3)
 obtain ⟨k4, q4⟩ := (rrates_ev rs hr).ex
 have RATE := Aside0.mk (fun wq (hb : Below w1.heap.size w1 wq) => prebendref10_Good.calls k4 A5 c5 rs _ wq (TR.out wq hb).r5 (TR.out wq hb).l5 q4)
 obtain ⟨k5, q5⟩ := (rallocs_ev a0 w next fs al rs js ks hl).ex
 have ALLO := Aside0.mk (fun wq (hb : Below w1.heap.size w1 wq) => prebendref25_allocs.calls k5 a0 w next A3 c3 fs A4 c4 al A5 c5 rs A6 c6 js A7 c7 ks _ wq (TR.out wq hb).r3 (TR.out wq hb).l3 (TR.out wq hb).r4 (TR.out wq hb).l4 (TR.out wq hb).r5 (TR.out wq hb).l5 (TR.out wq hb).r6 (TR.out wq hb).l6 (TR.out wq hb).r7 (TR.out wq hb).l7 q5)
 obtain ⟨k6, q6⟩ := (rjobs_ev a0 w next fs al rs js ks hs).ex
 have JOBS := Aside0.mk (fun wq (hb : Below w1.heap.size w1 wq) => prebendref25_jobs.calls k6 a0 w next A3 c3 fs A4 c4 al A5 c5 rs A6 c6 js A7 c7 ks _ wq (TR.out wq hb).r3 (TR.out wq hb).l3 (TR.out wq hb).r4 (TR.out wq hb).l4 (TR.out wq hb).r5 (TR.out wq hb).l5 (TR.out wq hb).r6 (TR.out wq hb).l6 (TR.out wq hb).r7 (TR.out wq hb).l7 q6)
 obtain ⟨k7, q7⟩ := (rover_ev fs al hf hl).ex
 have OVER := Aside0.mk (fun wq (hb : Below w1.heap.size w1 wq) => prebendref08_Over.calls k7 A3 c3 fs A4 c4 al _ wq (TR.out wq hb).r3 (TR.out wq hb).l3 (TR.out wq hb).r4 (TR.out wq hb).l4 q7)
 have SUM := Aside0.mk (fun (st a : Int) (hfew : Few js) wq (hb : Below w1.heap.size w1 wq) => (show ∀ r1 r2, ((addR 0 (amts st a js)).1, (addR 0 (amts st a js)).2 == 0) = (r1, r2) → Calls Try.prog 32 #[.agg #[.int .i64 a0, .int .i64 w, .int .i64 next, .slice A3 fs.length c3, .slice A4 al.length c4, .slice A5 rs.length c5, .slice A6 js.length c6, .slice A7 ks.length c7], .int .i64 st, .int .i64 a] wq fun e w' => e = .returned (.tuple #[.int .i64 r1, .bool r2]) ∧ Below wq.heap.size wq w' from fun r1 r2 he => by
  obtain ⟨k8, q8⟩ := (rsum_ev a0 w next fs al rs js ks st a hfew).ex
  rw [he] at q8
  exact prebendref25_sum.calls k8 a0 w next A3 c3 fs A4 c4 al A5 c5 rs A6 c6 js A7 c7 ks st a r1 r2 wq (TR.out wq hb).r3 (TR.out wq hb).l3 (TR.out wq hb).r4 (TR.out wq hb).l4 (TR.out wq hb).r5 (TR.out wq hb).l5 (TR.out wq hb).r6 (TR.out wq hb).l6 (TR.out wq hb).r7 (TR.out wq hb).l7 q8))
 clear q1 q2 q3 q4 q5 q6 q7 hst
 go_enter Try.func6, Try.ntmps6
 have HW1 := Aside0.mk hw1
 clear hw1
 obtain ⟨x0, x1, x2, x3, x4, x5, x6, x7⟩ := SC.out _ BR.out
 obtain ⟨lf, hlf⟩ : ∃ z, (w :: flatA al) = z := ⟨_, rfl⟩
 have HLF := Aside0.mk hlf
 rw [hlf] at ADD FLAT
 have hlfl : lf.length ≤ 200 := by rw [← hlf, List.length_cons, flatA_len]; omega
 clear hlf
 have hto : totalB w al = decide ((s1, s2) = ((0 : Int), (0 : Int))) := by unfold totalB; rw [hss]
 clear hss
 by_cases h1 : (s1, s2) = ((0 : Int), (0 : Int))
 rotate_left
 ·have hr1 : r = 1 := by rw [hto, decide_eq_false h1, if_pos rfl] at hbr; exact hbr.symm
  clear hbr
  by_cases h2 : s2 = 0
  ·have h3 : ¬ s1 = 0 := fun h3 => h1 (by rw [h2, h3])
   have h3b : (s1 == 0) = false := by simpa using h3
   subst h2
   subst hr1
   go_wp2_with (first | (go_at_call 26; (try rw [HW1.out]); refine (FLAT.out _ BR.out).mono ?_; rintro e w2 ⟨v2, rfl, hR2, hB2⟩; obtain ⟨A2, c2, rfl, hc2, hC2⟩ := Kd.R_reads hR2; have B2 := Aside0.mk hB2; have HC2 := Aside0.mk hC2; clear hR2 hB2 hC2) | (go_at_call 27; refine (ADD.out A2 c2 _ HC2.out hc2).mono ?_; rintro e w3 ⟨rfl, hD3⟩; have B23 := Aside0.mk (Drawn0.below hD3); have B3 := Aside0.mk (B2.out.trans (B23.out.mono B2.out.size)); clear hD3))
   go_ret
   exact ⟨rfl, BW.out _ B3.out⟩
  ·have h2b : (s2 == 0) = false := by simpa using h2
   subst hr1
   go_wp2_with (first | (go_at_call 26; (try rw [HW1.out]); refine (FLAT.out _ BR.out).mono ?_; rintro e w2 ⟨v2, rfl, hR2, hB2⟩; obtain ⟨A2, c2, rfl, hc2, hC2⟩ := Kd.R_reads hR2; have B2 := Aside0.mk hB2; have HC2 := Aside0.mk hC2; clear hR2 hB2 hC2) | (go_at_call 27; refine (ADD.out A2 c2 _ HC2.out hc2).mono ?_; rintro e w3 ⟨rfl, hD3⟩; have B23 := Aside0.mk (Drawn0.below hD3); have B3 := Aside0.mk (B2.out.trans (B23.out.mono B2.out.size)); clear hD3))
   go_ret
   exact ⟨rfl, BW.out _ B3.out⟩
 have e1 : s1 = 0 := congrArg Prod.fst h1
 have e2 : s2 = 0 := congrArg Prod.snd h1
 subst e1
 subst e2
 rw [hto, decide_eq_true rfl, if_neg (by decide)] at hbr
 clear h1 hto
 have hsg : sgFrom 0 (lf.drop 0) = signsB w al := by rw [List.drop_zero, ← HLF.out]; exact sg_all w al
 clear HLF
 cases hsb : signsB w al with
 | false =>
  have hr2 : r = 2 := by rw [hsb, if_pos rfl] at hbr; exact hbr.symm
  subst hr2
  rw [hsb] at hsg
  have HSG := Aside0.mk hsg
  clear hbr hsg hsb
  go_wp2_with (first | (go_at_call 26; (try rw [HW1.out]); refine (FLAT.out _ BR.out).mono ?_; rintro e w2 ⟨v2, rfl, hR2, hB2⟩; obtain ⟨A2, c2, rfl, hc2, hC2⟩ := Kd.R_reads hR2; have B2 := Aside0.mk hB2; have HC2 := Aside0.mk hC2; clear hR2 hB2 hC2) | (go_at_call 27; refine (ADD.out A2 c2 _ HC2.out hc2).mono ?_; rintro e w3 ⟨rfl, hD3⟩; have B23 := Aside0.mk (Drawn0.below hD3); have B3 := Aside0.mk (B2.out.trans (B23.out.mono B2.out.size)); clear hD3))
  go_loopw [8] (fun v8 wr => ∃ i : Nat, i ≤ lf.length ∧ v8 = .int .i64 i ∧ Aside0 (sgFrom i (lf.drop i) = false) ∧ Aside0 (Below w2.heap.size w2 wr)) (fun v8 _ => lf.length - (intOf v8).toNat)
  case atStart => exact ⟨0, Nat.zero_le _, rfl, HSG, B23⟩
  case round =>
   clear HSG B23 B3
   obtain ⟨i, hi, rfl, HSG, BL⟩ := hrel
   by_cases hil : i < lf.length
   ·have g0 : (0 : Int) ≤ (i : Int) := by omega
    obtain ⟨ad, rfl, hcell⟩ := Kd.at_int (Kd.C_below HC2.out BL.out) (i : Int) g0 (by omega)
    rw [Int.toNat_natCast, rd_at lf i hil] at hcell
    have hst := sg_step lf i hil
    rw [HSG.out] at hst
    obtain ⟨x, hx⟩ : ∃ x, lf[i] = x := ⟨_, rfl⟩
    rw [hx] at hst hcell
    clear hx
    by_cases hi0 : i = 0
    ·have hi2 : ((i : Int) == 0) = true := by rw [hi0]; rfl
     have hi1 : decide ((0 : Int) < (i : Int)) = false := decide_eq_false (by omega)
     have hi7 : ¬ 0 < i := by omega
     rw [sgOk, if_pos hi0] at hst
     have HI0 := Aside0.mk hi0
     clear hi0
     by_cases hx : x ≤ 0
     ·have hx1 : decide (0 < x) = false := decide_eq_false (by omega)
      have HS2 := Aside0.mk (show sgFrom (i + 1) (lf.drop (i + 1)) = false by rw [decide_eq_true hx, Bool.true_and] at hst; exact hst.symm)
      clear hst HSG
      go_wp2_with fail
      first
       | exact ⟨⟨i + 1, hil, by go_num, HS2, BL⟩, by simp [intOf]; omega⟩
       | (go_roundw; (case rel => exact ⟨i + 1, hil, by go_num, HS2, BL⟩); (case measure => simp [intOf]; omega))
     ·have hx1 : decide (0 < x) = true := decide_eq_true (by omega)
      clear hst HSG
      go_wp2_with fail
      go_ret
      exact ⟨rfl, BW.out _ (B2.out.trans (BL.out.mono B2.out.size))⟩
    ·have hi1 : decide ((0 : Int) < (i : Int)) = true := decide_eq_true (by omega)
     have hi2 : ((i : Int) == 0) = false := by simpa using hi0
     have hi3 : (0 : Int) < (i : Int) := by omega
     have hi6 : 0 < i := by omega
     have hi5 : ¬ ((i : Int) = 0) := by omega
     by_cases hx : 0 ≤ x
     ·have hx1 : decide (x < 0) = false := decide_eq_false (by omega)
      have HS2 := Aside0.mk (show sgFrom (i + 1) (lf.drop (i + 1)) = false by rw [sgOk, if_neg hi0, decide_eq_true hx, Bool.true_and] at hst; exact hst.symm)
      clear hst HSG
      go_wp2_with fail
      first
       | exact ⟨⟨i + 1, hil, by go_num, HS2, BL⟩, by simp [intOf]; omega⟩
       | (go_roundw; (case rel => exact ⟨i + 1, hil, by go_num, HS2, BL⟩); (case measure => simp [intOf]; omega))
     ·have hx1 : decide (x < 0) = true := decide_eq_true (by omega)
      clear hst HSG
      go_wp2_with fail
      go_ret
      exact ⟨rfl, BW.out _ (B2.out.trans (BL.out.mono B2.out.size))⟩
   ·obtain rfl : i = lf.length := by omega
    have := HSG.out
    rw [List.drop_length, sg_nil] at this
    cases this
 | true =>
  rw [hsb, if_neg (by decide)] at hbr
  rw [hsb] at hsg
  have HSG := Aside0.mk hsg
  clear hsg hsb
  go_wp2_with (first | (go_at_call 26; (try rw [HW1.out]); refine (FLAT.out _ BR.out).mono ?_; rintro e w2 ⟨v2, rfl, hR2, hB2⟩; obtain ⟨A2, c2, rfl, hc2, hC2⟩ := Kd.R_reads hR2; have B2 := Aside0.mk hB2; have HC2 := Aside0.mk hC2; clear hR2 hB2 hC2) | (go_at_call 27; refine (ADD.out A2 c2 _ HC2.out hc2).mono ?_; rintro e w3 ⟨rfl, hD3⟩; have B23 := Aside0.mk (Drawn0.below hD3); have B3 := Aside0.mk (B2.out.trans (B23.out.mono B2.out.size)); clear hD3))
  go_loopw [8] (fun v8 wr => ∃ i : Nat, i ≤ lf.length ∧ v8 = .int .i64 i ∧ Aside0 (sgFrom i (lf.drop i) = true) ∧ Aside0 (Below w2.heap.size w2 wr)) (fun v8 _ => lf.length - (intOf v8).toNat)
  case atStart => exact ⟨0, Nat.zero_le _, rfl, HSG, B23⟩
  case round =>
   clear HSG B23 B3
   obtain ⟨i, hi, rfl, HSG, BL⟩ := hrel
   by_cases hil : i < lf.length
   ·have g0 : (0 : Int) ≤ (i : Int) := by omega
    obtain ⟨ad, rfl, hcell⟩ := Kd.at_int (Kd.C_below HC2.out BL.out) (i : Int) g0 (by omega)
    rw [Int.toNat_natCast, rd_at lf i hil] at hcell
    have hst := sg_step lf i hil
    rw [HSG.out] at hst
    obtain ⟨x, hx⟩ : ∃ x, lf[i] = x := ⟨_, rfl⟩
    rw [hx] at hst hcell
    clear hx
    by_cases hi0 : i = 0
    ·have hi2 : ((i : Int) == 0) = true := by rw [hi0]; rfl
     have hi1 : decide ((0 : Int) < (i : Int)) = false := decide_eq_false (by omega)
     have hi7 : ¬ 0 < i := by omega
     rw [sgOk, if_pos hi0] at hst
     have HI0 := Aside0.mk hi0
     clear hi0
     have hx : x ≤ 0 := by exact of_decide_eq_true (by have := (Bool.and_eq_true _ _).mp hst.symm; exact this.1)
     have hx1 : decide (0 < x) = false := decide_eq_false (by omega)
     have HS2 := Aside0.mk (show sgFrom (i + 1) (lf.drop (i + 1)) = true by rw [decide_eq_true hx, Bool.true_and] at hst; exact hst.symm)
     clear hst HSG
     go_wp2_with fail
     first
      | exact ⟨⟨i + 1, hil, by go_num, HS2, BL⟩, by simp [intOf]; omega⟩
      | (go_roundw; (case rel => exact ⟨i + 1, hil, by go_num, HS2, BL⟩); (case measure => simp [intOf]; omega))
    ·have hi1 : decide ((0 : Int) < (i : Int)) = true := decide_eq_true (by omega)
     have hi2 : ((i : Int) == 0) = false := by simpa using hi0
     have hi3 : (0 : Int) < (i : Int) := by omega
     have hi6 : 0 < i := by omega
     have hi5 : ¬ ((i : Int) = 0) := by omega
     have hx : 0 ≤ x := by rw [sgOk, if_neg hi0] at hst; exact of_decide_eq_true (by have := (Bool.and_eq_true _ _).mp hst.symm; exact this.1)
     have hx1 : decide (x < 0) = false := decide_eq_false (by omega)
     have HS2 := Aside0.mk (show sgFrom (i + 1) (lf.drop (i + 1)) = true by rw [sgOk, if_neg hi0, decide_eq_true hx, Bool.true_and] at hst; exact hst.symm)
     clear hst HSG
     go_wp2_with fail
     first
      | exact ⟨⟨i + 1, hil, by go_num, HS2, BL⟩, by simp [intOf]; omega⟩
      | (go_roundw; (case rel => exact ⟨i + 1, hil, by go_num, HS2, BL⟩); (case measure => simp [intOf]; omega))
   ·obtain rfl : i = lf.length := by omega
    have B4 := Aside0.mk (B2.out.trans (BL.out.mono B2.out.size))
    clear HSG HC2 BL FLAT ADD
    obtain ⟨x0, x1, x2, x3, x4, x5, x6, x7⟩ := SC.out _ B4.out
    cases hfu : fundsB fs with
    | false =>
     have hr3 : r = 3 := by rw [show listsB fs al rs = false from by unfold listsB; rw [hfu]; rfl, if_pos rfl] at hbr; exact hbr.symm
     subst hr3
     rw [hfu] at GOOD
     clear hbr hfu
     go_wp2_with (first | (go_at_call 28; refine (GOOD.out _ B4.out).mono ?_; rintro e w5 ⟨rfl, hB_⟩; have B5 := Aside0.mk (B4.out.trans (hB_.mono B4.out.size)); obtain ⟨x0, x1, x2, x3, x4, x5, x6, x7⟩ := SC.out _ B5.out; clear hB_))
     go_ret
     exact ⟨rfl, BW.out _ B5.out⟩
    | true =>
     rw [hfu] at GOOD
     cases hra : ratesB rs with
     | false =>
      have hr3 : r = 3 := by rw [show listsB fs al rs = false from by unfold listsB; rw [hfu, hra]; rfl, if_pos rfl] at hbr; exact hbr.symm
      subst hr3
      rw [hra] at RATE
      clear hbr hfu hra
      go_wp2_with (first | (go_at_call 28; refine (GOOD.out _ B4.out).mono ?_; rintro e w5 ⟨rfl, hB_⟩; have B5 := Aside0.mk (B4.out.trans (hB_.mono B4.out.size)); obtain ⟨x0, x1, x2, x3, x4, x5, x6, x7⟩ := SC.out _ B5.out; clear hB_) | (go_at_call 29; refine (RATE.out _ B5.out).mono ?_; rintro e w6 ⟨rfl, hB_⟩; have B6 := Aside0.mk (B5.out.trans (hB_.mono B5.out.size)); obtain ⟨x0, x1, x2, x3, x4, x5, x6, x7⟩ := SC.out _ B6.out; clear hB_))
      go_ret
      exact ⟨rfl, BW.out _ B6.out⟩
     | true =>
      rw [hra] at RATE
      cases hal : allocsB fs.length al with
      | false =>
       have hr3 : r = 3 := by rw [show listsB fs al rs = false from by unfold listsB; rw [hfu, hra, hal]; rfl, if_pos rfl] at hbr; exact hbr.symm
       subst hr3
       rw [hal] at ALLO
       clear hbr hfu hra hal
       go_wp2_with (first | (go_at_call 28; refine (GOOD.out _ B4.out).mono ?_; rintro e w5 ⟨rfl, hB_⟩; have B5 := Aside0.mk (B4.out.trans (hB_.mono B4.out.size)); obtain ⟨x0, x1, x2, x3, x4, x5, x6, x7⟩ := SC.out _ B5.out; clear hB_) | (go_at_call 29; refine (RATE.out _ B5.out).mono ?_; rintro e w6 ⟨rfl, hB_⟩; have B6 := Aside0.mk (B5.out.trans (hB_.mono B5.out.size)); obtain ⟨x0, x1, x2, x3, x4, x5, x6, x7⟩ := SC.out _ B6.out; clear hB_) | (go_at_call 30; refine (ALLO.out _ B6.out).mono ?_; rintro e w7 ⟨rfl, hB_⟩; have B7 := Aside0.mk (B6.out.trans (hB_.mono B6.out.size)); obtain ⟨x0, x1, x2, x3, x4, x5, x6, x7⟩ := SC.out _ B7.out; clear hB_))
       go_ret
       exact ⟨rfl, BW.out _ B7.out⟩
      | true =>
       rw [hal] at ALLO
       rw [show listsB fs al rs = true from by unfold listsB; rw [hfu, hra, hal]; rfl, if_neg (by decide)] at hbr
       clear hfu hra hal
       cases hjo : jobsB fs.length al.length next js with
       | false =>
        have hr4 : r = 4 := by rw [hjo, if_pos rfl] at hbr; exact hbr.symm
        subst hr4
        rw [hjo] at JOBS
        clear hbr hjo
        go_wp2_with (first | (go_at_call 28; refine (GOOD.out _ B4.out).mono ?_; rintro e w5 ⟨rfl, hB_⟩; have B5 := Aside0.mk (B4.out.trans (hB_.mono B4.out.size)); obtain ⟨x0, x1, x2, x3, x4, x5, x6, x7⟩ := SC.out _ B5.out; clear hB_) | (go_at_call 29; refine (RATE.out _ B5.out).mono ?_; rintro e w6 ⟨rfl, hB_⟩; have B6 := Aside0.mk (B5.out.trans (hB_.mono B5.out.size)); obtain ⟨x0, x1, x2, x3, x4, x5, x6, x7⟩ := SC.out _ B6.out; clear hB_) | (go_at_call 30; refine (ALLO.out _ B6.out).mono ?_; rintro e w7 ⟨rfl, hB_⟩; have B7 := Aside0.mk (B6.out.trans (hB_.mono B6.out.size)); obtain ⟨x0, x1, x2, x3, x4, x5, x6, x7⟩ := SC.out _ B7.out; clear hB_) | (go_at_call 31; refine (JOBS.out _ B7.out).mono ?_; rintro e w8 ⟨rfl, hB_⟩; have B8 := Aside0.mk (B7.out.trans (hB_.mono B7.out.size)); obtain ⟨x0, x1, x2, x3, x4, x5, x6, x7⟩ := SC.out _ B8.out; clear hB_))
        go_ret
        exact ⟨rfl, BW.out _ B8.out⟩
       | true =>
        rw [hjo] at JOBS
        rw [hjo, if_neg (by decide)] at hbr
        obtain ⟨hfew, hmask⟩ := jobs_facts hjo
        clear hjo
        cases hsp : lienFrom js 0 al with
        | false =>
         have hrr : r = 5 := by rw [hsp, if_pos rfl] at hbr; exact hbr.symm
         subst hrr
         have HSP := Aside0.mk (show lienFrom js 0 (al.drop 0) = false by rw [List.drop_zero]; exact hsp)
         clear hbr hsp
         go_wp2_with (first | (go_at_call 28; refine (GOOD.out _ B4.out).mono ?_; rintro e w5 ⟨rfl, hB_⟩; have B5 := Aside0.mk (B4.out.trans (hB_.mono B4.out.size)); obtain ⟨x0, x1, x2, x3, x4, x5, x6, x7⟩ := SC.out _ B5.out; clear hB_) | (go_at_call 29; refine (RATE.out _ B5.out).mono ?_; rintro e w6 ⟨rfl, hB_⟩; have B6 := Aside0.mk (B5.out.trans (hB_.mono B5.out.size)); obtain ⟨x0, x1, x2, x3, x4, x5, x6, x7⟩ := SC.out _ B6.out; clear hB_) | (go_at_call 30; refine (ALLO.out _ B6.out).mono ?_; rintro e w7 ⟨rfl, hB_⟩; have B7 := Aside0.mk (B6.out.trans (hB_.mono B6.out.size)); obtain ⟨x0, x1, x2, x3, x4, x5, x6, x7⟩ := SC.out _ B7.out; clear hB_) | (go_at_call 31; refine (JOBS.out _ B7.out).mono ?_; rintro e w8 ⟨rfl, hB_⟩; have B8 := Aside0.mk (B7.out.trans (hB_.mono B7.out.size)); obtain ⟨x0, x1, x2, x3, x4, x5, x6, x7⟩ := SC.out _ B8.out; clear hB_))
         go_loopw [9] (fun v9 wr => ∃ i : Nat, i ≤ al.length ∧ v9 = .int .i64 i ∧ Aside0 (lienFrom js i (al.drop i) = false) ∧ Aside0 (Below w1.heap.size w1 wr)) (fun v9 _ => al.length - (intOf v9).toNat)
         case atStart => exact ⟨0, Nat.zero_le _, rfl, HSP, B8⟩
         case round =>
          clear HSP B8
          obtain ⟨i, hi, rfl, HSP, BL⟩ := hrel
          obtain ⟨x0, x1, x2, x3, x4, x5, x6, x7⟩ := SC.out _ BL.out
          by_cases hil : i < al.length
          ·have g0 : (0 : Int) ≤ (i : Int) := by omega
           obtain ⟨ad, rfl, -, -, -, -, y4, y5⟩ := at_T36 (TR.out _ BL.out).r4 (i : Int) g0 (by omega)
           rw [Int.toNat_natCast, rd_alloc_at al i hil] at y4 y5
           have hst := lien_step js al i hil
           rw [HSP.out] at hst
           obtain ⟨s1, s2, hss⟩ : ∃ s1 s2, addR 0 (amts 3 (i : Int) js) = (s1, s2) := ⟨_, _, rfl⟩
           have SM := Aside0.mk (SUM.out 3 (i : Int) hfew wr BL.out s1 (s2 == 0) (by rw [hss]))
           rw [hss] at hst
           obtain ⟨q, hq⟩ : ∃ q, al[i].f4 = q := ⟨_, rfl⟩
           rw [hq] at hst y4
           have Y := Aside0.mk y4
           clear hq hss HSP y4 y5
           by_cases hok : (s1, s2) = (q, (0 : Int))
           ·have HS2 := Aside0.mk (show lienFrom js (i + 1) (al.drop (i + 1)) = false by rw [decide_eq_true hok, Bool.true_and] at hst; exact hst.symm)
            clear hst
            have e1 : s1 = q := congrArg Prod.fst hok
            have e2 : s2 = 0 := congrArg Prod.snd hok
            subst e1
            subst e2
            go_wp2_with (go_at_call 32; refine SM.out.mono ?_; rintro e w5 ⟨rfl, hB_⟩; have yc := pw_cell_below hB_ Y.out; have B5 := Aside0.mk (BL.out.trans (hB_.mono BL.out.size)); obtain ⟨x0, x1, x2, x3, x4, x5, x6, x7⟩ := SC.out _ B5.out; clear hB_)
            first
             | exact ⟨⟨i + 1, hil, by go_num, HS2, B5⟩, by simp [intOf]; omega⟩
             | (go_roundw; (case rel => exact ⟨i + 1, hil, by go_num, HS2, B5⟩); (case measure => simp [intOf]; omega))
           ·by_cases hz : s2 = 0
            ·have hne : ¬ s1 = q := fun h3 => hok (by rw [hz, h3])
             have hne2 : (s1 == q) = false := by simpa using hne
             subst hz
             clear hst hok
             go_wp2_with (go_at_call 32; refine SM.out.mono ?_; rintro e w5 ⟨rfl, hB_⟩; have yc := pw_cell_below hB_ Y.out; have B5 := Aside0.mk (BL.out.trans (hB_.mono BL.out.size)); obtain ⟨x0, x1, x2, x3, x4, x5, x6, x7⟩ := SC.out _ B5.out; clear hB_)
             go_ret
             exact ⟨rfl, BW.out _ B5.out⟩
            ·have hz2 : (s2 == 0) = false := by simpa using hz
             clear hst hok
             go_wp2_with (go_at_call 32; refine SM.out.mono ?_; rintro e w5 ⟨rfl, hB_⟩; have yc := pw_cell_below hB_ Y.out; have B5 := Aside0.mk (BL.out.trans (hB_.mono BL.out.size)); obtain ⟨x0, x1, x2, x3, x4, x5, x6, x7⟩ := SC.out _ B5.out; clear hB_)
             go_ret
             exact ⟨rfl, BW.out _ B5.out⟩
          ·obtain rfl : i = al.length := by omega
           have he := HSP.out
           rw [List.drop_length, lien_nil] at he
           clear HSP
           cases he
        | true =>
         rw [hsp, if_neg (by decide)] at hbr
         have HSP := Aside0.mk (show lienFrom js 0 (al.drop 0) = true by rw [List.drop_zero]; exact hsp)
         clear hsp
         go_wp2_with (first | (go_at_call 28; refine (GOOD.out _ B4.out).mono ?_; rintro e w5 ⟨rfl, hB_⟩; have B5 := Aside0.mk (B4.out.trans (hB_.mono B4.out.size)); obtain ⟨x0, x1, x2, x3, x4, x5, x6, x7⟩ := SC.out _ B5.out; clear hB_) | (go_at_call 29; refine (RATE.out _ B5.out).mono ?_; rintro e w6 ⟨rfl, hB_⟩; have B6 := Aside0.mk (B5.out.trans (hB_.mono B5.out.size)); obtain ⟨x0, x1, x2, x3, x4, x5, x6, x7⟩ := SC.out _ B6.out; clear hB_) | (go_at_call 30; refine (ALLO.out _ B6.out).mono ?_; rintro e w7 ⟨rfl, hB_⟩; have B7 := Aside0.mk (B6.out.trans (hB_.mono B6.out.size)); obtain ⟨x0, x1, x2, x3, x4, x5, x6, x7⟩ := SC.out _ B7.out; clear hB_) | (go_at_call 31; refine (JOBS.out _ B7.out).mono ?_; rintro e w8 ⟨rfl, hB_⟩; have B8 := Aside0.mk (B7.out.trans (hB_.mono B7.out.size)); obtain ⟨x0, x1, x2, x3, x4, x5, x6, x7⟩ := SC.out _ B8.out; clear hB_))
         go_loopw [9] (fun v9 wr => ∃ i : Nat, i ≤ al.length ∧ v9 = .int .i64 i ∧ Aside0 (lienFrom js i (al.drop i) = true) ∧ Aside0 (Below w1.heap.size w1 wr)) (fun v9 _ => al.length - (intOf v9).toNat)
         case atStart => exact ⟨0, Nat.zero_le _, rfl, HSP, B8⟩
         case round =>
          clear HSP B8
          obtain ⟨i, hi, rfl, HSP, BL⟩ := hrel
          obtain ⟨x0, x1, x2, x3, x4, x5, x6, x7⟩ := SC.out _ BL.out
          by_cases hil : i < al.length
          ·have g0 : (0 : Int) ≤ (i : Int) := by omega
           obtain ⟨ad, rfl, -, -, -, -, y4, y5⟩ := at_T36 (TR.out _ BL.out).r4 (i : Int) g0 (by omega)
           rw [Int.toNat_natCast, rd_alloc_at al i hil] at y4 y5
           have hst := lien_step js al i hil
           rw [HSP.out] at hst
           obtain ⟨s1, s2, hss⟩ : ∃ s1 s2, addR 0 (amts 3 (i : Int) js) = (s1, s2) := ⟨_, _, rfl⟩
           have SM := Aside0.mk (SUM.out 3 (i : Int) hfew wr BL.out s1 (s2 == 0) (by rw [hss]))
           rw [hss] at hst
           obtain ⟨q, hq⟩ : ∃ q, al[i].f4 = q := ⟨_, rfl⟩
           rw [hq] at hst y4
           have Y := Aside0.mk y4
           clear hq hss HSP y4 y5
           have hok : (s1, s2) = (q, (0 : Int)) := of_decide_eq_true ((Bool.and_eq_true _ _).mp hst.symm).1
           have HS2 := Aside0.mk (show lienFrom js (i + 1) (al.drop (i + 1)) = true by rw [decide_eq_true hok, Bool.true_and] at hst; exact hst.symm)
           clear hst
           have e1 : s1 = q := congrArg Prod.fst hok
           have e2 : s2 = 0 := congrArg Prod.snd hok
           subst e1
           subst e2
           go_wp2_with (go_at_call 32; refine SM.out.mono ?_; rintro e w5 ⟨rfl, hB_⟩; have yc := pw_cell_below hB_ Y.out; have B5 := Aside0.mk (BL.out.trans (hB_.mono BL.out.size)); obtain ⟨x0, x1, x2, x3, x4, x5, x6, x7⟩ := SC.out _ B5.out; clear hB_)
           first
            | exact ⟨⟨i + 1, hil, by go_num, HS2, B5⟩, by simp [intOf]; omega⟩
            | (go_roundw; (case rel => exact ⟨i + 1, hil, by go_num, HS2, B5⟩); (case measure => simp [intOf]; omega))
          ·obtain rfl : i = al.length := by omega
           have he := HSP.out
           rw [List.drop_length, lien_nil] at he
           clear HSP
           clear he
           have B9 := BL
           clear BL
           cases hsp : spentFrom js 0 al with
           | false =>
            have hrr : r = 6 := by rw [hsp, if_pos rfl] at hbr; exact hbr.symm
            subst hrr
            have HSP := Aside0.mk (show spentFrom js 0 (al.drop 0) = false by rw [List.drop_zero]; exact hsp)
            clear hbr hsp
            go_wp2_with fail
            go_loopw [12] (fun v12 wr => ∃ i : Nat, i ≤ al.length ∧ v12 = .int .i64 i ∧ Aside0 (spentFrom js i (al.drop i) = false) ∧ Aside0 (Below w1.heap.size w1 wr)) (fun v12 _ => al.length - (intOf v12).toNat)
            case atStart => exact ⟨0, Nat.zero_le _, rfl, HSP, B9⟩
            case round =>
             clear HSP B9
             obtain ⟨i, hi, rfl, HSP, BL⟩ := hrel
             obtain ⟨x0, x1, x2, x3, x4, x5, x6, x7⟩ := SC.out _ BL.out
             by_cases hil : i < al.length
             ·have g0 : (0 : Int) ≤ (i : Int) := by omega
              obtain ⟨ad, rfl, -, -, -, -, y4, y5⟩ := at_T36 (TR.out _ BL.out).r4 (i : Int) g0 (by omega)
              rw [Int.toNat_natCast, rd_alloc_at al i hil] at y4 y5
              have hst := spent_step js al i hil
              rw [HSP.out] at hst
              obtain ⟨s1, s2, hss⟩ : ∃ s1 s2, addR 0 (amts 4 (i : Int) js) = (s1, s2) := ⟨_, _, rfl⟩
              have SM := Aside0.mk (SUM.out 4 (i : Int) hfew wr BL.out s1 (s2 == 0) (by rw [hss]))
              rw [hss] at hst
              obtain ⟨q, hq⟩ : ∃ q, al[i].f5 = q := ⟨_, rfl⟩
              rw [hq] at hst y5
              have Y := Aside0.mk y5
              clear hq hss HSP y4 y5
              by_cases hok : s2 = 0 ∧ s1 ≤ q
              ·have HS2 := Aside0.mk (show spentFrom js (i + 1) (al.drop (i + 1)) = false by rw [decide_eq_true hok, Bool.true_and] at hst; exact hst.symm)
               clear hst
               obtain ⟨e2, e1⟩ := hok
               have d1 : decide (q < s1) = false := decide_eq_false (by omega)
               subst e2
               go_wp2_with (go_at_call 32; refine SM.out.mono ?_; rintro e w5 ⟨rfl, hB_⟩; have yc := pw_cell_below hB_ Y.out; have B5 := Aside0.mk (BL.out.trans (hB_.mono BL.out.size)); obtain ⟨x0, x1, x2, x3, x4, x5, x6, x7⟩ := SC.out _ B5.out; clear hB_)
               first
                | exact ⟨⟨i + 1, hil, by go_num, HS2, B5⟩, by simp [intOf]; omega⟩
                | (go_roundw; (case rel => exact ⟨i + 1, hil, by go_num, HS2, B5⟩); (case measure => simp [intOf]; omega))
              ·by_cases hz : s2 = 0
               ·have hne : q < s1 := by omega
                have hne2 : decide (q < s1) = true := decide_eq_true hne
                subst hz
                clear hst hok
                go_wp2_with (go_at_call 32; refine SM.out.mono ?_; rintro e w5 ⟨rfl, hB_⟩; have yc := pw_cell_below hB_ Y.out; have B5 := Aside0.mk (BL.out.trans (hB_.mono BL.out.size)); obtain ⟨x0, x1, x2, x3, x4, x5, x6, x7⟩ := SC.out _ B5.out; clear hB_)
                go_ret
                exact ⟨rfl, BW.out _ B5.out⟩
               ·have hz2 : (s2 == 0) = false := by simpa using hz
                clear hst hok
                go_wp2_with (go_at_call 32; refine SM.out.mono ?_; rintro e w5 ⟨rfl, hB_⟩; have yc := pw_cell_below hB_ Y.out; have B5 := Aside0.mk (BL.out.trans (hB_.mono BL.out.size)); obtain ⟨x0, x1, x2, x3, x4, x5, x6, x7⟩ := SC.out _ B5.out; clear hB_)
                go_ret
                exact ⟨rfl, BW.out _ B5.out⟩
             ·obtain rfl : i = al.length := by omega
              have he := HSP.out
              rw [List.drop_length, spent_nil] at he
              clear HSP
              cases he
           | true =>
            rw [hsp, if_neg (by decide)] at hbr
            have HSP := Aside0.mk (show spentFrom js 0 (al.drop 0) = true by rw [List.drop_zero]; exact hsp)
            clear hsp
            go_wp2_with fail
            go_loopw [12] (fun v12 wr => ∃ i : Nat, i ≤ al.length ∧ v12 = .int .i64 i ∧ Aside0 (spentFrom js i (al.drop i) = true) ∧ Aside0 (Below w1.heap.size w1 wr)) (fun v12 _ => al.length - (intOf v12).toNat)
            case atStart => exact ⟨0, Nat.zero_le _, rfl, HSP, B9⟩
            case round =>
             clear HSP B9
             obtain ⟨i, hi, rfl, HSP, BL⟩ := hrel
             obtain ⟨x0, x1, x2, x3, x4, x5, x6, x7⟩ := SC.out _ BL.out
             by_cases hil : i < al.length
             ·have g0 : (0 : Int) ≤ (i : Int) := by omega
              obtain ⟨ad, rfl, -, -, -, -, y4, y5⟩ := at_T36 (TR.out _ BL.out).r4 (i : Int) g0 (by omega)
              rw [Int.toNat_natCast, rd_alloc_at al i hil] at y4 y5
              have hst := spent_step js al i hil
              rw [HSP.out] at hst
              obtain ⟨s1, s2, hss⟩ : ∃ s1 s2, addR 0 (amts 4 (i : Int) js) = (s1, s2) := ⟨_, _, rfl⟩
              have SM := Aside0.mk (SUM.out 4 (i : Int) hfew wr BL.out s1 (s2 == 0) (by rw [hss]))
              rw [hss] at hst
              obtain ⟨q, hq⟩ : ∃ q, al[i].f5 = q := ⟨_, rfl⟩
              rw [hq] at hst y5
              have Y := Aside0.mk y5
              clear hq hss HSP y4 y5
              have hok : s2 = 0 ∧ s1 ≤ q := of_decide_eq_true ((Bool.and_eq_true _ _).mp hst.symm).1
              have HS2 := Aside0.mk (show spentFrom js (i + 1) (al.drop (i + 1)) = true by rw [decide_eq_true hok, Bool.true_and] at hst; exact hst.symm)
              clear hst
              obtain ⟨e2, e1⟩ := hok
              have d1 : decide (q < s1) = false := decide_eq_false (by omega)
              subst e2
              go_wp2_with (go_at_call 32; refine SM.out.mono ?_; rintro e w5 ⟨rfl, hB_⟩; have yc := pw_cell_below hB_ Y.out; have B5 := Aside0.mk (BL.out.trans (hB_.mono BL.out.size)); obtain ⟨x0, x1, x2, x3, x4, x5, x6, x7⟩ := SC.out _ B5.out; clear hB_)
              first
               | exact ⟨⟨i + 1, hil, by go_num, HS2, B5⟩, by simp [intOf]; omega⟩
               | (go_roundw; (case rel => exact ⟨i + 1, hil, by go_num, HS2, B5⟩); (case measure => simp [intOf]; omega))
             ·obtain rfl : i = al.length := by omega
              have he := HSP.out
              rw [List.drop_length, spent_nil] at he
              clear HSP
              clear he
              have B10 := BL
              clear BL
              cases hsp : js.all covOk with
              | false =>
               have hrr : r = 7 := by rw [hsp, if_pos rfl] at hbr; exact hbr.symm
               subst hrr
               have HSP := Aside0.mk (show (js.drop 0).all covOk = false by rw [List.drop_zero]; exact hsp)
               clear hbr hsp
               go_wp2_with fail
               go_loopw [15] (fun v15 wr => ∃ i : Nat, i ≤ js.length ∧ v15 = .int .i64 i ∧ Aside0 ((js.drop i).all covOk = false) ∧ Aside0 (Below w1.heap.size w1 wr)) (fun v15 _ => js.length - (intOf v15).toNat)
               case atStart => exact ⟨0, Nat.zero_le _, rfl, HSP, B10⟩
               case round =>
                clear HSP B10
                obtain ⟨i, hi, rfl, HSP, BL⟩ := hrel
                obtain ⟨x0, x1, x2, x3, x4, x5, x6, x7⟩ := SC.out _ BL.out
                by_cases hil : i < js.length
                ·have g0 : (0 : Int) ≤ (i : Int) := by omega
                 obtain ⟨ad, A11, c11, rfl, y0, y1, y2, y3, y4, y5, y6, y7, y8, y9, y10, y11, l11, g11⟩ := at_T50 (TR.out _ BL.out).r6 (i : Int) g0 (by omega)
                 rw [Int.toNat_natCast, rd_job_at js i hil] at y0 y1 y2 y3 y4 y5 y6 y7 y8 y9 y10 y11
                 rw [rd_job_at js i hil] at l11 g11
                 have hst := cov_step js i hil
                 have h16 := hfew.2 _ (List.getElem_mem hil)
                 rw [HSP.out] at hst
                 obtain ⟨j, hj⟩ : ∃ j, js[i] = j := ⟨_, rfl⟩
                 rw [hj] at hst h16 l11 g11 y0 y1 y2 y3 y4 y5 y6 y7 y8 y9 y10 y11
                 have G11 := Aside0.mk g11
                 have HSTT := Aside0.mk hst
                 clear hj HSP g11 hst
                 go_upto_region 30 with fail
                 have hBx : Below wr.heap.size wr (wr.alloc (.cells #[.int .i64 j.f0, .int .i64 j.f1, .int .i64 j.f2, .int .i64 j.f3, .int .i64 j.f4, .int .i64 j.f5, .int .i64 j.f6, .int .i64 j.f7, .int .i64 j.f8, .int .i64 j.f9, .int .i64 j.f10, .slice A11 j.f11.length c11] 50)) := Below.alloc (Below.refl _ _) (Nat.le_refl _) _
                 have HX := Aside0.mk (blk_new wr (.cells #[.int .i64 j.f0, .int .i64 j.f1, .int .i64 j.f2, .int .i64 j.f3, .int .i64 j.f4, .int .i64 j.f5, .int .i64 j.f6, .int .i64 j.f7, .int .i64 j.f8, .int .i64 j.f9, .int .i64 j.f10, .slice A11 j.f11.length c11] 50))
                 have BX := Aside0.mk (BL.out.trans (hBx.mono BL.out.size))
                 have G12 := Aside0.mk (Kd.C_below G11.out hBx)
                 have hgl : wr.heap.size < (wr.alloc (.cells #[.int .i64 j.f0, .int .i64 j.f1, .int .i64 j.f2, .int .i64 j.f3, .int .i64 j.f4, .int .i64 j.f5, .int .i64 j.f6, .int .i64 j.f7, .int .i64 j.f8, .int .i64 j.f9, .int .i64 j.f10, .slice A11 j.f11.length c11] 50)).heap.size := by simp
                 clear hBx y0 y1 y2 y3 y4 y5 y6 y7 y8 y9 y10 y11 G11
                 generalize hwx : wr.alloc (.cells #[.int .i64 j.f0, .int .i64 j.f1, .int .i64 j.f2, .int .i64 j.f3, .int .i64 j.f4, .int .i64 j.f5, .int .i64 j.f6, .int .i64 j.f7, .int .i64 j.f8, .int .i64 j.f9, .int .i64 j.f10, .slice A11 j.f11.length c11] 50) = wx at *
                 generalize hgx : wr.heap.size = gx at *
                 clear hwx hgx x0 x1 x2 x3 x4 x5 x6 x7
                 have XC := Aside0.mk (fun wq (hb : Below wx.heap.size wx wq) => (show wq.cell? ⟨gx, 2, none⟩ = some (.int .i64 j.f2) ∧ wq.cell? ⟨gx, 3, none⟩ = some (.int .i64 j.f3) ∧ wq.cell? ⟨gx, 6, none⟩ = some (.int .i64 j.f6) ∧ wq.cell? ⟨gx, 7, none⟩ = some (.int .i64 j.f7) ∧ wq.cell? ⟨gx, 11, none⟩ = some (.slice A11 j.f11.length c11) from by
                  have := (hb.block gx hgl).trans HX.out
                  refine ⟨?_, ?_, ?_, ?_, ?_⟩ <;> (rw [blk_cell this]; rfl)))
                 obtain ⟨z2, z3, z6, z7, z11⟩ := XC.out _ (Below.refl _ _)
                 have hst := HSTT.out
                 clear HSTT
                 by_cases h3 : j.f7 = 3
                 ·obtain ⟨m1, m2, hmm⟩ : ∃ m1 m2, costR j.f2 j.f3 j.f6 = (m1, m2) := ⟨_, _, rfl⟩
                  obtain ⟨t1, t2, htt⟩ : ∃ t1 t2, addR 0 (XSnd.sums j.f11) = (t1, t2) := ⟨_, _, rfl⟩
                  have COST := Aside0.mk (fun wq => prebendref01_Cost.calls j.f2 j.f3 j.f6 m1 m2 wq (by rw [rcost_f, hmm]))
                  obtain ⟨k9, q9⟩ := (rdtotal_ev j.f11 h16).ex
                  rw [htt] at q9
                  have TOTL := Aside0.mk (fun wq (hb : Below wx.heap.size wx wq) => prebendref11_Total.calls k9 A11 c11 j.f11 t1 t2 wq (Kd.C_below G12.out hb) l11 q9)
                  clear q9
                  by_cases hok : m2 = 0 ∧ t2 = 0 ∧ m1 = t1
                  ·have HS2 := Aside0.mk (show (js.drop (i + 1)).all covOk = false by rw [(cov_three j h3).2 (by rw [hmm, htt]; exact hok), Bool.true_and] at hst; exact hst.symm)
                   obtain ⟨o1, o2, o3⟩ := hok
                   subst o1
                   subst o2
                   subst o3
                   clear hst hmm htt
                   go_wp2_with (first | (go_at_call 33; refine (COST.out _).mono ?_; rintro e w5 ⟨rfl, hB5⟩; have B5 := Aside0.mk (BX.out.trans (hB5.mono BX.out.size)); obtain ⟨z2, z3, z6, z7, z11⟩ := XC.out _ hB5) | (go_at_call 34; refine (TOTL.out _ hB5).mono ?_; rintro e w6 ⟨rfl, hB_⟩; have BF := Aside0.mk (B5.out.trans (hB_.mono B5.out.size)); clear hB_))
                   first
                    | exact ⟨⟨i + 1, hil, by go_num, HS2, BF⟩, by simp [intOf]; omega⟩
                    | (go_roundw; (case rel => exact ⟨i + 1, hil, by go_num, HS2, BF⟩); (case measure => simp [intOf]; omega))
                  ·clear hst hmm htt
                   by_cases o1 : m2 = 0
                   ·subst o1
                    by_cases o2 : t2 = 0
                    ·subst o2
                     have o3 : (m1 == t1) = false := by simp; exact fun h => hok ⟨rfl, rfl, h⟩
                     clear hok
                     go_wp2_with (first | (go_at_call 33; refine (COST.out _).mono ?_; rintro e w5 ⟨rfl, hB5⟩; have B5 := Aside0.mk (BX.out.trans (hB5.mono BX.out.size)); obtain ⟨z2, z3, z6, z7, z11⟩ := XC.out _ hB5) | (go_at_call 34; refine (TOTL.out _ hB5).mono ?_; rintro e w6 ⟨rfl, hB_⟩; have BF := Aside0.mk (B5.out.trans (hB_.mono B5.out.size)); clear hB_))
                     go_ret
                     exact ⟨rfl, BW.out _ BF.out⟩
                    ·have o2b : (t2 == 0) = false := by simpa using o2
                     clear hok
                     go_wp2_with (first | (go_at_call 33; refine (COST.out _).mono ?_; rintro e w5 ⟨rfl, hB5⟩; have B5 := Aside0.mk (BX.out.trans (hB5.mono BX.out.size)); obtain ⟨z2, z3, z6, z7, z11⟩ := XC.out _ hB5) | (go_at_call 34; refine (TOTL.out _ hB5).mono ?_; rintro e w6 ⟨rfl, hB_⟩; have BF := Aside0.mk (B5.out.trans (hB_.mono B5.out.size)); clear hB_))
                     go_ret
                     exact ⟨rfl, BW.out _ BF.out⟩
                   ·have o1b : (m2 == 0) = false := by simpa using o1
                    clear hok
                    go_wp2_with (first | (go_at_call 33; refine (COST.out _).mono ?_; rintro e w5 ⟨rfl, hB5⟩; have B5 := Aside0.mk (BX.out.trans (hB5.mono BX.out.size)); obtain ⟨z2, z3, z6, z7, z11⟩ := XC.out _ hB5) | (go_at_call 34; refine (TOTL.out _ hB5).mono ?_; rintro e w6 ⟨rfl, hB_⟩; have BF := Aside0.mk (B5.out.trans (hB_.mono B5.out.size)); clear hB_))
                    go_ret
                    exact ⟨rfl, BW.out _ BF.out⟩
                 ·have h3b : (j.f7 == 3) = false := by simpa using h3
                  have HS2 := Aside0.mk (show (js.drop (i + 1)).all covOk = false by rw [cov_other j h3, Bool.true_and] at hst; exact hst.symm)
                  clear hst
                  go_wp2_with fail
                  first
                   | exact ⟨⟨i + 1, hil, by go_num, HS2, BX⟩, by simp [intOf]; omega⟩
                   | (go_roundw; (case rel => exact ⟨i + 1, hil, by go_num, HS2, BX⟩); (case measure => simp [intOf]; omega))
                ·obtain rfl : i = js.length := by omega
                 have he := HSP.out
                 rw [List.drop_length] at he
                 clear HSP
                 cases he
              | true =>
               rw [hsp, if_neg (by decide)] at hbr
               have HSP := Aside0.mk (show (js.drop 0).all covOk = true by rw [List.drop_zero]; exact hsp)
               clear hsp
               go_wp2_with fail
               go_loopw [15] (fun v15 wr => ∃ i : Nat, i ≤ js.length ∧ v15 = .int .i64 i ∧ Aside0 ((js.drop i).all covOk = true) ∧ Aside0 (Below w1.heap.size w1 wr)) (fun v15 _ => js.length - (intOf v15).toNat)
               case atStart => exact ⟨0, Nat.zero_le _, rfl, HSP, B10⟩
               case round =>
                clear HSP B10
                obtain ⟨i, hi, rfl, HSP, BL⟩ := hrel
                obtain ⟨x0, x1, x2, x3, x4, x5, x6, x7⟩ := SC.out _ BL.out
                by_cases hil : i < js.length
                ·have g0 : (0 : Int) ≤ (i : Int) := by omega
                 obtain ⟨ad, A11, c11, rfl, y0, y1, y2, y3, y4, y5, y6, y7, y8, y9, y10, y11, l11, g11⟩ := at_T50 (TR.out _ BL.out).r6 (i : Int) g0 (by omega)
                 rw [Int.toNat_natCast, rd_job_at js i hil] at y0 y1 y2 y3 y4 y5 y6 y7 y8 y9 y10 y11
                 rw [rd_job_at js i hil] at l11 g11
                 have hst := cov_step js i hil
                 have h16 := hfew.2 _ (List.getElem_mem hil)
                 rw [HSP.out] at hst
                 obtain ⟨j, hj⟩ : ∃ j, js[i] = j := ⟨_, rfl⟩
                 rw [hj] at hst h16 l11 g11 y0 y1 y2 y3 y4 y5 y6 y7 y8 y9 y10 y11
                 have G11 := Aside0.mk g11
                 have HSTT := Aside0.mk hst
                 clear hj HSP g11 hst
                 go_upto_region 30 with fail
                 have hBx : Below wr.heap.size wr (wr.alloc (.cells #[.int .i64 j.f0, .int .i64 j.f1, .int .i64 j.f2, .int .i64 j.f3, .int .i64 j.f4, .int .i64 j.f5, .int .i64 j.f6, .int .i64 j.f7, .int .i64 j.f8, .int .i64 j.f9, .int .i64 j.f10, .slice A11 j.f11.length c11] 50)) := Below.alloc (Below.refl _ _) (Nat.le_refl _) _
                 have HX := Aside0.mk (blk_new wr (.cells #[.int .i64 j.f0, .int .i64 j.f1, .int .i64 j.f2, .int .i64 j.f3, .int .i64 j.f4, .int .i64 j.f5, .int .i64 j.f6, .int .i64 j.f7, .int .i64 j.f8, .int .i64 j.f9, .int .i64 j.f10, .slice A11 j.f11.length c11] 50))
                 have BX := Aside0.mk (BL.out.trans (hBx.mono BL.out.size))
                 have G12 := Aside0.mk (Kd.C_below G11.out hBx)
                 have hgl : wr.heap.size < (wr.alloc (.cells #[.int .i64 j.f0, .int .i64 j.f1, .int .i64 j.f2, .int .i64 j.f3, .int .i64 j.f4, .int .i64 j.f5, .int .i64 j.f6, .int .i64 j.f7, .int .i64 j.f8, .int .i64 j.f9, .int .i64 j.f10, .slice A11 j.f11.length c11] 50)).heap.size := by simp
                 clear hBx y0 y1 y2 y3 y4 y5 y6 y7 y8 y9 y10 y11 G11
                 generalize hwx : wr.alloc (.cells #[.int .i64 j.f0, .int .i64 j.f1, .int .i64 j.f2, .int .i64 j.f3, .int .i64 j.f4, .int .i64 j.f5, .int .i64 j.f6, .int .i64 j.f7, .int .i64 j.f8, .int .i64 j.f9, .int .i64 j.f10, .slice A11 j.f11.length c11] 50) = wx at *
                 generalize hgx : wr.heap.size = gx at *
                 clear hwx hgx x0 x1 x2 x3 x4 x5 x6 x7
                 have XC := Aside0.mk (fun wq (hb : Below wx.heap.size wx wq) => (show wq.cell? ⟨gx, 2, none⟩ = some (.int .i64 j.f2) ∧ wq.cell? ⟨gx, 3, none⟩ = some (.int .i64 j.f3) ∧ wq.cell? ⟨gx, 6, none⟩ = some (.int .i64 j.f6) ∧ wq.cell? ⟨gx, 7, none⟩ = some (.int .i64 j.f7) ∧ wq.cell? ⟨gx, 11, none⟩ = some (.slice A11 j.f11.length c11) from by
                  have := (hb.block gx hgl).trans HX.out
                  refine ⟨?_, ?_, ?_, ?_, ?_⟩ <;> (rw [blk_cell this]; rfl)))
                 obtain ⟨z2, z3, z6, z7, z11⟩ := XC.out _ (Below.refl _ _)
                 have hst := HSTT.out
                 clear HSTT
                 by_cases h3 : j.f7 = 3
                 ·obtain ⟨m1, m2, hmm⟩ : ∃ m1 m2, costR j.f2 j.f3 j.f6 = (m1, m2) := ⟨_, _, rfl⟩
                  obtain ⟨t1, t2, htt⟩ : ∃ t1 t2, addR 0 (XSnd.sums j.f11) = (t1, t2) := ⟨_, _, rfl⟩
                  have COST := Aside0.mk (fun wq => prebendref01_Cost.calls j.f2 j.f3 j.f6 m1 m2 wq (by rw [rcost_f, hmm]))
                  obtain ⟨k9, q9⟩ := (rdtotal_ev j.f11 h16).ex
                  rw [htt] at q9
                  have TOTL := Aside0.mk (fun wq (hb : Below wx.heap.size wx wq) => prebendref11_Total.calls k9 A11 c11 j.f11 t1 t2 wq (Kd.C_below G12.out hb) l11 q9)
                  clear q9
                  have hok : (costR j.f2 j.f3 j.f6).2 = 0 ∧ (addR 0 (XSnd.sums j.f11)).2 = 0 ∧ (costR j.f2 j.f3 j.f6).1 = (addR 0 (XSnd.sums j.f11)).1 := (cov_three j h3).1 ((Bool.and_eq_true _ _).mp hst.symm).1
                  have HS2 := Aside0.mk (show (js.drop (i + 1)).all covOk = true from ((Bool.and_eq_true _ _).mp hst.symm).2)
                  rw [hmm, htt] at hok
                  obtain ⟨o1, o2, o3⟩ := hok
                  have o1 : m2 = 0 := o1
                  have o2 : t2 = 0 := o2
                  have o3 : m1 = t1 := o3
                  subst o1
                  subst o2
                  subst o3
                  clear hst hmm htt
                  go_wp2_with (first | (go_at_call 33; refine (COST.out _).mono ?_; rintro e w5 ⟨rfl, hB5⟩; have B5 := Aside0.mk (BX.out.trans (hB5.mono BX.out.size)); obtain ⟨z2, z3, z6, z7, z11⟩ := XC.out _ hB5) | (go_at_call 34; refine (TOTL.out _ hB5).mono ?_; rintro e w6 ⟨rfl, hB_⟩; have BF := Aside0.mk (B5.out.trans (hB_.mono B5.out.size)); clear hB_))
                  first
                   | exact ⟨⟨i + 1, hil, by go_num, HS2, BF⟩, by simp [intOf]; omega⟩
                   | (go_roundw; (case rel => exact ⟨i + 1, hil, by go_num, HS2, BF⟩); (case measure => simp [intOf]; omega))
                 ·have h3b : (j.f7 == 3) = false := by simpa using h3
                  have HS2 := Aside0.mk (show (js.drop (i + 1)).all covOk = true from ((Bool.and_eq_true _ _).mp hst.symm).2)
                  clear hst
                  go_wp2_with fail
                  first
                   | exact ⟨⟨i + 1, hil, by go_num, HS2, BX⟩, by simp [intOf]; omega⟩
                   | (go_roundw; (case rel => exact ⟨i + 1, hil, by go_num, HS2, BX⟩); (case measure => simp [intOf]; omega))
                ·obtain rfl : i = js.length := by omega
                 have he := HSP.out
                 rw [List.drop_length] at he
                 clear HSP
                 clear he
                 have B11 := BL
                 clear BL
                 have hapd := ap_zero nodes js
                 cases hsp : apFrom nodes js 0 with
                 | false =>
                  have hrr : r = 8 := by rw [hapd, hsp, if_pos rfl] at hbr; exact hbr.symm
                  subst hrr
                  have HSP := Aside0.mk hsp
                  clear hbr hsp hapd
                  go_wp2_with fail
                  go_loopw [21] (fun v21 wr => ∃ n : Nat, n ≤ 32 ∧ v21 = .int .i64 n ∧ Aside0 (apFrom nodes js n = false) ∧ Aside0 (Below w1.heap.size w1 wr)) (fun v21 _ => 32 - (intOf v21).toNat)
                  case atStart => exact ⟨0, Nat.zero_le _, rfl, HSP, B11⟩
                  case round =>
                   clear HSP B11
                   obtain ⟨n, hn, rfl, HSP, BL⟩ := hrel
                   by_cases hn32 : n < 32
                   ·have g0 : (0 : Int) ≤ (n : Int) := by omega
                    have g1 : decide ((n : Int) < 32) = true := decide_eq_true (by omega)
                    obtain ⟨x0, x1, x2, x3, x4, x5, x6, x7⟩ := SC.out _ BL.out
                    go_wp2_with fail
                    go_loopw [22, 23] (fun v22 v23 wi => ∃ i : Nat, i ≤ js.length ∧ v23 = .int .i64 i ∧ v22 = .int .i64 (cnt n (js.take i) : Nat) ∧ Aside0 (Below w1.heap.size w1 wi)) (fun _ v23 _ => js.length - (intOf v23).toNat)
                    case atStart => exact ⟨0, Nat.zero_le _, rfl, by rw [List.take_zero]; exact congrArg (Value.int .i64) (by with_unfolding_all rfl), BL⟩
                    case round =>
                     clear BL x0 x1 x2 x3 x4 x5 x6 x7
                     obtain ⟨i, hi, rfl, rfl, BI⟩ := hrel
                     obtain ⟨x0, x1, x2, x3, x4, x5, x6, x7⟩ := SC.out _ BI.out
                     by_cases hil : i < js.length
                     ·have h0 : (0 : Int) ≤ (i : Int) := by omega
                      obtain ⟨ad, A11, c11, rfl, -, -, -, -, -, -, -, y7, -, y9, -, -, -, -⟩ := at_T50 (TR.out _ BI.out).r6 (i : Int) h0 (by omega)
                      rw [Int.toNat_natCast, rd_job_at js i hil] at y7 y9
                      have hct := cnt_take n js i hil
                      have hcl := cnt_le n (js.take i)
                      have hmk := hmask _ (List.getElem_mem hil)
                      rw [List.length_take] at hcl
                      obtain ⟨j, hj⟩ : ∃ j, js[i] = j := ⟨_, rfl⟩
                      rw [hj] at hct hmk y7 y9
                      obtain ⟨c0, hc0⟩ : ∃ c0, cnt n (js.take i) = c0 := ⟨_, rfl⟩
                      rw [hc0] at hct hcl ⊢
                      clear hj hc0
                      have hw : wrap64 ((c0 : Int) + 1) = ((c0 + 1 : Nat) : Int) := by unfold wrap64; omega
                      by_cases h3 : j.f7 = 3
                      ·have hm := hmk h3
                       have HAS := Aside0.mk (fun wq => prebendref14_Has.calls j.f9 (n : Int) (decide (j.f9.toNat / 2 ^ n % 2 = 1)) wq (has_f j.f9 j.f9.toNat n (by omega) hn32))
                       have HW := Aside0.mk hw
                       obtain ⟨bt, hbt⟩ : ∃ bt, decide (j.f9.toNat / 2 ^ n % 2 = 1) = bt := ⟨_, rfl⟩
                       rw [← Nat.testBit_eq_decide_div_mod_eq] at hbt
                       rw [← Nat.testBit_eq_decide_div_mod_eq, hbt] at HAS
                       rw [hbt] at hct
                       clear hmk hbt hm hw
                       cases bt with
                       | true =>
                        rw [if_pos ⟨h3, rfl⟩] at hct
                        have HCT := Aside0.mk hct
                        clear hct
                        go_wp2_with (go_at_call 35; refine (HAS.out _).mono ?_; rintro e w5 ⟨rfl, hD_⟩; have B5 := Aside0.mk (BI.out.trans ((Drawn0.below hD_).mono BI.out.size)); clear hD_)
                        first
                         | exact ⟨⟨i + 1, hil, by go_num, by rw [HCT.out]; exact congrArg (Value.int .i64) (by omega), B5⟩, by simp [intOf]; omega⟩
                         | (go_roundw; (case rel => exact ⟨i + 1, hil, by go_num, by rw [HCT.out]; exact congrArg (Value.int .i64) (by omega), B5⟩); (case measure => simp [intOf]; omega))
                       | false =>
                        rw [if_neg (fun h => absurd h.2 (by decide)), Nat.add_zero] at hct
                        have HCT := Aside0.mk hct
                        clear hct
                        go_wp2_with (go_at_call 35; refine (HAS.out _).mono ?_; rintro e w5 ⟨rfl, hD_⟩; have B5 := Aside0.mk (BI.out.trans ((Drawn0.below hD_).mono BI.out.size)); clear hD_)
                        first
                         | exact ⟨⟨i + 1, hil, by go_num, by rw [HCT.out]; rfl, B5⟩, by simp [intOf]; omega⟩
                         | (go_roundw; (case rel => exact ⟨i + 1, hil, by go_num, by rw [HCT.out]; rfl, B5⟩); (case measure => simp [intOf]; omega))
                      ·have h3b : (j.f7 == 3) = false := by simpa using h3
                       rw [if_neg (fun h => h3 h.1), Nat.add_zero] at hct
                       have HCT := Aside0.mk hct
                       clear hct hmk hw
                       go_wp2_with fail
                       first
                        | exact ⟨⟨i + 1, hil, by go_num, by rw [HCT.out]; rfl, BI⟩, by simp [intOf]; omega⟩
                        | (go_roundw; (case rel => exact ⟨i + 1, hil, by go_num, by rw [HCT.out]; rfl, BI⟩); (case measure => simp [intOf]; omega))
                     ·obtain rfl : i = js.length := by omega
                      rw [List.take_length]
                      have hcl := cnt_le n js
                      have hst := ap_step nodes js n hn32
                      rw [HSP.out, nodeOk_eq] at hst
                      obtain ⟨cn, hcn⟩ : ∃ cn, cnt n js = cn := ⟨_, rfl⟩
                      rw [hcn] at hst hcl ⊢
                      clear hcn HSP
                      by_cases hok : cn ≤ if (n : Int) < nodes then 1 else 0
                      ·have HS2 := Aside0.mk (show apFrom nodes js (n + 1) = false by rw [decide_eq_true hok, Bool.true_and] at hst; exact hst.symm)
                       clear hst
                       by_cases hnn : (n : Int) < nodes
                       ·rw [if_pos hnn] at hok
                        have d1 : ¬ 1 < cn := by omega
                        have d2 : decide ((1 : Int) < (cn : Int)) = false := decide_eq_false (by omega)
                        have d3 : decide (nodes ≤ (n : Int)) = false := decide_eq_false (by omega)
                        by_cases d4 : 0 < cn
                        ·have d5 : decide ((0 : Int) < (cn : Int)) = true := decide_eq_true (by omega)
                         go_wp2_with fail
                         first
                          | exact ⟨⟨n + 1, by omega, by go_num, HS2, BI⟩, by simp [intOf]; omega⟩
                          | (go_roundw; (case rel => exact ⟨n + 1, by omega, by go_num, HS2, BI⟩); (case measure => simp [intOf]; omega))
                        ·have d5 : decide ((0 : Int) < (cn : Int)) = false := decide_eq_false (by omega)
                         go_wp2_with fail
                         first
                          | exact ⟨⟨n + 1, by omega, by go_num, HS2, BI⟩, by simp [intOf]; omega⟩
                          | (go_roundw; (case rel => exact ⟨n + 1, by omega, by go_num, HS2, BI⟩); (case measure => simp [intOf]; omega))
                       ·rw [if_neg hnn] at hok
                        have d1 : ¬ 1 < cn := by omega
                        have d2 : decide ((1 : Int) < (cn : Int)) = false := decide_eq_false (by omega)
                        have d4 : ¬ 0 < cn := by omega
                        have d5 : decide ((0 : Int) < (cn : Int)) = false := decide_eq_false (by omega)
                        go_wp2_with fail
                        first
                         | exact ⟨⟨n + 1, by omega, by go_num, HS2, BI⟩, by simp [intOf]; omega⟩
                         | (go_roundw; (case rel => exact ⟨n + 1, by omega, by go_num, HS2, BI⟩); (case measure => simp [intOf]; omega))
                      ·clear hst
                       by_cases d1 : 1 < cn
                       ·have d2 : decide ((1 : Int) < (cn : Int)) = true := decide_eq_true (by omega)
                        go_wp2_with fail
                        go_ret
                        exact ⟨rfl, BW.out _ BI.out⟩
                       ·have d2 : decide ((1 : Int) < (cn : Int)) = false := decide_eq_false (by omega)
                        by_cases hnn : (n : Int) < nodes
                        ·rw [if_pos hnn] at hok
                         omega
                        ·rw [if_neg hnn] at hok
                         have d4 : 0 < cn := by omega
                         have d5 : decide ((0 : Int) < (cn : Int)) = true := decide_eq_true (by omega)
                         have d3 : decide (nodes ≤ (n : Int)) = true := decide_eq_true (by omega)
                         go_wp2_with fail
                         go_ret
                         exact ⟨rfl, BW.out _ BI.out⟩
                   ·obtain rfl : n = 32 := by omega
                    have he := HSP.out
                    rw [ap_end] at he
                    clear HSP
                    cases he
                 | true =>
                  rw [hapd, hsp, if_neg (by decide)] at hbr
                  have HSP := Aside0.mk hsp
                  clear hsp hapd
                  go_wp2_with fail
                  go_loopw [21] (fun v21 wr => ∃ n : Nat, n ≤ 32 ∧ v21 = .int .i64 n ∧ Aside0 (apFrom nodes js n = true) ∧ Aside0 (Below w1.heap.size w1 wr)) (fun v21 _ => 32 - (intOf v21).toNat)
                  case atStart => exact ⟨0, Nat.zero_le _, rfl, HSP, B11⟩
                  case round =>
                   clear HSP B11
                   obtain ⟨n, hn, rfl, HSP, BL⟩ := hrel
                   by_cases hn32 : n < 32
                   ·have g0 : (0 : Int) ≤ (n : Int) := by omega
                    have g1 : decide ((n : Int) < 32) = true := decide_eq_true (by omega)
                    obtain ⟨x0, x1, x2, x3, x4, x5, x6, x7⟩ := SC.out _ BL.out
                    go_wp2_with fail
                    go_loopw [22, 23] (fun v22 v23 wi => ∃ i : Nat, i ≤ js.length ∧ v23 = .int .i64 i ∧ v22 = .int .i64 (cnt n (js.take i) : Nat) ∧ Aside0 (Below w1.heap.size w1 wi)) (fun _ v23 _ => js.length - (intOf v23).toNat)
                    case atStart => exact ⟨0, Nat.zero_le _, rfl, by rw [List.take_zero]; exact congrArg (Value.int .i64) (by with_unfolding_all rfl), BL⟩
                    case round =>
                     clear BL x0 x1 x2 x3 x4 x5 x6 x7
                     obtain ⟨i, hi, rfl, rfl, BI⟩ := hrel
                     obtain ⟨x0, x1, x2, x3, x4, x5, x6, x7⟩ := SC.out _ BI.out
                     by_cases hil : i < js.length
                     ·have h0 : (0 : Int) ≤ (i : Int) := by omega
                      obtain ⟨ad, A11, c11, rfl, -, -, -, -, -, -, -, y7, -, y9, -, -, -, -⟩ := at_T50 (TR.out _ BI.out).r6 (i : Int) h0 (by omega)
                      rw [Int.toNat_natCast, rd_job_at js i hil] at y7 y9
                      have hct := cnt_take n js i hil
                      have hcl := cnt_le n (js.take i)
                      have hmk := hmask _ (List.getElem_mem hil)
                      rw [List.length_take] at hcl
                      obtain ⟨j, hj⟩ : ∃ j, js[i] = j := ⟨_, rfl⟩
                      rw [hj] at hct hmk y7 y9
                      obtain ⟨c0, hc0⟩ : ∃ c0, cnt n (js.take i) = c0 := ⟨_, rfl⟩
                      rw [hc0] at hct hcl ⊢
                      clear hj hc0
                      have hw : wrap64 ((c0 : Int) + 1) = ((c0 + 1 : Nat) : Int) := by unfold wrap64; omega
                      by_cases h3 : j.f7 = 3
                      ·have hm := hmk h3
                       have HAS := Aside0.mk (fun wq => prebendref14_Has.calls j.f9 (n : Int) (decide (j.f9.toNat / 2 ^ n % 2 = 1)) wq (has_f j.f9 j.f9.toNat n (by omega) hn32))
                       have HW := Aside0.mk hw
                       obtain ⟨bt, hbt⟩ : ∃ bt, decide (j.f9.toNat / 2 ^ n % 2 = 1) = bt := ⟨_, rfl⟩
                       rw [← Nat.testBit_eq_decide_div_mod_eq] at hbt
                       rw [← Nat.testBit_eq_decide_div_mod_eq, hbt] at HAS
                       rw [hbt] at hct
                       clear hmk hbt hm hw
                       cases bt with
                       | true =>
                        rw [if_pos ⟨h3, rfl⟩] at hct
                        have HCT := Aside0.mk hct
                        clear hct
                        go_wp2_with (go_at_call 35; refine (HAS.out _).mono ?_; rintro e w5 ⟨rfl, hD_⟩; have B5 := Aside0.mk (BI.out.trans ((Drawn0.below hD_).mono BI.out.size)); clear hD_)
                        first
                         | exact ⟨⟨i + 1, hil, by go_num, by rw [HCT.out]; exact congrArg (Value.int .i64) (by omega), B5⟩, by simp [intOf]; omega⟩
                         | (go_roundw; (case rel => exact ⟨i + 1, hil, by go_num, by rw [HCT.out]; exact congrArg (Value.int .i64) (by omega), B5⟩); (case measure => simp [intOf]; omega))
                       | false =>
                        rw [if_neg (fun h => absurd h.2 (by decide)), Nat.add_zero] at hct
                        have HCT := Aside0.mk hct
                        clear hct
                        go_wp2_with (go_at_call 35; refine (HAS.out _).mono ?_; rintro e w5 ⟨rfl, hD_⟩; have B5 := Aside0.mk (BI.out.trans ((Drawn0.below hD_).mono BI.out.size)); clear hD_)
                        first
                         | exact ⟨⟨i + 1, hil, by go_num, by rw [HCT.out]; rfl, B5⟩, by simp [intOf]; omega⟩
                         | (go_roundw; (case rel => exact ⟨i + 1, hil, by go_num, by rw [HCT.out]; rfl, B5⟩); (case measure => simp [intOf]; omega))
                      ·have h3b : (j.f7 == 3) = false := by simpa using h3
                       rw [if_neg (fun h => h3 h.1), Nat.add_zero] at hct
                       have HCT := Aside0.mk hct
                       clear hct hmk hw
                       go_wp2_with fail
                       first
                        | exact ⟨⟨i + 1, hil, by go_num, by rw [HCT.out]; rfl, BI⟩, by simp [intOf]; omega⟩
                        | (go_roundw; (case rel => exact ⟨i + 1, hil, by go_num, by rw [HCT.out]; rfl, BI⟩); (case measure => simp [intOf]; omega))
                     ·obtain rfl : i = js.length := by omega
                      rw [List.take_length]
                      have hcl := cnt_le n js
                      have hst := ap_step nodes js n hn32
                      rw [HSP.out, nodeOk_eq] at hst
                      obtain ⟨cn, hcn⟩ : ∃ cn, cnt n js = cn := ⟨_, rfl⟩
                      rw [hcn] at hst hcl ⊢
                      clear hcn HSP
                      have hok := of_decide_eq_true (((Bool.and_eq_true _ _).mp hst.symm).1)
                      have HS2 := Aside0.mk (show apFrom nodes js (n + 1) = true from ((Bool.and_eq_true _ _).mp hst.symm).2)
                      clear hst
                      by_cases hnn : (n : Int) < nodes
                      ·rw [if_pos hnn] at hok
                       have d1 : ¬ 1 < cn := by omega
                       have d2 : decide ((1 : Int) < (cn : Int)) = false := decide_eq_false (by omega)
                       have d3 : decide (nodes ≤ (n : Int)) = false := decide_eq_false (by omega)
                       by_cases d4 : 0 < cn
                       ·have d5 : decide ((0 : Int) < (cn : Int)) = true := decide_eq_true (by omega)
                        go_wp2_with fail
                        first
                         | exact ⟨⟨n + 1, by omega, by go_num, HS2, BI⟩, by simp [intOf]; omega⟩
                         | (go_roundw; (case rel => exact ⟨n + 1, by omega, by go_num, HS2, BI⟩); (case measure => simp [intOf]; omega))
                       ·have d5 : decide ((0 : Int) < (cn : Int)) = false := decide_eq_false (by omega)
                        go_wp2_with fail
                        first
                         | exact ⟨⟨n + 1, by omega, by go_num, HS2, BI⟩, by simp [intOf]; omega⟩
                         | (go_roundw; (case rel => exact ⟨n + 1, by omega, by go_num, HS2, BI⟩); (case measure => simp [intOf]; omega))
                      ·rw [if_neg hnn] at hok
                       have d1 : ¬ 1 < cn := by omega
                       have d2 : decide ((1 : Int) < (cn : Int)) = false := decide_eq_false (by omega)
                       have d4 : ¬ 0 < cn := by omega
                       have d5 : decide ((0 : Int) < (cn : Int)) = false := decide_eq_false (by omega)
                       go_wp2_with fail
                       first
                        | exact ⟨⟨n + 1, by omega, by go_num, HS2, BI⟩, by simp [intOf]; omega⟩
                        | (go_roundw; (case rel => exact ⟨n + 1, by omega, by go_num, HS2, BI⟩); (case measure => simp [intOf]; omega))
                   ·obtain rfl : n = 32 := by omega
                    have he := HSP.out
                    rw [ap_end] at he
                    clear HSP
                    clear he
                    obtain ⟨x0, x1, x2, x3, x4, x5, x6, x7⟩ := SC.out _ BL.out
                    obtain ⟨o, ho⟩ : ∃ o, overFrom fs al 0 fs = o := ⟨_, rfl⟩
                    rw [ho] at hbr OVER
                    clear ho
                    by_cases h9 : 0 ≤ o
                    ·rw [if_pos h9] at hbr
                     subst hbr
                     have d1 : decide (0 ≤ o) = true := decide_eq_true h9
                     go_wp2_with (go_at_call 36; refine (OVER.out _ BL.out).mono ?_; rintro e w5 ⟨rfl, hB_⟩; have B5 := Aside0.mk (BL.out.trans (hB_.mono BL.out.size)); clear hB_)
                     go_ret
                     exact ⟨rfl, BW.out _ B5.out⟩
                    ·rw [if_neg h9] at hbr
                     subst hbr
                     have d1 : decide (0 ≤ o) = false := decide_eq_false h9
                     go_wp2_with (go_at_call 36; refine (OVER.out _ BL.out).mono ?_; rintro e w5 ⟨rfl, hB_⟩; have B5 := Aside0.mk (BL.out.trans (hB_.mono BL.out.size)); clear hB_)
                     go_ret
                     exact ⟨rfl, BW.out _ B5.out⟩
end Go.Proofs.Ytijeigiilgapdaa.XRB
