/-
  prebendlaw05.alike by its walk.
-/
import Derived.Laws.CopyOwn
import Derived.ArgAppend
import Derived.Below
import Derived.BigQuiet
import Derived.Deep.AppendLies
import Derived.Deep.CutBlock
import Derived.Deep.DeepCutAuto
import Derived.Deep.Draws
import Derived.Deep.LoopGhost
import Derived.Deep.OwnRows
import Derived.Deep.QuietTactic
import Derived.Deep.RegionHeld3
import Derived.Deep.WholeRow
import Derived.KernelRfl
import Derived.Laws.BitsLemmas
import Derived.Laws.BytesArg
import Derived.Laws.IdiomCopy
import Derived.Laws.MakeOwn
import Derived.Laws.OwnMore
import Derived.Laws.Rows
import Derived.Laws.Slices
import Derived.Lib.AppendStr
import Derived.Lib.ConvBytes
import Derived.Lib.Hide
import Derived.Maps.AppendAt
import Derived.OrdersHeld
import Derived.Outline
import Derived.OwnWalk
import Derived.RowKit
import Derived.RowKit3
import Derived.Tactics
import Derived.WalkKit
import Derived.WideLaws
import Derived.Test.YtmpiljfpgfhljaaProg
import Derived.Test.YtmpiljfpgfhljaaWApart
import Derived.Test.YtmpiljfpgfhljaaWArr
import Derived.Test.YtmpiljfpgfhljaaWAt
import Derived.Test.YtmpiljfpgfhljaaWEqStruct
import Derived.Test.YtmpiljfpgfhljaaWFoot
import Derived.Test.YtmpiljfpgfhljaaWFootNe
import Derived.Test.YtmpiljfpgfhljaaWFour
import Derived.Test.YtmpiljfpgfhljaaWGuard
import Derived.Test.YtmpiljfpgfhljaaWInv
import Derived.Test.YtmpiljfpgfhljaaWInvWords
import Derived.Test.YtmpiljfpgfhljaaWKept
import Derived.Test.YtmpiljfpgfhljaaWLast
import Derived.Test.YtmpiljfpgfhljaaWMore
import Derived.Test.YtmpiljfpgfhljaaWN
import Derived.Test.YtmpiljfpgfhljaaWNEv
import Derived.Test.YtmpiljfpgfhljaaWQPut
import Derived.Test.YtmpiljfpgfhljaaWRepsOne
import Derived.Test.YtmpiljfpgfhljaaWShare
import Derived.Test.YtmpiljfpgfhljaaWTab
import Derived.Test.YtmpiljfpgfhljaaWWords
import Derived.Test.YtmpiljfpgfhljaaWZeros
import Derived.Test.YtmpiljfpgfhljaaXSlices

import Derived.Test.YtmpiljfpgfhljaaXRefL
namespace Go.Proofs.Ytmpiljfpgfhljaa.XRefD
open Go.RowKit Go.Proofs.YtmpiljfpgfhljaaW.PrintWords Go.Proofs.YtmpiljfpgfhljaaW.PrintLast Go.Proofs.YtmpiljfpgfhljaaW.PrintMore XCm XDisk
set_option linter.unusedVariables false
set_option linter.unusedSimpArgs false
noncomputable def alikeT := rtab .any (opsOf Try.f21 1)
theorem sim_rlen {s : St} {r : Rf} {n : Nat} (h : Sim s r n) (i : Int) : (rReadB r i).length ≤ 140737488355328 := by
  unfold rReadB
  split
  · rename_i hc
    unfold rHas at hc
    rw [Bool.and_eq_true, decide_eq_true_eq, decide_eq_true_eq] at hc
    unfold rNow
    have hi : i.toNat < r.good.length := by omega
    rw [List.getD_eq_getElem?_getD, List.getElem?_eq_getElem hi, Option.getD_some]
    rw [lastF_all (fun b => b.length = 32) i r.log _ (h.g32 _ (List.getElem_mem hi)) (fun x hx => (h.log x hx).2)]
    decide
  · exact Nat.zero_le _
theorem good_cell {base g : Nat} {s : Rf} {w : World} (h : RefAt base w g s) : ∃ A c, w.cell? ⟨g, 0, none⟩ = some (.slice A s.good.length c) := by
  obtain ⟨A, c, h1, -⟩ := good_at h
  exact ⟨A, c, h1⟩
theorem alike_walk (base g g2 n : Nat) (s : St) (r : Rf) (w : World) (hD : DiskAt base w g s) (hR : RefAt base w g2 r) (hS : Sim s r n) (hn : n ≤ 60) :
    Calls Try.prog 21 #[.pointer (some ⟨g, 0, none⟩), .pointer (some ⟨g2, 0, none⟩)] w fun e w' => e = .returned (.bool true) ∧ Below w.heap.size w w' := by
  have HD := Aside0.mk hD
  have HR := Aside0.mk hR
  have HS := Aside0.mk hS
  have SZ := Aside0.mk (fun w1 (h : DiskAt base w1 g s) => size_walk base g s w1 h)
  have CW := Aside0.mk (fun w1 (h : DiskAt base w1 g s) => cached_walk base g s w1 h)
  have OW := Aside0.mk (fun w1 (h : RefAt base w1 g2 r) => rorder_walk base g2 r w1 h (by have := HS.out.len; omega))
  have RD := Aside0.mk (fun i w1 (h : DiskAt base w1 g s) => read_any base g s i w1 h)
  have RR := Aside0.mk (fun i w1 (h : RefAt base w1 g2 r) => rread_walk base g2 r i w1 h (sim_rlen HS.out i))
  have hrd : ∀ i, readB s i = rReadB r i ∧ readE s i = rReadE r i := fun i => sim_read HS.out i
  rw [HS.out.good] at SZ
  rw [sim_count HS.out] at CW
  simp only [(hrd _).1, (hrd _).2] at RD
  obtain ⟨ln, hln⟩ : ∃ z, r.good.length = z := ⟨_, rfl⟩
  obtain ⟨A0, c0, hc0, m0, l0, -⟩ := good_at HR.out
  have HE := Aside0.mk (show rReadE r ((ln : Nat) : Int) = 1 from by unfold rReadE rHas; rw [hln, decide_eq_false (by omega : ¬ ((ln : Nat) : Int) < (ln : Nat)), Bool.and_false]; rfl)
  have GA := Aside0.mk (fun w1 (h : RefAt base w1 g2 r) => good_cell h)
  rw [hln] at SZ hc0 m0 l0 GA
  obtain ⟨om, hom⟩ : ∃ z, orderF r.log = z := ⟨_, rfl⟩
  rw [hom] at CW OW
  have hol : om.length ≤ 60 := by rw [← hom]; exact Nat.le_trans (order_len _) (by have := HS.out.len; omega)
  clear hD hR hS hrd hln hom
  go_enter Try.func21, Try.ntmps21
  go_upto_region 1 with fail
  refine sta 16 (fun w' => w'.cell? ⟨g2, 0, none⟩ = some (.slice A0 ln c0)) [] alikeT hc0 (fun hH HT_ HW_ => ?_)
  have HD1 := Aside0.mk (disk_drew HD.out)
  have HR1 := Aside0.mk (ref_drew HR.out)
  have HB1 := Aside0.mk (below_drew1 (Below.refl w.heap.size w))
  clear hc0 HD HR
  generalize w.drew = w1 at *
  refine pu 0 12 (tb 16 1) HT_ ?_
  refine pu 2 14 (tb 16 5) HT_ ?_
  refine pu 3 15 (tb 16 13) HT_ ?_
  refine pu 4 16 (tb 16 29) HT_ ?_
  refine tk 5 17 (tb 16 61) HT_ HW_ hH ?_
  refine pu 6 18 (tb 16 125) HT_ ?_
  refine cl 1 13 (tb 16 127) HT_ Try.func24 #[.pointer (some ⟨g, 0, none⟩)] (fun K hK => ?_)
  refine (SZ.out _ HD1.out).mono ?_
  rintro e w2 ⟨rfl, rfl⟩
  refine ⟨_, rfl, ?_⟩
  refine nx hK hH (fun hH2 => ?_)
  clear hK K hH
  refine pu 7 19 (tb 16 255) HT_ ?_
  refine pu 8 20 (tb 16 511) HT_ ?_
  refine pu 9 21 (tb 16 1023) HT_ ?_
  refine pu 11 23 (tb 16 3071) HT_ ?_
  refine cl 10 22 (tb 16 4095) HT_ Try.func15 #[.pointer (some ⟨g, 0, none⟩)] (fun K hK => ?_)
  refine (CW.out _ HD1.out).mono ?_
  rintro e w2 ⟨rfl, rfl⟩
  refine ⟨_, rfl, ?_⟩
  refine nx hK hH2 (fun hH3 => ?_)
  clear hK K hH2
  refine cl 12 24 (tb 16 8191) HT_ Try.func40 #[.pointer (some ⟨g2, 0, none⟩)] (fun K hK => ?_)
  refine (OW.out _ HR1.out).mono ?_
  rintro e w3 ⟨v3, rfl, hR3, hB3⟩
  refine ⟨_, rfl, ?_⟩
  have c3 := (hB3.cell (World.block_lt_of_cell? _ _ hH3)).trans hH3
  obtain ⟨A3, d3, rfl⟩ := Kd.R_slice hR3
  have HD3 := Aside0.mk (disk_below HD1.out hB3)
  have HR3 := Aside0.mk (ref_below HR1.out hB3)
  have HB3 := Aside0.mk (HB1.out.trans (hB3.mono HB1.out.size))
  refine nx hK c3 (fun hH4 => ?_)
  clear hK K hH3 hR3 hB3 HD1 HR1 HB1 CW OW SZ
  refine pu 13 25 (tb 16 16383) HT_ ?_
  refine pu 14 26 (tb 16 32767) HT_ ?_
  refine pu 15 27 (tb 16 65535) HT_ ?_
  refine dn HT_ ?_
  clear HT_ HW_
  go_wp2
  go_loopw [5] (fun v5 wr => ∃ i : Nat, i ≤ ln ∧ v5 = .int .i64 i ∧ Aside0 (DiskAt base wr g s) ∧ Aside0 (RefAt base wr g2 r) ∧ Aside0 (Below w.heap.size w wr)) (fun v5 _ => ln - (intOf v5).toNat)
  case atStart => exact ⟨0, Nat.zero_le _, rfl, HD3, HR3, HB3⟩
  case round =>
    clear HD3 HR3 HB3 hH4 c3
    obtain ⟨i, hi, rfl, HD, HR, HB⟩ := hrel
    obtain ⟨A1, c1, hc1⟩ := GA.out wr HR.out
    by_cases hlt : i < ln
    · have hii : (i : Int) < (ln : Int) := by omega
      obtain ⟨bb, hbb⟩ : ∃ z, rReadB r ((i : Nat) : Int) = z := ⟨_, rfl⟩
      obtain ⟨ee, hee⟩ : ∃ z, rReadE r ((i : Nat) : Int) = z := ⟨_, rfl⟩
      have R1 := Aside0.mk (RD.out ((i : Nat) : Int) wr HD.out)
      have R2 := Aside0.mk (fun w1 h => RR.out ((i : Nat) : Int) w1 h)
      rw [hbb, hee] at R1 R2
      clear hbb hee
      go_upto_region 8 with (first
        | (go_at_call 16; refine R1.out.mono ?_; rintro e w4 ⟨v4, rfl, hR4, hB4⟩; obtain ⟨A4, c4, rfl⟩ := Kd.R_slice hR4; have HV4 := Aside0.mk hR4; have HD4 := Aside0.mk (disk_below HD.out hB4); have HR4 := Aside0.mk (ref_below HR.out hB4); have HB4 := Aside0.mk (HB.out.trans (hB4.mono HB.out.size)); clear hR4 hB4)
        | (go_at_call 41; refine (R2.out _ HR4.out).mono ?_; rintro e w5 ⟨v5, rfl, hR5, hB5⟩; obtain ⟨A5, c5, rfl⟩ := Kd.R_slice hR5; have HV5 := Aside0.mk hR5; have HU5 := Aside0.mk (Kd.R_below HV4.out hB5); have HD5 := Aside0.mk (disk_below HD4.out hB5); have HR5 := Aside0.mk (ref_below HR4.out hB5); have HB5 := Aside0.mk (HB4.out.trans (hB5.mono HB4.out.size)); clear hR5 hB5))
      have hv1 := Kd.C_string (P := Try.prog) (A := A4) (c := c4) Try.underlying29 Try.underlying5 Try.underlying9 (Kd.R_reads' HU5.out).2.2
      have hv2 := Kd.C_string (P := Try.prog) (A := A5) (c := c5) Try.underlying29 Try.underlying5 Try.underlying9 (Kd.R_reads' HV5.out).2.2
      go_wp2
      go_roundw
      case rel => exact ⟨i + 1, hlt, by go_num, HD5, HR5, HB5⟩
      case measure => simp [intOf]; omega
    · obtain rfl : i = ln := by omega
      have R1 := Aside0.mk (RD.out ((i : Nat) : Int) wr HD.out)
      rw [HE.out] at R1
      go_wp2_with (go_at_call 16; refine R1.out.mono ?_; rintro e w4 ⟨v4, rfl, hR4, hB4⟩; obtain ⟨A4, c4, rfl⟩ := Kd.R_slice hR4; have HB4 := Aside0.mk (HB.out.trans (hB4.mono HB.out.size)); clear hR4 hB4)
      go_ret
      exact ⟨rfl, HB4.out⟩
end Go.Proofs.Ytmpiljfpgfhljaa.XRefD
