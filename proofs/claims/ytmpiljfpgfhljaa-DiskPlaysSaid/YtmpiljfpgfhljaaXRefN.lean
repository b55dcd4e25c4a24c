/-
  DiskPlays by its walk.
-/
import Derived.Laws.CopyOwn
import Derived.ArgAppend
import Derived.Below
import Derived.BigQuiet
import Derived.Deep.AppendLies
import Derived.Deep.CutBlock
import Derived.Deep.DeepCutAuto
import Derived.Deep.Draws
import Derived.Deep.LoopGhost
import Derived.Deep.OwnRows
import Derived.Deep.QuietTactic
import Derived.Deep.RegionHeld3
import Derived.Deep.WholeRow
import Derived.KernelRfl
import Derived.Laws.BitsLemmas
import Derived.Laws.BytesArg
import Derived.Laws.IdiomCopy
import Derived.Laws.MakeOwn
import Derived.Laws.OwnMore
import Derived.Laws.Rows
import Derived.Laws.Slices
import Derived.Lib.AppendStr
import Derived.Lib.ConvBytes
import Derived.Lib.Hide
import Derived.Maps.AppendAt
import Derived.OrdersHeld
import Derived.Outline
import Derived.OwnWalk
import Derived.RowKit
import Derived.RowKit3
import Derived.Tactics
import Derived.WalkKit
import Derived.WideLaws
import Derived.Test.YtmpiljfpgfhljaaProg
import Derived.Test.YtmpiljfpgfhljaaWApart
import Derived.Test.YtmpiljfpgfhljaaWArr
import Derived.Test.YtmpiljfpgfhljaaWAt
import Derived.Test.YtmpiljfpgfhljaaWEqStruct
import Derived.Test.YtmpiljfpgfhljaaWFoot
import Derived.Test.YtmpiljfpgfhljaaWFootNe
import Derived.Test.YtmpiljfpgfhljaaWFour
import Derived.Test.YtmpiljfpgfhljaaWGuard
import Derived.Test.YtmpiljfpgfhljaaWInv
import Derived.Test.YtmpiljfpgfhljaaWInvWords
import Derived.Test.YtmpiljfpgfhljaaWKept
import Derived.Test.YtmpiljfpgfhljaaWLast
import Derived.Test.YtmpiljfpgfhljaaWMore
import Derived.Test.YtmpiljfpgfhljaaWN
import Derived.Test.YtmpiljfpgfhljaaWNEv
import Derived.Test.YtmpiljfpgfhljaaWQPut
import Derived.Test.YtmpiljfpgfhljaaWRepsOne
import Derived.Test.YtmpiljfpgfhljaaWShare
import Derived.Test.YtmpiljfpgfhljaaWTab
import Derived.Test.YtmpiljfpgfhljaaWWords
import Derived.Test.YtmpiljfpgfhljaaWZeros
import Derived.Test.YtmpiljfpgfhljaaXSlices

import Derived.Test.YtmpiljfpgfhljaaXRefM
namespace Go.Proofs.Ytmpiljfpgfhljaa.XRefD
open Go.RowKit Go.Proofs.YtmpiljfpgfhljaaW.PrintWords Go.Proofs.YtmpiljfpgfhljaaW.PrintLast Go.Proofs.YtmpiljfpgfhljaaW.PrintMore XCm XDisk
set_option linter.unusedVariables false
set_option linter.unusedSimpArgs false
/-- An act's numbers are of their kinds. -/
def ActOk (x : Int × Int × Int × Int × Int) : Prop := (0 ≤ x.1 ∧ x.1 < 256) ∧ x.2.2.2.1 ≤ 9223372036854775807
theorem ref_lower {base base' : Nat} {w : World} {g : Nat} {s : Rf} (h : RefAt base' w g s) (hb : base ≤ base') : RefAt base w g s := by
  obtain ⟨vg, vc, h1, h2, h3, h4⟩ := h
  exact ⟨vg, vc, h1, Nat.le_trans hb h2, Kd.R_lower h3 hb, Kd.R_lower h4 hb⟩
set_option maxRecDepth 100000 in
set_option maxHeartbeats 2000000 in
theorem plays_law (s0 : Int) (A : Option Addr) (n c : Nat) (f : Nat → Int × Int × Int × Int × Int) (w : World) (hs : -9223372036854775808 ≤ s0) (hact : ActAt5 w A n f) (hok : ∀ i, i < n → ActOk (f i)) (hmx : n ≤ 9223372036854775807) :
    Calls Try.prog 5 #[.int .i64 s0, .slice A n c] w fun e w' => e = .returned (.bool true) ∧ Below w.heap.size w w' := by
  obtain ⟨m, hm⟩ : ∃ m : Int, (if 40 < s0 ∧ s0 < 1000 then 40 else s0) = m := ⟨_, rfl⟩
  obtain ⟨k, hk⟩ : ∃ k : Nat, mx 0 (mn m 1024) = (k : Int) := ⟨(mx 0 (mn m 1024)).toNat, by unfold mx mn; omega⟩
  have hm0 : -9223372036854775808 ≤ m := by rw [← hm]; split <;> omega
  have hk1 : k ≤ 1024 := by unfold mx mn at hk; omega
  have NW := Aside0.mk (new_in m k hk w)
  have RW := Aside0.mk (fun w1 => rnew_walk m k hk hm0 w1)
  have S0 := Aside0.mk (sim_new k hk1)
  have HACT := Aside0.mk hact
  have HOK := Aside0.mk hok
  clear hact hok hk
  by_cases h1 : 40 < s0
  · by_cases h2 : s0 < 1000
    · rw [if_pos ⟨h1, h2⟩] at hm
      subst hm
      have d1 : decide (40 < s0) = true := decide_eq_true h1
      have d2 : decide (s0 < 1000) = true := decide_eq_true h2
      go_enter Try.func5, Try.ntmps5
      go_upto_block 0 with (first
        | (go_at_call 11; refine NW.out.mono ?_; rintro e w1 ⟨g, rfl, hD1, hB1⟩; have HD1 := Aside0.mk hD1; have HB1 := Aside0.mk hB1; clear hD1 hB1)
        | (go_at_call 19; refine (RW.out _).mono ?_; rintro e w2 ⟨g2, rfl, hR2, hB2⟩; have HD2 := Aside0.mk (disk_below HD1.out hB2); have HR2 := Aside0.mk (ref_lower hR2 HB1.out.size); have HB2 := Aside0.mk (HB1.out.trans (hB2.mono HB1.out.size)); clear hR2 hB2))
      go_wp2
      go_loopw [8] (fun v8 wr => ∃ (i : Nat) (s : St) (r : Rf), i ≤ n ∧ i ≤ 50 ∧ v8 = .int .i64 i ∧ Aside0 (Sim s r i) ∧ Aside0 (DiskAt w.heap.size wr g s) ∧ Aside0 (RefAt w.heap.size wr g2 r) ∧ Aside0 (Below w.heap.size w wr)) (fun v8 _ => 50 - (intOf v8).toNat)
      case atStart => exact ⟨0, _, _, Nat.zero_le _, by decide, rfl, S0, HD2, HR2, HB2⟩
      case round =>
        clear HD1 HB1 HD2 HR2 HB2 S0
        obtain ⟨i, s, r, hin, hi50, rfl, HS, HD, HR, HB⟩ := hrel
        by_cases hlt : i < n ∧ i < 50
        · obtain ⟨hl1, hl2⟩ := hlt
          have e1 : (i : Int) < (n : Int) := by omega
          have e0 : (0 : Int) ≤ (i : Int) := by omega
          have e2 : decide ((i : Int) < 50) = true := decide_eq_true (by omega)
          obtain ⟨ad, rfl, -, hcs, hc0, hc1⟩ := HACT.out.below HB.out i hl1
          obtain ⟨hd, hk3⟩ := HOK.out i hl1
          obtain ⟨x, hx⟩ : ∃ x, f i = x := ⟨_, rfl⟩
          rw [hx] at hcs hc0 hc1 hd hk3
          clear hx
          obtain ⟨xd, xa, xc, xk, xu⟩ := x
          have HCS := Aside0.mk hcs
          have SZA : (Try.prog.info? 28).map (·.size) = some (actCells (xd, xa, xc, xk, xu)).length := size_act
          have DW := Aside0.mk (does_walk w.heap.size g g2 i s r xd xa xc xk xu w wr HD.out HR.out HS.out (by omega) HB.out hd ⟨hc0, hc1⟩ hk3)
          have AW := Aside0.mk (fun w1 s r (hD : DiskAt w.heap.size w1 g s) (hR : RefAt w.heap.size w1 g2 r) (hS : Sim s r (i + 1)) => alike_walk w.heap.size g g2 (i + 1) s r w1 hD hR hS (by omega))
          clear hcs hc0 hc1 hd hk3
          go_upto_region 10 with (first
            | (with_reducible refine wpList_load_seg rfl 28 (.tmp 34) rfl (ad.add (i * 5)) rfl (actCells (xd, xa, xc, xk, xu)) _ Try.underlying28 rfl SZA HCS.out ?_)
            | (go_at_call 20; refine DW.out.mono ?_; rintro e w3 ⟨rfl, s3, r3, hD3, hR3, hS3, hB3⟩; have HD3 := Aside0.mk hD3; have HR3 := Aside0.mk hR3; have HS3 := Aside0.mk hS3; have HB3 := Aside0.mk hB3; clear hD3 hR3 hS3 hB3))
          obtain ⟨A3, c3, hc3⟩ := good_cell HR3.out
          obtain ⟨ln, hln⟩ : ∃ z, r3.good.length = z := ⟨_, rfl⟩
          rw [hln] at hc3
          have AW3 := Aside0.mk (AW.out w3 s3 r3 HD3.out HR3.out HS3.out)
          clear hln DW AW
          by_cases h50 : (ln : Int) < 50
          · have e5 : decide ((ln : Int) < 50) = true := decide_eq_true h50
            go_wp2_with (go_at_call 21; refine AW3.out.mono ?_; rintro e w4 ⟨rfl, hB4⟩; have HD4 := Aside0.mk (disk_below HD3.out hB4); have HR4 := Aside0.mk (ref_below HR3.out hB4); have HB4 := Aside0.mk (HB3.out.trans (hB4.mono HB3.out.size)); clear hB4)
            go_roundw
            case rel => exact ⟨i + 1, s3, r3, hl1, hl2, by go_num, HS3, HD4, HR4, HB4⟩
            case measure => simp [intOf]; omega
          · have e5 : decide ((ln : Int) < 50) = false := decide_eq_false h50
            go_wp2
            go_roundw
            case rel => exact ⟨i + 1, s3, r3, hl1, hl2, by go_num, HS3, HD3, HR3, HB3⟩
            case measure => simp [intOf]; omega
        · have hor : (decide (i < n) = false) ∨ (i < n ∧ ¬ (i : Int) < 50) := by
            by_cases h : i < n
            · exact .inr ⟨h, fun h' => hlt ⟨h, by omega⟩⟩
            · exact .inl (decide_eq_false h)
          have AW3 := Aside0.mk (fun w1 (hB : Below wr.heap.size wr w1) => alike_walk w.heap.size g g2 i s r w1 (disk_below HD.out hB) (ref_below HR.out hB) HS.out (by omega))
          clear hlt
          rcases hor with h1 | ⟨h1, h2⟩
          all_goals
            go_wp2_with (first
              | (go_at_call 18; refine (awake_walk _).mono ?_; rintro e w3 ⟨rfl, hB3⟩; have HB3 := Aside0.mk hB3; clear hB3)
              | (go_at_call 21; refine (AW3.out _ HB3.out).mono ?_; rintro e w4 ⟨rfl, hB4⟩; have HB4 := Aside0.mk (HB.out.trans ((HB3.out.trans (hB4.mono HB3.out.size)).mono HB.out.size)); clear hB4))
            go_ret
            exact ⟨rfl, HB4.out⟩
    · rw [if_neg (fun h => h2 h.2)] at hm
      subst hm
      have d1 : decide (40 < s0) = true := decide_eq_true h1
      have d2 : decide (s0 < 1000) = false := decide_eq_false h2
      go_enter Try.func5, Try.ntmps5
      go_upto_block 0 with (first
        | (go_at_call 11; refine NW.out.mono ?_; rintro e w1 ⟨g, rfl, hD1, hB1⟩; have HD1 := Aside0.mk hD1; have HB1 := Aside0.mk hB1; clear hD1 hB1)
        | (go_at_call 19; refine (RW.out _).mono ?_; rintro e w2 ⟨g2, rfl, hR2, hB2⟩; have HD2 := Aside0.mk (disk_below HD1.out hB2); have HR2 := Aside0.mk (ref_lower hR2 HB1.out.size); have HB2 := Aside0.mk (HB1.out.trans (hB2.mono HB1.out.size)); clear hR2 hB2))
      go_wp2
      go_loopw [8] (fun v8 wr => ∃ (i : Nat) (s : St) (r : Rf), i ≤ n ∧ i ≤ 50 ∧ v8 = .int .i64 i ∧ Aside0 (Sim s r i) ∧ Aside0 (DiskAt w.heap.size wr g s) ∧ Aside0 (RefAt w.heap.size wr g2 r) ∧ Aside0 (Below w.heap.size w wr)) (fun v8 _ => 50 - (intOf v8).toNat)
      case atStart => exact ⟨0, _, _, Nat.zero_le _, by decide, rfl, S0, HD2, HR2, HB2⟩
      case round =>
        clear HD1 HB1 HD2 HR2 HB2 S0
        obtain ⟨i, s, r, hin, hi50, rfl, HS, HD, HR, HB⟩ := hrel
        by_cases hlt : i < n ∧ i < 50
        · obtain ⟨hl1, hl2⟩ := hlt
          have e1 : (i : Int) < (n : Int) := by omega
          have e0 : (0 : Int) ≤ (i : Int) := by omega
          have e2 : decide ((i : Int) < 50) = true := decide_eq_true (by omega)
          obtain ⟨ad, rfl, -, hcs, hc0, hc1⟩ := HACT.out.below HB.out i hl1
          obtain ⟨hd, hk3⟩ := HOK.out i hl1
          obtain ⟨x, hx⟩ : ∃ x, f i = x := ⟨_, rfl⟩
          rw [hx] at hcs hc0 hc1 hd hk3
          clear hx
          obtain ⟨xd, xa, xc, xk, xu⟩ := x
          have HCS := Aside0.mk hcs
          have SZA : (Try.prog.info? 28).map (·.size) = some (actCells (xd, xa, xc, xk, xu)).length := size_act
          have DW := Aside0.mk (does_walk w.heap.size g g2 i s r xd xa xc xk xu w wr HD.out HR.out HS.out (by omega) HB.out hd ⟨hc0, hc1⟩ hk3)
          have AW := Aside0.mk (fun w1 s r (hD : DiskAt w.heap.size w1 g s) (hR : RefAt w.heap.size w1 g2 r) (hS : Sim s r (i + 1)) => alike_walk w.heap.size g g2 (i + 1) s r w1 hD hR hS (by omega))
          clear hcs hc0 hc1 hd hk3
          go_upto_region 10 with (first
            | (with_reducible refine wpList_load_seg rfl 28 (.tmp 34) rfl (ad.add (i * 5)) rfl (actCells (xd, xa, xc, xk, xu)) _ Try.underlying28 rfl SZA HCS.out ?_)
            | (go_at_call 20; refine DW.out.mono ?_; rintro e w3 ⟨rfl, s3, r3, hD3, hR3, hS3, hB3⟩; have HD3 := Aside0.mk hD3; have HR3 := Aside0.mk hR3; have HS3 := Aside0.mk hS3; have HB3 := Aside0.mk hB3; clear hD3 hR3 hS3 hB3))
          obtain ⟨A3, c3, hc3⟩ := good_cell HR3.out
          obtain ⟨ln, hln⟩ : ∃ z, r3.good.length = z := ⟨_, rfl⟩
          rw [hln] at hc3
          have AW3 := Aside0.mk (AW.out w3 s3 r3 HD3.out HR3.out HS3.out)
          clear hln DW AW
          by_cases h50 : (ln : Int) < 50
          · have e5 : decide ((ln : Int) < 50) = true := decide_eq_true h50
            go_wp2_with (go_at_call 21; refine AW3.out.mono ?_; rintro e w4 ⟨rfl, hB4⟩; have HD4 := Aside0.mk (disk_below HD3.out hB4); have HR4 := Aside0.mk (ref_below HR3.out hB4); have HB4 := Aside0.mk (HB3.out.trans (hB4.mono HB3.out.size)); clear hB4)
            go_roundw
            case rel => exact ⟨i + 1, s3, r3, hl1, hl2, by go_num, HS3, HD4, HR4, HB4⟩
            case measure => simp [intOf]; omega
          · have e5 : decide ((ln : Int) < 50) = false := decide_eq_false h50
            go_wp2
            go_roundw
            case rel => exact ⟨i + 1, s3, r3, hl1, hl2, by go_num, HS3, HD3, HR3, HB3⟩
            case measure => simp [intOf]; omega
        · have hor : (decide (i < n) = false) ∨ (i < n ∧ ¬ (i : Int) < 50) := by
            by_cases h : i < n
            · exact .inr ⟨h, fun h' => hlt ⟨h, by omega⟩⟩
            · exact .inl (decide_eq_false h)
          have AW3 := Aside0.mk (fun w1 (hB : Below wr.heap.size wr w1) => alike_walk w.heap.size g g2 i s r w1 (disk_below HD.out hB) (ref_below HR.out hB) HS.out (by omega))
          clear hlt
          rcases hor with h1 | ⟨h1, h2⟩
          all_goals
            go_wp2_with (first
              | (go_at_call 18; refine (awake_walk _).mono ?_; rintro e w3 ⟨rfl, hB3⟩; have HB3 := Aside0.mk hB3; clear hB3)
              | (go_at_call 21; refine (AW3.out _ HB3.out).mono ?_; rintro e w4 ⟨rfl, hB4⟩; have HB4 := Aside0.mk (HB.out.trans ((HB3.out.trans (hB4.mono HB3.out.size)).mono HB.out.size)); clear hB4))
            go_ret
            exact ⟨rfl, HB4.out⟩
  · rw [if_neg (fun h => h1 h.1)] at hm
    subst hm
    have d1 : decide (40 < s0) = false := decide_eq_false h1
    go_enter Try.func5, Try.ntmps5
    go_upto_block 0 with (first
      | (go_at_call 11; refine NW.out.mono ?_; rintro e w1 ⟨g, rfl, hD1, hB1⟩; have HD1 := Aside0.mk hD1; have HB1 := Aside0.mk hB1; clear hD1 hB1)
      | (go_at_call 19; refine (RW.out _).mono ?_; rintro e w2 ⟨g2, rfl, hR2, hB2⟩; have HD2 := Aside0.mk (disk_below HD1.out hB2); have HR2 := Aside0.mk (ref_lower hR2 HB1.out.size); have HB2 := Aside0.mk (HB1.out.trans (hB2.mono HB1.out.size)); clear hR2 hB2))
    go_wp2
    go_loopw [8] (fun v8 wr => ∃ (i : Nat) (s : St) (r : Rf), i ≤ n ∧ i ≤ 50 ∧ v8 = .int .i64 i ∧ Aside0 (Sim s r i) ∧ Aside0 (DiskAt w.heap.size wr g s) ∧ Aside0 (RefAt w.heap.size wr g2 r) ∧ Aside0 (Below w.heap.size w wr)) (fun v8 _ => 50 - (intOf v8).toNat)
    case atStart => exact ⟨0, _, _, Nat.zero_le _, by decide, rfl, S0, HD2, HR2, HB2⟩
    case round =>
      clear HD1 HB1 HD2 HR2 HB2 S0
      obtain ⟨i, s, r, hin, hi50, rfl, HS, HD, HR, HB⟩ := hrel
      by_cases hlt : i < n ∧ i < 50
      · obtain ⟨hl1, hl2⟩ := hlt
        have e1 : (i : Int) < (n : Int) := by omega
        have e0 : (0 : Int) ≤ (i : Int) := by omega
        have e2 : decide ((i : Int) < 50) = true := decide_eq_true (by omega)
        obtain ⟨ad, rfl, -, hcs, hc0, hc1⟩ := HACT.out.below HB.out i hl1
        obtain ⟨hd, hk3⟩ := HOK.out i hl1
        obtain ⟨x, hx⟩ : ∃ x, f i = x := ⟨_, rfl⟩
        rw [hx] at hcs hc0 hc1 hd hk3
        clear hx
        obtain ⟨xd, xa, xc, xk, xu⟩ := x
        have HCS := Aside0.mk hcs
        have SZA : (Try.prog.info? 28).map (·.size) = some (actCells (xd, xa, xc, xk, xu)).length := size_act
        have DW := Aside0.mk (does_walk w.heap.size g g2 i s r xd xa xc xk xu w wr HD.out HR.out HS.out (by omega) HB.out hd ⟨hc0, hc1⟩ hk3)
        have AW := Aside0.mk (fun w1 s r (hD : DiskAt w.heap.size w1 g s) (hR : RefAt w.heap.size w1 g2 r) (hS : Sim s r (i + 1)) => alike_walk w.heap.size g g2 (i + 1) s r w1 hD hR hS (by omega))
        clear hcs hc0 hc1 hd hk3
        go_upto_region 10 with (first
          | (with_reducible refine wpList_load_seg rfl 28 (.tmp 34) rfl (ad.add (i * 5)) rfl (actCells (xd, xa, xc, xk, xu)) _ Try.underlying28 rfl SZA HCS.out ?_)
          | (go_at_call 20; refine DW.out.mono ?_; rintro e w3 ⟨rfl, s3, r3, hD3, hR3, hS3, hB3⟩; have HD3 := Aside0.mk hD3; have HR3 := Aside0.mk hR3; have HS3 := Aside0.mk hS3; have HB3 := Aside0.mk hB3; clear hD3 hR3 hS3 hB3))
        obtain ⟨A3, c3, hc3⟩ := good_cell HR3.out
        obtain ⟨ln, hln⟩ : ∃ z, r3.good.length = z := ⟨_, rfl⟩
        rw [hln] at hc3
        have AW3 := Aside0.mk (AW.out w3 s3 r3 HD3.out HR3.out HS3.out)
        clear hln DW AW
        by_cases h50 : (ln : Int) < 50
        · have e5 : decide ((ln : Int) < 50) = true := decide_eq_true h50
          go_wp2_with (go_at_call 21; refine AW3.out.mono ?_; rintro e w4 ⟨rfl, hB4⟩; have HD4 := Aside0.mk (disk_below HD3.out hB4); have HR4 := Aside0.mk (ref_below HR3.out hB4); have HB4 := Aside0.mk (HB3.out.trans (hB4.mono HB3.out.size)); clear hB4)
          go_roundw
          case rel => exact ⟨i + 1, s3, r3, hl1, hl2, by go_num, HS3, HD4, HR4, HB4⟩
          case measure => simp [intOf]; omega
        · have e5 : decide ((ln : Int) < 50) = false := decide_eq_false h50
          go_wp2
          go_roundw
          case rel => exact ⟨i + 1, s3, r3, hl1, hl2, by go_num, HS3, HD3, HR3, HB3⟩
          case measure => simp [intOf]; omega
      · have hor : (decide (i < n) = false) ∨ (i < n ∧ ¬ (i : Int) < 50) := by
          by_cases h : i < n
          · exact .inr ⟨h, fun h' => hlt ⟨h, by omega⟩⟩
          · exact .inl (decide_eq_false h)
        have AW3 := Aside0.mk (fun w1 (hB : Below wr.heap.size wr w1) => alike_walk w.heap.size g g2 i s r w1 (disk_below HD.out hB) (ref_below HR.out hB) HS.out (by omega))
        clear hlt
        rcases hor with h1 | ⟨h1, h2⟩
        all_goals
          go_wp2_with (first
            | (go_at_call 18; refine (awake_walk _).mono ?_; rintro e w3 ⟨rfl, hB3⟩; have HB3 := Aside0.mk hB3; clear hB3)
            | (go_at_call 21; refine (AW3.out _ HB3.out).mono ?_; rintro e w4 ⟨rfl, hB4⟩; have HB4 := Aside0.mk (HB.out.trans ((HB3.out.trans (hB4.mono HB3.out.size)).mono HB.out.size)); clear hB4))
          go_ret
          exact ⟨rfl, HB4.out⟩
end Go.Proofs.Ytmpiljfpgfhljaa.XRefD
