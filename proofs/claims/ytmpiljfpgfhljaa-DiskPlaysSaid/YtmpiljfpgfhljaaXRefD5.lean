/-
  The reference's disk by walks: Flush.
-/
import Derived.Laws.CopyOwn
import Derived.ArgAppend
import Derived.Below
import Derived.BigQuiet
import Derived.Deep.AppendLies
import Derived.Deep.CutBlock
import Derived.Deep.DeepCutAuto
import Derived.Deep.Draws
import Derived.Deep.LoopGhost
import Derived.Deep.OwnRows
import Derived.Deep.QuietTactic
import Derived.Deep.RegionHeld3
import Derived.Deep.WholeRow
import Derived.KernelRfl
import Derived.Laws.BitsLemmas
import Derived.Laws.BytesArg
import Derived.Laws.IdiomCopy
import Derived.Laws.MakeOwn
import Derived.Laws.OwnMore
import Derived.Laws.Rows
import Derived.Laws.Slices
import Derived.Lib.AppendStr
import Derived.Lib.ConvBytes
import Derived.Lib.Hide
import Derived.Maps.AppendAt
import Derived.OrdersHeld
import Derived.Outline
import Derived.OwnWalk
import Derived.RowKit
import Derived.RowKit3
import Derived.Tactics
import Derived.WalkKit
import Derived.WideLaws
import Derived.Test.YtmpiljfpgfhljaaProg
import Derived.Test.YtmpiljfpgfhljaaWApart
import Derived.Test.YtmpiljfpgfhljaaWArr
import Derived.Test.YtmpiljfpgfhljaaWAt
import Derived.Test.YtmpiljfpgfhljaaWEqStruct
import Derived.Test.YtmpiljfpgfhljaaWFoot
import Derived.Test.YtmpiljfpgfhljaaWFootNe
import Derived.Test.YtmpiljfpgfhljaaWFour
import Derived.Test.YtmpiljfpgfhljaaWGuard
import Derived.Test.YtmpiljfpgfhljaaWInv
import Derived.Test.YtmpiljfpgfhljaaWInvWords
import Derived.Test.YtmpiljfpgfhljaaWKept
import Derived.Test.YtmpiljfpgfhljaaWLast
import Derived.Test.YtmpiljfpgfhljaaWMore
import Derived.Test.YtmpiljfpgfhljaaWN
import Derived.Test.YtmpiljfpgfhljaaWNEv
import Derived.Test.YtmpiljfpgfhljaaWQPut
import Derived.Test.YtmpiljfpgfhljaaWRepsOne
import Derived.Test.YtmpiljfpgfhljaaWShare
import Derived.Test.YtmpiljfpgfhljaaWTab
import Derived.Test.YtmpiljfpgfhljaaWWords
import Derived.Test.YtmpiljfpgfhljaaWZeros
import Derived.Test.YtmpiljfpgfhljaaXSlices

import Derived.StillTailTactics
import Derived.Test.YtmpiljfpgfhljaaXRefD4
namespace Go.Proofs.Ytmpiljfpgfhljaa.XRefD
open Go.RowKit Go.Proofs.YtmpiljfpgfhljaaW.PrintWords Go.Proofs.YtmpiljfpgfhljaaW.PrintLast Go.Proofs.YtmpiljfpgfhljaaW.PrintMore XCm XDisk
set_option linter.unusedVariables false
set_option linter.unusedSimpArgs false
noncomputable def rFlushT := rtab .any (opsOf Try.f37 6)
def rInR (s : Rf) : Prop := ∀ x ∈ s.log, 0 ≤ x.1 ∧ x.1 < (s.good.length : Nat)
def rFlush (s : Rf) : Int × Rf := if (rBurn s).1 = true then (0, { (rBurn s).2 with good := over s.good s.log, log := [] }) else (10, s)
/-- One row that is for good is another one. -/
theorem ref_put {base g : Nat} {s : Rf} {w : World} (h : RefAt base w g s) (k : Nat) (hk : k < s.good.length) (x : List Int) (v : Value) (hM : rowK.M w base (fun _ => True) x [v]) :
    ∃ gb cg z, w.cell? ⟨g, 0, none⟩ = some (.slice (some ⟨gb, 0, none⟩) s.good.length cg) ∧ w.cell? ⟨gb, k, none⟩ = some z ∧ w.frozen? ⟨gb, k, none⟩ = false ∧
      RefAt base (w.setCell ⟨gb, k, none⟩ v) g { s with good := s.good.set k x } ∧ KeepR base w (w.setCell ⟨gb, k, none⟩ v) := by
  obtain ⟨vg, vc, h1, h2, h3, h4⟩ := h
  obtain ⟨gb, cg, rfl, hb, hlt, cells, htype⟩ := Kd.R_form h3 (by omega)
  obtain ⟨c, hcl, -, hcc, hfr⟩ := Kd.R_elem h3 x (k : Int) (by omega) (by omega)
  have hz : rowK.sz = 1 := rfl
  rw [hz] at hcl
  rw [Int.toNat_natCast, hz, Nat.mul_one] at hcc hfr
  obtain ⟨z, rfl⟩ : ∃ z, c = [z] := by
    match c, hcl with
    | [z], _ => exact ⟨z, rfl⟩
  have hM' := rowK.M_bound hM
  have hs := Kd.R_seg h3 (k : Int) (by omega) (by omega) (c := [z]) (seg := [v]) (j := 0) rfl (by rw [Int.toNat_natCast, hz, Nat.mul_one]; exact hcc) (by show 0 + 1 ≤ 1; decide) (x' := x) hM' (fun q hq => ⟨trivial, fun e => by
    subst e
    obtain ⟨-, -, -, q', hq', cs, hcs⟩ := hq
    rw [htype] at hcs
    injection hcs with hcs
    injection hcs with _ e2 _
    simp [rowK, Kd.slice, Kd.int, Kd.scalar] at hq'
    exact absurd (e2.trans hq') (by decide)⟩)
  rw [Int.toNat_natCast, hz, Nat.mul_one] at hs
  obtain ⟨hR, hG⟩ := hs
  change rowK.R 29 (w.setCell ⟨gb, k, none⟩ v) base _ _ _ at hR
  change w.grownBy (w.setCell ⟨gb, k, none⟩ v) _ at hG
  have hne : some g ≠ (Value.slice (some ⟨gb, 0, none⟩) s.good.length cg).ownBlock := Kd.R_ne h3 h1 (by decide)
  have hne' : some g ≠ some gb := by simpa [Value.ownBlock] using hne
  refine ⟨gb, cg, z, by rw [blk_cell h1]; rfl, by have := hcc 0 z rfl; rwa [Nat.add_zero] at this, by have := hfr 0; rwa [Nat.add_zero] at this, ⟨_, vc, (hG.block g (blk_lt h1) hne').trans h1, h2, hR, ?_⟩, KeepR.set_ htype (by unfold rT; decide) hb k v⟩
  exact Kd.R_over h4 h3 (by intro q hq; simp [oneK, rowK, Kd.pair, Kd.slice, Kd.int, Kd.scalar] at hq; omega) (by simpa [Value.ownBlock] using hG)
theorem ref_flushed {base g : Nat} {s : Rf} {w : World} (h : RefAt base w g s) : RefAt base (w.setCell ⟨g, 1, none⟩ (.slice none 0 0)) g { s with log := [] } ∧ KeepR base w (w.setCell ⟨g, 1, none⟩ (.slice none 0 0)) ∧ w.frozen? ⟨g, 1, none⟩ = false := by
  obtain ⟨vg, vc, h1, h2, h3, h4⟩ := h
  exact ⟨⟨vg, _, blk_set h1 1 _, h2, Kd.R_set h3 h1 (by intro q hq; simp [rowK, Kd.slice, Kd.int, Kd.scalar] at hq; omega) _ _, Kd.R_nil _ _ _ _ _⟩, KeepR.set_ h1 (by unfold rT; decide) h2 _ _, blk_frozen h1 _⟩
theorem KeepR.drew {base : Nat} {w w' : World} (h : KeepR base w w') : KeepR base w w'.drew := h.drewN 1
theorem ref_drew {base : Nat} {w : World} {g : Nat} {s : Rf} (h : RefAt base w g s) : RefAt base w.drew g s := ref_drewN h 1
attribute [local irreducible] over
set_option maxRecDepth 100000 in
set_option maxHeartbeats 1000000 in
theorem rflush_walk (base g : Nat) (s : Rf) (w : World) (h : RefAt base w g s) (hf : s.fuse ≤ 9223372036854775807) (hin : rInR s) :
    Calls Try.prog 37 #[.pointer (some ⟨g, 0, none⟩)] w fun e w' => e = .returned (.int .i64 (rFlush s).1) ∧ RefAt base w' g (rFlush s).2 ∧ KeepR base w w' := by
  have BW := Aside0.mk (rburn_walk base g s w h hf)
  have HIN := Aside0.mk hin
  clear hin h
  unfold rFlush
  obtain ⟨r, hr⟩ : ∃ r, rBurn s = r := ⟨_, rfl⟩
  have HNO := Aside0.mk (@rburn_no s)
  have HSM := Aside0.mk (rburn_same s)
  rw [hr] at BW HNO HSM ⊢
  obtain ⟨rb, s1⟩ := r
  clear hr
  cases rb with
  | false =>
    rw [if_neg (by simp)]
    obtain rfl : s1 = s := HNO.out rfl
    go_enter Try.func37, Try.ntmps37
    go_wp2_with (go_at_call 55; refine BW.out.mono ?_; rintro e w1 ⟨rfl, hR1, hK1⟩; have HR1 := Aside0.mk hR1; have HK1 := Aside0.mk hK1; clear hR1 hK1)
    go_ret
    exact ⟨rfl, HR1.out, HK1.out⟩
  | true =>
    rw [if_pos rfl]
    obtain ⟨gs, hgs⟩ : ∃ z, s.good = z := ⟨_, rfl⟩
    obtain ⟨ls, hls⟩ : ∃ z, s.log = z := ⟨_, rfl⟩
    obtain ⟨gs1, ls1, f1⟩ := s1
    obtain ⟨rfl, rfl⟩ : gs1 = gs ∧ ls1 = ls := ⟨HSM.out.1.trans hgs, HSM.out.2.trans hls⟩
    unfold rInR at HIN
    rw [hgs, hls] at HIN ⊢
    clear HSM HNO hgs hls
    go_enter Try.func37, Try.ntmps37
    go_wp2_with (go_at_call 55; refine BW.out.mono ?_; rintro e w1 ⟨rfl, hR1, hK1⟩; have HR1 := Aside0.mk hR1; have HK1 := Aside0.mk hK1; clear hR1 hK1)
    go_loopw [3] (fun v3 wr => ∃ k : Nat, k ≤ ls1.length ∧ v3 = .int .i64 k ∧ Aside0 (RefAt base wr g ⟨over gs1 (ls1.take k), ls1, f1⟩) ∧ Aside0 (KeepR base w wr)) (fun v3 _ => ls1.length - (intOf v3).toNat)
    case atStart => exact ⟨0, Nat.zero_le _, rfl, Aside0.mk (by rw [List.take_zero, show over gs1 [] = gs1 from by unfold over; rfl]; exact HR1.out), HK1⟩
    case round =>
      clear HR1 HK1 BW
      obtain ⟨k, hk, rfl, HR, HK⟩ := hrel
      obtain ⟨A1, c1, hc1, m1, l1, L⟩ := log_at HR.out
      have m1' : (ls1.length : Nat) ≤ 9223372036854775807 := m1
      have HL := Aside0.mk L
      clear L
      by_cases hlt : k < ls1.length
      · have hki : (k : Int) < (ls1.length : Int) := by omega
        have hk0 : (0 : Int) ≤ (k : Int) := by omega
        obtain ⟨ad, Bl, dl, rfl, s0, s1, sl, -, sM⟩ := HL.out k hlt
        obtain ⟨x, hx⟩ : ∃ x, ls1[k] = x := ⟨_, rfl⟩
        have hxr := HIN.out ls1[k] (List.getElem_mem hlt)
        have HO := Aside0.mk (over_succ gs1 ls1 k hlt)
        rw [hx] at s0 s1 sl sM hxr HO
        clear hx
        obtain ⟨i, hi⟩ := Int.eq_ofNat_of_zero_le hxr.1
        have hig : i < (over gs1 (ls1.take k)).length := by rw [over_len]; omega
        obtain ⟨gb, cg, z, p0, p1, p2, p3, p4⟩ := ref_put (ref_drew HR.out) i hig x.2 _ (Kd.M_drewN sM 1)
        rw [hi, Int.toNat_natCast] at HO
        have P3 := Aside0.mk p3
        have P4 := Aside0.mk (HK.out.drew.trans p4)
        have hgl : (over gs1 (ls1.take k)).length ≤ 9223372036854775807 := by obtain ⟨_, _, _, h_, _⟩ := good_at HR.out; exact h_
        rw [over_len] at hig hgl p0
        have p5 : (i : Int) < (gs1.length : Int) := by omega
        have p6 : (0 : Int) ≤ (i : Int) := by omega
        rw [hi] at s0
        clear p3 p4 sM HL hxr HR HK
        go_upto_region 6 with fail
        refine sta 22 (fun w' => w'.cell? ⟨g, 0, none⟩ = some (.slice (some ⟨gb, 0, none⟩) gs1.length cg) ∧ w'.cell? ⟨g, 1, none⟩ = some (.slice (some ad) ls1.length c1) ∧ w'.cell? (ad.add (k * 2)) = some (.int .i64 (i : Int)) ∧ w'.cell? ⟨(ad.add (k * 2)).block, (ad.add (k * 2)).off + 1, none⟩ = some (.slice Bl x.2.length dl)) [21] rFlushT ⟨p0, hc1, s0, s1⟩ (fun hH HT_ HW_ => ?_)
        clear p0 hc1 s0 s1
        generalize wr.drew = w2 at *
        refine pu 0 16 (tb 22 1) HT_ ?_
        refine pu 1 17 (tb 22 3) HT_ ?_
        refine pu 2 18 (tb 22 7) HT_ ?_
        refine tk 3 19 (tb 22 15) HT_ HW_ hH ?_
        refine pu 4 20 (tb 22 31) HT_ ?_
        refine pu 5 21 (tb 22 63) HT_ ?_
        refine pu 6 22 (tb 22 127) HT_ ?_
        refine tk 7 23 (tb 22 255) HT_ HW_ hH ?_
        refine pu 8 24 (tb 22 511) HT_ ?_
        refine pu 9 25 (tb 22 1023) HT_ ?_
        refine pu 10 26 (tb 22 2047) HT_ ?_
        refine tk 11 27 (tb 22 4095) HT_ HW_ hH ?_
        refine pu 12 28 (tb 22 8191) HT_ ?_
        refine pu 13 29 (tb 22 16383) HT_ ?_
        refine pu 14 30 (tb 22 32767) HT_ ?_
        refine tk 15 31 (tb 22 65535) HT_ HW_ hH ?_
        refine pu 16 32 (tb 22 131071) HT_ ?_
        refine pu 17 33 (tb 22 262143) HT_ ?_
        refine pu 18 34 (tb 22 524287) HT_ ?_
        refine tk 19 35 (tb 22 1048575) HT_ HW_ hH ?_
        refine pu 20 36 (tb 22 2097151) HT_ ?_
        refine la 21 (tb 22 4194303) HT_ (N := none) (fun K hK => ?_)
        go_simp
        refine hK.out _ _ ?_
        clear hK K HT_ HW_ hH p1 p2
        go_wp2
        go_roundw
        case rel => exact ⟨k + 1, hlt, by go_num, Aside0.mk (by rw [HO.out]; exact P3.out), P4⟩
        case measure => simp [intOf]; omega
      · obtain rfl : k = ls1.length := by omega
        have hE := HR.out
        rw [List.take_length] at hE
        have HF := Aside0.mk (ref_flushed hE)
        have hfr := HF.out.2.2
        clear hE HR HL
        go_wp2
        go_ret
        exact ⟨rfl, HF.out.1, HK.out.trans HF.out.2.1⟩
end Go.Proofs.Ytmpiljfpgfhljaa.XRefD
