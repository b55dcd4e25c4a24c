/-
  The law DiskTorn by its walk (under way: loops 1 to 4).
-/
import Derived.Laws.CopyOwn
import Derived.ArgAppend
import Derived.Below
import Derived.BigQuiet
import Derived.Deep.AppendLies
import Derived.Deep.CutBlock
import Derived.Deep.DeepCutAuto
import Derived.Deep.Draws
import Derived.Deep.LoopGhost
import Derived.Deep.OwnRows
import Derived.Deep.QuietTactic
import Derived.Deep.RegionHeld3
import Derived.Deep.WholeRow
import Derived.KernelRfl
import Derived.Laws.BitsLemmas
import Derived.Laws.BytesArg
import Derived.Laws.IdiomCopy
import Derived.Laws.MakeOwn
import Derived.Laws.OwnMore
import Derived.Laws.Rows
import Derived.Laws.Slices
import Derived.Lib.AppendStr
import Derived.Lib.ConvBytes
import Derived.Lib.Hide
import Derived.Maps.AppendAt
import Derived.OrdersHeld
import Derived.Outline
import Derived.OwnWalk
import Derived.RowKit
import Derived.RowKit3
import Derived.Tactics
import Derived.WalkKit
import Derived.WideLaws
import Derived.Test.YtmpiljfpgfhljaaProg
import Derived.Test.YtmpiljfpgfhljaaWApart
import Derived.Test.YtmpiljfpgfhljaaWArr
import Derived.Test.YtmpiljfpgfhljaaWAt
import Derived.Test.YtmpiljfpgfhljaaWEqStruct
import Derived.Test.YtmpiljfpgfhljaaWFoot
import Derived.Test.YtmpiljfpgfhljaaWFootNe
import Derived.Test.YtmpiljfpgfhljaaWFour
import Derived.Test.YtmpiljfpgfhljaaWGuard
import Derived.Test.YtmpiljfpgfhljaaWInv
import Derived.Test.YtmpiljfpgfhljaaWInvWords
import Derived.Test.YtmpiljfpgfhljaaWKept
import Derived.Test.YtmpiljfpgfhljaaWLast
import Derived.Test.YtmpiljfpgfhljaaWMore
import Derived.Test.YtmpiljfpgfhljaaWN
import Derived.Test.YtmpiljfpgfhljaaWNEv
import Derived.Test.YtmpiljfpgfhljaaWQPut
import Derived.Test.YtmpiljfpgfhljaaWRepsOne
import Derived.Test.YtmpiljfpgfhljaaWShare
import Derived.Test.YtmpiljfpgfhljaaWTab
import Derived.Test.YtmpiljfpgfhljaaWWords
import Derived.Test.YtmpiljfpgfhljaaWZeros
import Derived.Test.YtmpiljfpgfhljaaXSlices

import Derived.Test.YtmpiljfpgfhljaaXDiskTornMath
namespace Go.Proofs.Ytmpiljfpgfhljaa.XDisk
open Go.RowKit Go.Proofs.YtmpiljfpgfhljaaW.PrintWords Go.Proofs.YtmpiljfpgfhljaaW.PrintLast Go.Proofs.YtmpiljfpgfhljaaW.PrintMore
set_option linter.unusedVariables false
set_option linter.unusedSimpArgs false
open QDiskTorn (prebendlaw05_sector.f prebendlaw05_sector.calls prebendlaw05_made.f prebendlaw05_made.calls)
attribute [local irreducible] locF cacCells Flush Write readB readE nowAt over
def DiskTorna5.T5 : Bool × List (List Nat × List Nat) := (true, [([], []), ([], []), ([], []), ([1, 2], [1, 2]), ([3], [3]), ([4], [4]), ([], []), ([], []), ([6, 7], [6, 7]), ([8], [8]), ([9], [9]), ([0, 5, 10, 10], [0, 5, 10])])
def DiskTorna5.B5 : List Nat := [0, 0, 0, 6, 14, 30, 0, 0, 192, 448, 960, 2047]
theorem DiskTorna5.tab5 : rtab .any (opsOf Try.f4 5) = DiskTorna5.T5 := by kernel_rfl
theorem DiskTorna5.bits5 : waitsOk DiskTorna5.T5.2 DiskTorna5.B5 = true := by kernel_rfl
def DiskTornb16.T16 : Bool × List (List Nat × List Nat) := (true, [([], []), ([], []), ([], []), ([1, 2], [1, 2]), ([3], [3]), ([4], [4]), ([], []), ([], []), ([6, 7], [6, 7]), ([8], [8]), ([9], [9]), ([0, 5, 10, 10], [0, 5, 10])])
def DiskTornb16.B16 : List Nat := [0, 0, 0, 6, 14, 30, 0, 0, 192, 448, 960, 2047]
theorem DiskTornb16.tab16 : rtab .any (opsOf Try.f4 16) = DiskTornb16.T16 := by kernel_rfl
theorem DiskTornb16.bits16 : waitsOk DiskTornb16.T16.2 DiskTornb16.B16 = true := by kernel_rfl
set_option maxRecDepth 10000000 in
set_option maxHeartbeats 16000000 in
theorem torn_law (A0 A1 : Option Addr) (n0 c0 n1 c1 : Nat) (f0 f1 : Nat → Int × Int × Int × Int × Int) (keep torn cut : Int) (w : World) (hact0 : ActAt5 w A0 n0 f0) (hact1 : ActAt5 w A1 n1 f1) (hm0 : n0 ≤ 9223372036854775807) (hm1 : n1 ≤ 9223372036854775807) :
    Calls Try.prog 4 #[.slice A0 n0 c0, .slice A1 n1 c1, .int .i64 keep, .int .i64 torn, .int .i64 cut] w fun e w' => e = .returned (.bool true) ∧ Below w.heap.size w w' := by
  have HACT0 := Aside0.mk hact0
  have HACT1 := Aside0.mk hact1
  clear hact0 hact1
  go_enter Try.func4, Try.ntmps4
  go_wp2_with fail
  refine (new_in 8 8 (by decide) _).mono ?_
  rintro e w1 ⟨g, rfl, hD1, hB1⟩
  have HD1 := Aside0.mk hD1
  have HB1 := Aside0.mk hB1
  clear hD1 hB1
  go_upto_block 0 with fail
  go_cut [12] (fun v12 wx => ∃ s : St, s.fuse = -1 ∧ s.good.length = 8 ∧ Aside0 (Ok s) ∧ Aside0 (DiskAt w.heap.size wx g s) ∧ Aside0 (Below w.heap.size w wx))
  case first =>
    go_wp2
    go_loopw [12] (fun v12 wr => ∃ (i : Nat) (s : St), i ≤ n0 ∧ i ≤ 20 ∧ v12 = .int .i64 i ∧ s.fuse = -1 ∧ s.good.length = 8 ∧ Aside0 (Ok s) ∧ s.cache.length ≤ i ∧ Aside0 (DiskAt w.heap.size wr g s) ∧ Aside0 (Below w.heap.size w wr)) (fun v12 _ => 20 - (intOf v12).toNat)
    case atStart => exact ⟨0, fresh 8, Nat.zero_le _, by decide, rfl, rfl, List.length_replicate .., ⟨⟨(fun x hx => by cases hx), trivial⟩⟩, Nat.le_refl _, HD1, HB1⟩
    case round =>
      clear HD1 HB1
      obtain ⟨i, s, hin, hi20, rfl, hf, hg, HOK, hcl, FD, FB⟩ := hrel
      have HF := Aside0.mk hf
      have HG := Aside0.mk hg
      by_cases hlt : i < n0 ∧ i < 20
      · obtain ⟨hl1, hl2⟩ := hlt
        have hib : decide ((i : Int) < 20) = true := decide_eq_true (by omega)
        have HFU := Aside0.mk (show s.fuse ≤ 9223372036854775807 by omega)
        have HL1 := Aside0.mk (show (s.cache.length + 1) * 40 ≤ 140737488355328 by omega)
        have HCL := Aside0.mk hcl
        clear hf hg hcl
        obtain ⟨ad, rfl, -, -, hr1, hr2⟩ := HACT0.out i hl1
        have hcell : ∀ w', Below w.heap.size w w' → Act5 w' (ad.add (i * 5)) (f0 i) ∧ (∀ j v, (actCells (f0 i))[j]? = some v → w'.cell? ((ad.add (i * 5)).add j) = some v) := fun w' hb => by
          obtain ⟨ad', e, h1, h2, -⟩ := HACT0.out.below hb i hl1
          injection e with e
          subst e
          exact ⟨h1, h2⟩
        have HCELL := Aside0.mk hcell
        clear hcell
        obtain ⟨r, hr⟩ := made_f (f0 i).1 (f0 i).2.1 (f0 i).2.2.1 (f0 i).2.2.2.1 (f0 i).2.2.2.2 ⟨hr1, hr2⟩
        have HMADE := Aside0.mk hr
        clear hr hr1 hr2
        go_wp2
        refine start_ (n := 12) (S := fun w' => True) (ds := []) #[false, false, false, false, false, false, false, false, false, false, false, false] (by kernel_rfl) rfl rfl trivial (fun hHeld => ?_)
        refine with_tabW DiskTorna5.tab5 DiskTorna5.bits5 (fun HT_ HW_ => ?_)
        refine inv_at [0, 1, 2, 3, 4, 5, 6, 7, 8, 9, 10, 11] (fun a0_ b a w' => ∃ (vs : Value), a = putSel a0_ b [(0, 38, .pointer (some ⟨g, 0, none⟩)), (1, 39, .slice (some ad) n0 c0), (2, 40, .int .i64 ((i : Nat) : Int)), (3, 41, .pointer (some (ad.add (i * 5)))), (4, 42, .pointer (some ⟨(ad.add (i * 5)).block, (ad.add (i * 5)).off + 1, none⟩)), (5, 43, .int .i64 (f0 i).2.1), (6, 44, .slice (some ad) n0 c0), (7, 45, .int .i64 ((i : Nat) : Int)), (8, 46, .pointer (some (ad.add (i * 5)))), (9, 47, .agg #[.int .u8 (f0 i).1, .int .i64 (f0 i).2.1, .int .u8 (f0 i).2.2.1, .int .i64 (f0 i).2.2.2.1, .int .i64 (f0 i).2.2.2.2]), (10, 48, vs), (11, 49, .int .i64 (Write s (f0 i).2.1 r).1)] ∧ (b 11 = false → DiskAt w.heap.size w' g s) ∧ (b 11 = true → DiskAt w.heap.size w' g (Write s (f0 i).2.1 r).2) ∧ (Below w.heap.size w w') ∧ (b 10 = true → b 11 = false → ∃ b_ : Nat, Kd.R (Kd.int .u8) 5 w' b_ (fun _ => True) vs r)) HT_.out HW_.out (by kernel_rfl) (by kernel_rfl) ?_ ?_ ?_
        · exact ⟨.bool false, by simp only [putSel, Bool.false_eq_true, if_false], fun _ => disk_drew FD.out, fun h_ => absurd h_ (by decide), below_drew FB.out, fun h_ => absurd h_ (by decide)⟩
        · skip
          clear FB FD
          refine steps_cons ?_ ?_
          · rintro b a w' ⟨vs, ha, Q_FD, Q_FD2, Q_FB, Q_FV⟩ hb_ hon hoff
            refine ⟨_, rfl, fun K hK => ?_⟩
            have e11 : a.tmps[11]? = some (.pointer (some ⟨g, 0, none⟩)) := by rw [ha]; exact (putSel_off rfl).trans rfl
            replace ha := Aside0.mk ha
            have FD := Aside0.mk (Q_FD (hoff 11 (by kernel_rfl)))
            have FB := Aside0.mk Q_FB
            refine value_ (w1 := w') (v := .pointer (some ⟨g, 0, none⟩)) (by rfl) rfl ?_ ?_
            · go_simp
              (try simp only [i64_w])
              try rfl
            refine hK.out _ _ ⟨vs, (by rw [ha.out]; exact putSel_upk 0 hb_ rfl rfl rfl), Q_FD, fun h0_ => absurd ((hoff 11 (by kernel_rfl)).symm.trans h0_) (by decide), Q_FB, Q_FV⟩
          refine steps_cons ?_ ?_
          · rintro b a w' ⟨vs, ha, Q_FD, Q_FD2, Q_FB, Q_FV⟩ hb_ hon hoff
            refine ⟨_, rfl, fun K hK => ?_⟩
            have e0 : a.tmps[0]? = some (.slice (some ad) n0 c0) := by rw [ha]; exact (putSel_off rfl).trans rfl
            replace ha := Aside0.mk ha
            have FD := Aside0.mk (Q_FD (hoff 11 (by kernel_rfl)))
            have FB := Aside0.mk Q_FB
            refine value_ (w1 := w') (v := .slice (some ad) n0 c0) (by rfl) rfl ?_ ?_
            · go_simp
              (try simp only [i64_w])
              try rfl
            refine hK.out _ _ ⟨vs, (by rw [ha.out]; exact putSel_upk 1 hb_ rfl rfl rfl), Q_FD, fun h0_ => absurd ((hoff 11 (by kernel_rfl)).symm.trans h0_) (by decide), Q_FB, Q_FV⟩
          refine steps_cons ?_ ?_
          · rintro b a w' ⟨vs, ha, Q_FD, Q_FD2, Q_FB, Q_FV⟩ hb_ hon hoff
            refine ⟨_, rfl, fun K hK => ?_⟩
            have e12 : a.tmps[12]? = some (.int .i64 ((i : Nat) : Int)) := by rw [ha]; exact (putSel_off rfl).trans rfl
            replace ha := Aside0.mk ha
            have FD := Aside0.mk (Q_FD (hoff 11 (by kernel_rfl)))
            have FB := Aside0.mk Q_FB
            refine value_ (w1 := w') (v := .int .i64 ((i : Nat) : Int)) (by rfl) rfl ?_ ?_
            · go_simp
              (try simp only [i64_w])
              try rfl
            refine hK.out _ _ ⟨vs, (by rw [ha.out]; exact putSel_upk 2 hb_ rfl rfl rfl), Q_FD, fun h0_ => absurd ((hoff 11 (by kernel_rfl)).symm.trans h0_) (by decide), Q_FB, Q_FV⟩
          refine steps_cons ?_ ?_
          · rintro b a w' ⟨vs, ha, Q_FD, Q_FD2, Q_FB, Q_FV⟩ hb_ hon hoff
            refine ⟨_, rfl, fun K hK => ?_⟩
            have e39 : a.tmps[39]? = some (.slice (some ad) n0 c0) := by rw [ha]; exact putSel_on (e := (1, 39, .slice (some ad) n0 c0)) 1 rfl rfl (hon 1 (by kernel_rfl)) rfl
            have e40 : a.tmps[40]? = some (.int .i64 ((i : Nat) : Int)) := by rw [ha]; exact putSel_on (e := (2, 40, .int .i64 ((i : Nat) : Int))) 2 rfl rfl (hon 2 (by kernel_rfl)) rfl
            replace ha := Aside0.mk ha
            have FD := Aside0.mk (Q_FD (hoff 11 (by kernel_rfl)))
            have FB := Aside0.mk Q_FB
            refine value_ (w1 := w') (v := .pointer (some (ad.add (i * 5)))) (by rfl) rfl ?_ ?_
            · go_simp
              (try simp only [i64_w])
              try rfl
            refine hK.out _ _ ⟨vs, (by rw [ha.out]; exact putSel_upk 3 hb_ rfl rfl rfl), Q_FD, fun h0_ => absurd ((hoff 11 (by kernel_rfl)).symm.trans h0_) (by decide), Q_FB, Q_FV⟩
          refine steps_cons ?_ ?_
          · rintro b a w' ⟨vs, ha, Q_FD, Q_FD2, Q_FB, Q_FV⟩ hb_ hon hoff
            refine ⟨_, rfl, fun K hK => ?_⟩
            have e41 : a.tmps[41]? = some (.pointer (some (ad.add (i * 5)))) := by rw [ha]; exact putSel_on (e := (3, 41, .pointer (some (ad.add (i * 5))))) 3 rfl rfl (hon 3 (by kernel_rfl)) rfl
            replace ha := Aside0.mk ha
            have FD := Aside0.mk (Q_FD (hoff 11 (by kernel_rfl)))
            have FB := Aside0.mk Q_FB
            refine value_ (w1 := w') (v := .pointer (some ⟨(ad.add (i * 5)).block, (ad.add (i * 5)).off + 1, none⟩)) (by rfl) rfl ?_ ?_
            · go_simp
              (try simp only [i64_w])
              try rfl
            refine hK.out _ _ ⟨vs, (by rw [ha.out]; exact putSel_upk 4 hb_ rfl rfl rfl), Q_FD, fun h0_ => absurd ((hoff 11 (by kernel_rfl)).symm.trans h0_) (by decide), Q_FB, Q_FV⟩
          refine steps_cons ?_ ?_
          · rintro b a w' ⟨vs, ha, Q_FD, Q_FD2, Q_FB, Q_FV⟩ hb_ hon hoff
            refine ⟨_, rfl, fun K hK => ?_⟩
            have e42 : a.tmps[42]? = some (.pointer (some ⟨(ad.add (i * 5)).block, (ad.add (i * 5)).off + 1, none⟩)) := by rw [ha]; exact putSel_on (e := (4, 42, .pointer (some ⟨(ad.add (i * 5)).block, (ad.add (i * 5)).off + 1, none⟩))) 4 rfl rfl (hon 4 (by kernel_rfl)) rfl
            replace ha := Aside0.mk ha
            have FD := Aside0.mk (Q_FD (hoff 11 (by kernel_rfl)))
            have FB := Aside0.mk Q_FB
            obtain ⟨hact, hcells⟩ := HCELL.out _ FB.out
            obtain ⟨hc0, hc1, -, -, -⟩ := hact
            refine value_ (w1 := w') (v := .int .i64 (f0 i).2.1) (by rfl) rfl ?_ ?_
            · go_simp
              (try simp only [i64_w])
              try rfl
            refine hK.out _ _ ⟨vs, (by rw [ha.out]; exact putSel_upk 5 hb_ rfl rfl rfl), Q_FD, fun h0_ => absurd ((hoff 11 (by kernel_rfl)).symm.trans h0_) (by decide), Q_FB, Q_FV⟩
          refine steps_cons ?_ ?_
          · rintro b a w' ⟨vs, ha, Q_FD, Q_FD2, Q_FB, Q_FV⟩ hb_ hon hoff
            refine ⟨_, rfl, fun K hK => ?_⟩
            have e0 : a.tmps[0]? = some (.slice (some ad) n0 c0) := by rw [ha]; exact (putSel_off rfl).trans rfl
            replace ha := Aside0.mk ha
            have FD := Aside0.mk (Q_FD (hoff 11 (by kernel_rfl)))
            have FB := Aside0.mk Q_FB
            refine value_ (w1 := w') (v := .slice (some ad) n0 c0) (by rfl) rfl ?_ ?_
            · go_simp
              (try simp only [i64_w])
              try rfl
            refine hK.out _ _ ⟨vs, (by rw [ha.out]; exact putSel_upk 6 hb_ rfl rfl rfl), Q_FD, fun h0_ => absurd ((hoff 11 (by kernel_rfl)).symm.trans h0_) (by decide), Q_FB, fun h0_ _ => absurd ((hoff 10 (by kernel_rfl)).symm.trans h0_) (by decide)⟩
          refine steps_cons ?_ ?_
          · rintro b a w' ⟨vs, ha, Q_FD, Q_FD2, Q_FB, Q_FV⟩ hb_ hon hoff
            refine ⟨_, rfl, fun K hK => ?_⟩
            have e12 : a.tmps[12]? = some (.int .i64 ((i : Nat) : Int)) := by rw [ha]; exact (putSel_off rfl).trans rfl
            replace ha := Aside0.mk ha
            have FD := Aside0.mk (Q_FD (hoff 11 (by kernel_rfl)))
            have FB := Aside0.mk Q_FB
            refine value_ (w1 := w') (v := .int .i64 ((i : Nat) : Int)) (by rfl) rfl ?_ ?_
            · go_simp
              (try simp only [i64_w])
              try rfl
            refine hK.out _ _ ⟨vs, (by rw [ha.out]; exact putSel_upk 7 hb_ rfl rfl rfl), Q_FD, fun h0_ => absurd ((hoff 11 (by kernel_rfl)).symm.trans h0_) (by decide), Q_FB, fun h0_ _ => absurd ((hoff 10 (by kernel_rfl)).symm.trans h0_) (by decide)⟩
          refine steps_cons ?_ ?_
          · rintro b a w' ⟨vs, ha, Q_FD, Q_FD2, Q_FB, Q_FV⟩ hb_ hon hoff
            refine ⟨_, rfl, fun K hK => ?_⟩
            have e44 : a.tmps[44]? = some (.slice (some ad) n0 c0) := by rw [ha]; exact putSel_on (e := (6, 44, .slice (some ad) n0 c0)) 6 rfl rfl (hon 6 (by kernel_rfl)) rfl
            have e45 : a.tmps[45]? = some (.int .i64 ((i : Nat) : Int)) := by rw [ha]; exact putSel_on (e := (7, 45, .int .i64 ((i : Nat) : Int))) 7 rfl rfl (hon 7 (by kernel_rfl)) rfl
            replace ha := Aside0.mk ha
            have FD := Aside0.mk (Q_FD (hoff 11 (by kernel_rfl)))
            have FB := Aside0.mk Q_FB
            refine value_ (w1 := w') (v := .pointer (some (ad.add (i * 5)))) (by rfl) rfl ?_ ?_
            · go_simp
              (try simp only [i64_w])
              try rfl
            refine hK.out _ _ ⟨vs, (by rw [ha.out]; exact putSel_upk 8 hb_ rfl rfl rfl), Q_FD, fun h0_ => absurd ((hoff 11 (by kernel_rfl)).symm.trans h0_) (by decide), Q_FB, fun h0_ _ => absurd ((hoff 10 (by kernel_rfl)).symm.trans h0_) (by decide)⟩
          refine steps_cons ?_ ?_
          · rintro b a w' ⟨vs, ha, Q_FD, Q_FD2, Q_FB, Q_FV⟩ hb_ hon hoff
            refine ⟨_, rfl, fun K hK => ?_⟩
            have e46 : a.tmps[46]? = some (.pointer (some (ad.add (i * 5)))) := by rw [ha]; exact putSel_on (e := (8, 46, .pointer (some (ad.add (i * 5))))) 8 rfl rfl (hon 8 (by kernel_rfl)) rfl
            replace ha := Aside0.mk ha
            have FD := Aside0.mk (Q_FD (hoff 11 (by kernel_rfl)))
            have FB := Aside0.mk Q_FB
            refine value_ (w1 := w') (v := .agg #[.int .u8 (f0 i).1, .int .i64 (f0 i).2.1, .int .u8 (f0 i).2.2.1, .int .i64 (f0 i).2.2.2.1, .int .i64 (f0 i).2.2.2.2]) (by rfl) rfl (run_load_seg 28 (.tmp 46) rfl (ad.add (i * 5)) (eval_of e46) (actCells (f0 i)) _ Try.underlying28 rfl size_act (HCELL.out _ FB.out).2) ?_
            refine hK.out _ _ ⟨vs, (by rw [ha.out]; exact putSel_upk 9 hb_ rfl rfl rfl), fun _ => FD.out, fun h0_ => absurd ((hoff 11 (by kernel_rfl)).symm.trans h0_) (by decide), FB.out, fun h0_ _ => absurd ((hoff 10 (by kernel_rfl)).symm.trans h0_) (by decide)⟩
          refine steps_cons ?_ ?_
          · rintro b a w' ⟨vs, ha, Q_FD, Q_FD2, Q_FB, Q_FV⟩ hb_ hon hoff
            refine ⟨_, rfl, fun K hK => ?_⟩
            have e47 : a.tmps[47]? = some (.agg #[.int .u8 (f0 i).1, .int .i64 (f0 i).2.1, .int .u8 (f0 i).2.2.1, .int .i64 (f0 i).2.2.2.1, .int .i64 (f0 i).2.2.2.2]) := by rw [ha]; exact putSel_on (e := (9, 47, .agg #[.int .u8 (f0 i).1, .int .i64 (f0 i).2.1, .int .u8 (f0 i).2.2.1, .int .i64 (f0 i).2.2.2.1, .int .i64 (f0 i).2.2.2.2])) 9 rfl rfl (hon 9 (by kernel_rfl)) rfl
            replace ha := Aside0.mk ha
            have FD := Aside0.mk (Q_FD (hoff 11 (by kernel_rfl)))
            have FB := Aside0.mk Q_FB
            refine goes_ Try.func13 (by kernel_rfl) rfl #[.agg #[.int .u8 (f0 i).1, .int .i64 (f0 i).2.1, .int .u8 (f0 i).2.2.1, .int .i64 (f0 i).2.2.2.1, .int .i64 (f0 i).2.2.2.2]] (by rfl) rfl rfl (by first | (simp only [List.map_toArray, List.map_cons, List.map_nil, Act.eval, Array.getD_eq_getD_getElem?, Option.getD_some, e47]; done) | (simp only [List.map_toArray, List.map_cons, List.map_nil, Act.eval, Array.getD_eq_getD_getElem?, Option.getD_some, e47]; rfl)) ?_
            refine (prebendlaw05_made.calls 40 _ _ _ _ _ r _ HMADE.out).mono ?_
            rintro e w10 ⟨v10, rfl, hR10, hB10⟩
            refine ⟨v10, rfl, ?_⟩
            refine hK.out _ _ ⟨v10, (by rw [ha.out]; exact putSel_upk 10 hb_ rfl rfl rfl), fun _ => disk_below FD.out hB10, fun h0_ => absurd ((hoff 11 (by kernel_rfl)).symm.trans h0_) (by decide), below_step FB.out hB10, fun _ _ => ⟨_, hR10⟩⟩
          refine steps_cons ?_ ?_
          · rintro b a w' ⟨vs, ha, Q_FD, Q_FD2, Q_FB, Q_FV⟩ hb_ hon hoff
            refine ⟨_, rfl, fun K hK => ?_⟩
            have e38 : a.tmps[38]? = some (.pointer (some ⟨g, 0, none⟩)) := by rw [ha]; exact putSel_on (e := (0, 38, .pointer (some ⟨g, 0, none⟩))) 0 rfl rfl (hon 0 (by kernel_rfl)) rfl
            have e43 : a.tmps[43]? = some (.int .i64 (f0 i).2.1) := by rw [ha]; exact putSel_on (e := (5, 43, .int .i64 (f0 i).2.1)) 5 rfl rfl (hon 5 (by kernel_rfl)) rfl
            have e48 : a.tmps[48]? = some (vs) := by rw [ha]; exact putSel_on (e := (10, 48, vs)) 10 rfl rfl (hon 10 (by kernel_rfl)) rfl
            replace ha := Aside0.mk ha
            have FD := Aside0.mk (Q_FD hb_)
            have FB := Aside0.mk Q_FB
            have FV := Aside0.mk (Q_FV (hon 10 (by kernel_rfl)) hb_)
            obtain ⟨b_, hR_⟩ := FV.out
            obtain ⟨Av, cv, hvs_⟩ := Kd.R_slice hR_
            rw [hvs_] at e48
            rw [hvs_] at hR_
            refine goes_ Try.func12 (by kernel_rfl) rfl #[.pointer (some ⟨g, 0, none⟩), .int .i64 (f0 i).2.1, .slice Av r.length cv] (by rfl) rfl rfl (by first | (simp only [List.map_toArray, List.map_cons, List.map_nil, Act.eval, Array.getD_eq_getD_getElem?, Option.getD_some, e38, e43, e48]; done) | (simp only [List.map_toArray, List.map_cons, List.map_nil, Act.eval, Array.getD_eq_getD_getElem?, Option.getD_some, e38, e43, e48]; rfl)) ?_
            refine (write_walk w.heap.size g s (f0 i).2.1 Av cv r _ FD.out HFU.out HL1.out (FB.out).size (row_src hR_ _)).mono ?_
            rintro e w10 ⟨rfl, hD10, hK10⟩
            refine ⟨_, rfl, ?_⟩
            refine hK.out _ _ ⟨vs, (by rw [ha.out]; exact putSel_upk 11 hb_ rfl rfl rfl), fun h0_ => absurd ((up_self b 11).symm.trans h0_) (by decide), fun _ => hD10, below_keep FB.out (FB.out).size hK10, fun _ h1_ => absurd ((up_self b 11).symm.trans h1_) (by decide)⟩
          exact steps_nil
        · rintro b a w' hall ⟨vs, ha, Q_FD, Q_FD2, Q_FB, Q_FV⟩
          clear FB FD
          have hb0_ := hall 0 (by kernel_rfl)
          have hb1_ := hall 1 (by kernel_rfl)
          have hb2_ := hall 2 (by kernel_rfl)
          have hb3_ := hall 3 (by kernel_rfl)
          have hb4_ := hall 4 (by kernel_rfl)
          have hb5_ := hall 5 (by kernel_rfl)
          have hb6_ := hall 6 (by kernel_rfl)
          have hb7_ := hall 7 (by kernel_rfl)
          have hb8_ := hall 8 (by kernel_rfl)
          have hb9_ := hall 9 (by kernel_rfl)
          have hb10_ := hall 10 (by kernel_rfl)
          have hb11_ := hall 11 (by kernel_rfl)
          subst ha
          simp only [putSel, hb0_, hb1_, hb2_, hb3_, hb4_, hb5_, hb6_, hb7_, hb8_, hb9_, hb10_, hb11_, if_true, Act.put, List.setIfInBounds_toArray, List.set_cons_zero, List.set_cons_succ]
          clear Q_FD
          have FD2 := Aside0.mk (Q_FD2 hb11_)
          clear Q_FD2
          have FB := Aside0.mk Q_FB
          clear Q_FB
          clear Q_FV
          clear hall hb0_ hb1_ hb2_ hb3_ hb4_ hb5_ hb6_ hb7_ hb8_ hb9_ hb10_ hb11_
          have hwk := write_keeps s (f0 i).2.1 r HOK.out
          have hwf := (write_free s (f0 i).2.1 r HF.out).1
          generalize hs2 : (Write s (f0 i).2.1 r).2 = s2 at *
          have HO2 := Aside0.mk hwk.1
          have HG2 := Aside0.mk ((congrArg List.length hwk.2.1).trans HG.out)
          have HL2 := Aside0.mk (Nat.le_trans hwk.2.2 (Nat.succ_le_succ HCL.out))
          clear hwk hs2
          go_wp2
          go_roundw
          case rel => exact ⟨i + 1, s2, by omega, by omega, by go_num, hwf, HG2.out, HO2, HL2.out, FD2, FB⟩
          case measure => simp [intOf]; omega
      · have hex : (decide (i < n0) = false) ∨ (i < n0 ∧ ¬ (i : Int) < 20) := by
          by_cases h : i < n0
          · exact .inr ⟨h, by omega⟩
          · exact .inl (decide_eq_false h)
        clear hlt hf hg hcl
        rcases hex with hl1 | ⟨hl1, hl2⟩
        all_goals
          go_wp2
          go_meet
          exact ⟨s, HF.out, HG.out, HOK, FD, FB⟩
  case rest =>
        obtain ⟨s, hf, hg, HOK, FD, FB⟩ := hcut
        have HF := Aside0.mk hf
        have HG := Aside0.mk hg
        clear hf hg
        (try clear HD1 HB1)
        have HFU := Aside0.mk (show s.fuse ≤ 9223372036854775807 by rw [HF.out]; decide)
        go_wp2_with fail
        refine (flush_any w.heap.size g s _ FD.out HFU.out HOK.out.inr).mono ?_
        rintro e w3 ⟨rfl, hD3, hK3⟩
        have hff := flush_free s HF.out
        rw [hff] at hD3
        have HB3 := Aside0.mk (below_keep FB.out FB.out.size hK3)
        obtain ⟨s3, hs3⟩ : ∃ z : St, ({ good := over s.good s.cache, cache := [], fuse := -1 } : St) = z := ⟨_, rfl⟩
        have hg3 : s3.good.length = 8 ∧ s3.cache = [] ∧ s3.fuse = -1 := by rw [← hs3]; exact ⟨(over_len _ _).trans HG.out, rfl, rfl⟩
        simp only [hs3] at hD3
        have HD3 := Aside0.mk hD3
        have HG3 := Aside0.mk hg3
        clear hs3 hff hD3 hg3 hK3 FD FB HG HOK HF HFU
        have hB31 := (Below.refl w3.heap.size w3).alloc (Nat.le_refl _) (.cells #[] 29)
        have HW4 := Aside0.mk (R_empty rowsK w3 w.heap.size 29 HB3.out.size)
        have HD4 := Aside0.mk (disk_below HD3.out hB31)
        have HB4 := Aside0.mk (HB3.out.alloc HB3.out.size (.cells #[] 29))
        clear HD3 HB3 hB31
        have hB32 := (Below.refl (w3.alloc (.cells #[] 29)).heap.size (w3.alloc (.cells #[] 29))).alloc (Nat.le_refl _) (.cells #[] 29)
        have HW5 := Aside0.mk (Kd.R_below HW4.out hB32)
        have HN5 := Aside0.mk (R_empty2 rowsK (w3.alloc (.cells #[] 29)) w.heap.size 29 (fun k => True ∧ some k ≠ (Value.slice (some ⟨w3.heap.size, 0, none⟩) 0 0).ownBlock) HB4.out.size ⟨trivial, by simp [Value.ownBlock]⟩)
        have HD5 := Aside0.mk (disk_below HD4.out hB32)
        have HB5 := Aside0.mk (HB4.out.alloc HB4.out.size (.cells #[] 29))
        clear HW4 HD4 HB4 hB32
        go_wp2
        rw [show (w3.alloc (Obj.cells #[] 29)).heap.size = w3.heap.size + 1 from by simp] at HN5
        go_loopw [13, 15] (fun v13 v15 wr => ∃ i : Nat, i ≤ 8 ∧ v15 = .int .i64 i ∧ Aside0 (rowsK.R 29 wr w.heap.size (fun _ => True) v13 ((List.range i).map (fun (j : Nat) => readB s3 j))) ∧ Aside0 (rowsK.R 29 wr w.heap.size (fun k => True ∧ some k ≠ v13.ownBlock) (.slice (some ⟨w3.heap.size + 1, 0, none⟩) 0 0) []) ∧ Aside0 (DiskAt w.heap.size wr g s3) ∧ Aside0 (Below w.heap.size w wr)) (fun _ v15 _ => 8 - (intOf v15).toNat)
        case atStart => exact ⟨0, Nat.zero_le _, rfl, HW5, HN5, HD5, HB5⟩
        case round =>
          clear HW5 HN5 HD5 HB5
          obtain ⟨j, hj8, rfl, HW, HN, HD, HB⟩ := hrel
          by_cases hj : j < 8
          · have hjb : (j : Int) < 8 := by omega
            go_wp2_with fail
            refine (read_any w.heap.size g s3 _ _ HD.out).mono ?_
            rintro e w5 ⟨v5, rfl, hR5, hB5⟩
            obtain ⟨A5, c5, hv5⟩ := Kd.R_slice hR5
            subst hv5
            have HD5 := Aside0.mk (disk_below HD.out hB5)
            have HB5 := Aside0.mk (below_step HB.out hB5)
            have HW5 := Aside0.mk (Kd.R_below HW.out hB5)
            have HN5 := Aside0.mk (Kd.R_below HN.out hB5)
            have HV5 := Aside0.mk (R_not (Kd.R_lower hR5 HB.out.size) HW5.out (by intro q hq; simp [Kd.int, Kd.scalar] at hq; omega))
            have hlen : ((List.range j).map (fun (j : Nat) => readB s3 j)).length = j := by rw [List.length_map, List.length_range]
            have hlk : (((List.range j).map (fun (j : Nat) => readB s3 j)).length + 1) * 24 ≤ 140737488355328 := by rw [hlen]; omega
            have hsn : (List.range j).map (fun (j : Nat) => readB s3 j) ++ [readB s3 j] = (List.range (j + 1)).map (fun (j : Nat) => readB s3 j) := by rw [List.range_succ, List.map_append]; rfl
            have HLK := Aside0.mk hlk
            have HSN := Aside0.mk hsn
            clear hR5 hB5 HD HB HW HN hlen hlk hsn
            generalize (List.range j).map (fun (j : Nat) => readB s3 j) = rs at *
            obtain ⟨A13, c13, hv13⟩ := Kd.R_slice HW5.out
            subst hv13
            go_wp2_with (at_builtin; refine Kd.R_append rowsK (w0 := w) (W := w5) w.heap.size rfl (.tmp 64) (.tmp 66) 33 29 (.slice none 0 0) 24 rfl Try.underlying33 info_slu8 rfl (by decide) (by decide) (.slice A13 rs.length c13) rs (readB s3 j) [.slice A5 (readB s3 j).length c5] (fun _ => True) (fun k => some k ≠ (Value.slice A13 rs.length c13).ownBlock) rfl rfl ⟨_, rfl, HV5.out⟩ (fun _ hk => ⟨trivial, hk⟩) (fun _ _ => trivial) HW5.out HB5.out HB5.out.size HLK.out ?_; intro v6 w6 hR6 hB6 hG6 hat6; have HR6 := Aside0.mk hR6; have HB6 := Aside0.mk hB6; have HD6 := Aside0.mk (disk_grown HD5.out HW5.out (by unfold dT; decide) hG6); have HN6 := Aside0.mk (Kd.R_after HN5.out hG6 hat6); clear hR6 hB6 hG6 hat6)
            go_roundw
            case rel => exact ⟨j + 1, by omega, by go_num, ⟨by rw [← HSN.out]; exact HR6.out⟩, HN6, HD6, HB6⟩
            case measure => simp [intOf]; omega
          · obtain rfl : j = 8 := by omega
            rw [show ((8 : Nat) : Int) = 8 from rfl]
            have hrl : ((List.range 8).map (fun (j : Nat) => readB s3 j)).length = 8 := by rw [List.length_map, List.length_range]
            have hrow : ∀ q, q < 8 → ((List.range 8).map (fun (j : Nat) => readB s3 j)).getD q [] = readB s3 (q : Nat) := fun q hq => by
              rw [List.getD_eq_getElem?_getD, List.getElem?_map, List.getElem?_range hq]; rfl
            have HROW := Aside0.mk hrow
            have HRL := Aside0.mk hrl
            have HTO := Aside0.mk (fun (q : Nat) (hq : q < 8) => readB_len HD.out q (by rw [HG3.out.1]; exact hq))
            generalize (List.range 8).map (fun (j : Nat) => readB s3 j) = rs at *
            clear hrow
            obtain ⟨go, co, hvo, -, -, -⟩ := R_front HW.out (by omega)
            subst hvo
            rw [hrl] at HW HN ⊢
            clear hrl
            go_upto_block 4 with fail
            go_cut [18] (fun v18 wx => ∃ (i : Nat) (s : St), v18 = .int .i64 i ∧ s.fuse = -1 ∧ s.good = s3.good ∧ Aside0 (Ok s) ∧ Aside0 (rowsK.R 29 wx w.heap.size (fun k => True ∧ some k ≠ (Value.slice (some ⟨w3.heap.size + 1, 0, none⟩) 0 0).ownBlock) (.slice (some ⟨go, 0, none⟩) 8 co) rs) ∧ Aside0 (rowsK.R 29 wx w.heap.size (fun _ => True) (.slice (some ⟨w3.heap.size + 1, 0, none⟩) 0 0) []) ∧ Aside0 (DiskAt w.heap.size wx g s) ∧ Aside0 (Below w.heap.size w wx))
            case first =>
              go_wp2
              go_loopw [18] (fun v18 wr => ∃ (i : Nat) (s : St), i ≤ n1 ∧ i ≤ 20 ∧ v18 = .int .i64 i ∧ s.fuse = -1 ∧ s.good = s3.good ∧ Aside0 (Ok s) ∧ s.cache.length ≤ i ∧ Aside0 (rowsK.R 29 wr w.heap.size (fun _ => True) (.slice (some ⟨go, 0, none⟩) 8 co) rs) ∧ Aside0 (rowsK.R 29 wr w.heap.size (fun k => True ∧ some k ≠ (Value.slice (some ⟨go, 0, none⟩) 8 co).ownBlock) (.slice (some ⟨w3.heap.size + 1, 0, none⟩) 0 0) []) ∧ Aside0 (DiskAt w.heap.size wr g s) ∧ Aside0 (Below w.heap.size w wr)) (fun v18 _ => 20 - (intOf v18).toNat)
              case atStart => exact ⟨0, s3, Nat.zero_le _, by decide, rfl, HG3.out.2.2, rfl, ⟨⟨(by unfold InR; rw [HG3.out.2.1]; intro x hx; cases hx), (by rw [HG3.out.2.1]; trivial)⟩⟩, by rw [HG3.out.2.1]; exact Nat.zero_le _, HW, HN, HD, HB⟩
              case round =>
                clear HW HN HD HB
                obtain ⟨i, s, hin, hi20, rfl, hf, hg, HOK, hcl, FO, FN, FD, FB⟩ := hrel
                have HF := Aside0.mk hf
                have HG := Aside0.mk hg
                by_cases hlt : i < n1 ∧ i < 20
                · obtain ⟨hl1, hl2⟩ := hlt
                  have hib : decide ((i : Int) < 20) = true := decide_eq_true (by omega)
                  have HFU := Aside0.mk (show s.fuse ≤ 9223372036854775807 by omega)
                  have HL1 := Aside0.mk (show (s.cache.length + 1) * 40 ≤ 140737488355328 by omega)
                  have HCL := Aside0.mk hcl
                  clear hf hg hcl
                  obtain ⟨ad, rfl, -, -, hr1, hr2⟩ := HACT1.out i hl1
                  have hcell : ∀ w', Below w.heap.size w w' → Act5 w' (ad.add (i * 5)) (f1 i) ∧ (∀ j v, (actCells (f1 i))[j]? = some v → w'.cell? ((ad.add (i * 5)).add j) = some v) := fun w' hb => by
                    obtain ⟨ad', e, h1, h2, -⟩ := HACT1.out.below hb i hl1
                    injection e with e
                    subst e
                    exact ⟨h1, h2⟩
                  have HCELL := Aside0.mk hcell
                  clear hcell
                  obtain ⟨r, hr⟩ := made_f (f1 i).1 (f1 i).2.1 (f1 i).2.2.1 (f1 i).2.2.2.1 (f1 i).2.2.2.2 ⟨hr1, hr2⟩
                  have HMADE := Aside0.mk hr
                  clear hr hr1 hr2
                  go_wp2
                  refine start_ (n := 12) (S := fun w' => True) (ds := []) #[false, false, false, false, false, false, false, false, false, false, false, false] (by kernel_rfl) rfl rfl trivial (fun hHeld => ?_)
                  refine with_tabW DiskTornb16.tab16 DiskTornb16.bits16 (fun HT_ HW_ => ?_)
                  refine inv_at [0, 1, 2, 3, 4, 5, 6, 7, 8, 9, 10, 11] (fun a0_ b a w' => ∃ (vs : Value), a = putSel a0_ b [(0, 78, .pointer (some ⟨g, 0, none⟩)), (1, 79, .slice (some ad) n1 c1), (2, 80, .int .i64 ((i : Nat) : Int)), (3, 81, .pointer (some (ad.add (i * 5)))), (4, 82, .pointer (some ⟨(ad.add (i * 5)).block, (ad.add (i * 5)).off + 1, none⟩)), (5, 83, .int .i64 (f1 i).2.1), (6, 84, .slice (some ad) n1 c1), (7, 85, .int .i64 ((i : Nat) : Int)), (8, 86, .pointer (some (ad.add (i * 5)))), (9, 87, .agg #[.int .u8 (f1 i).1, .int .i64 (f1 i).2.1, .int .u8 (f1 i).2.2.1, .int .i64 (f1 i).2.2.2.1, .int .i64 (f1 i).2.2.2.2]), (10, 88, vs), (11, 89, .int .i64 (Write s (f1 i).2.1 r).1)] ∧ (b 11 = false → DiskAt w.heap.size w' g s) ∧ (b 11 = true → DiskAt w.heap.size w' g (Write s (f1 i).2.1 r).2) ∧ (Below w.heap.size w w') ∧ (b 10 = true → b 11 = false → ∃ b_ : Nat, Kd.R (Kd.int .u8) 5 w' b_ (fun _ => True) vs r) ∧ (rowsK.R 29 w' w.heap.size (fun _ => True) (.slice (some ⟨go, 0, none⟩) 8 co) rs) ∧ (rowsK.R 29 w' w.heap.size (fun k => True ∧ some k ≠ (Value.slice (some ⟨go, 0, none⟩) 8 co).ownBlock) (.slice (some ⟨w3.heap.size + 1, 0, none⟩) 0 0) [])) HT_.out HW_.out (by kernel_rfl) (by kernel_rfl) ?_ ?_ ?_
                  · exact ⟨.bool false, by simp only [putSel, Bool.false_eq_true, if_false], fun _ => disk_drew FD.out, fun h_ => absurd h_ (by decide), below_drew FB.out, fun h_ => absurd h_ (by decide), Kd.R_drewN FO.out 1, Kd.R_drewN FN.out 1⟩
                  · skip
                    clear FB FD FN FO
                    refine steps_cons ?_ ?_
                    · rintro b a w' ⟨vs, ha, Q_FD, Q_FD2, Q_FB, Q_FV, Q_FO, Q_FN⟩ hb_ hon hoff
                      refine ⟨_, rfl, fun K hK => ?_⟩
                      have e11 : a.tmps[11]? = some (.pointer (some ⟨g, 0, none⟩)) := by rw [ha]; exact (putSel_off rfl).trans rfl
                      replace ha := Aside0.mk ha
                      have FD := Aside0.mk (Q_FD (hoff 11 (by kernel_rfl)))
                      have FB := Aside0.mk Q_FB
                      have FO := Aside0.mk Q_FO
                      have FN := Aside0.mk Q_FN
                      refine value_ (w1 := w') (v := .pointer (some ⟨g, 0, none⟩)) (by rfl) rfl ?_ ?_
                      · go_simp
                        (try simp only [i64_w])
                        try rfl
                      refine hK.out _ _ ⟨vs, (by rw [ha.out]; exact putSel_upk 0 hb_ rfl rfl rfl), Q_FD, fun h0_ => absurd ((hoff 11 (by kernel_rfl)).symm.trans h0_) (by decide), Q_FB, Q_FV, Q_FO, Q_FN⟩
                    refine steps_cons ?_ ?_
                    · rintro b a w' ⟨vs, ha, Q_FD, Q_FD2, Q_FB, Q_FV, Q_FO, Q_FN⟩ hb_ hon hoff
                      refine ⟨_, rfl, fun K hK => ?_⟩
                      have e1 : a.tmps[1]? = some (.slice (some ad) n1 c1) := by rw [ha]; exact (putSel_off rfl).trans rfl
                      replace ha := Aside0.mk ha
                      have FD := Aside0.mk (Q_FD (hoff 11 (by kernel_rfl)))
                      have FB := Aside0.mk Q_FB
                      have FO := Aside0.mk Q_FO
                      have FN := Aside0.mk Q_FN
                      refine value_ (w1 := w') (v := .slice (some ad) n1 c1) (by rfl) rfl ?_ ?_
                      · go_simp
                        (try simp only [i64_w])
                        try rfl
                      refine hK.out _ _ ⟨vs, (by rw [ha.out]; exact putSel_upk 1 hb_ rfl rfl rfl), Q_FD, fun h0_ => absurd ((hoff 11 (by kernel_rfl)).symm.trans h0_) (by decide), Q_FB, Q_FV, Q_FO, Q_FN⟩
                    refine steps_cons ?_ ?_
                    · rintro b a w' ⟨vs, ha, Q_FD, Q_FD2, Q_FB, Q_FV, Q_FO, Q_FN⟩ hb_ hon hoff
                      refine ⟨_, rfl, fun K hK => ?_⟩
                      have e18 : a.tmps[18]? = some (.int .i64 ((i : Nat) : Int)) := by rw [ha]; exact (putSel_off rfl).trans rfl
                      replace ha := Aside0.mk ha
                      have FD := Aside0.mk (Q_FD (hoff 11 (by kernel_rfl)))
                      have FB := Aside0.mk Q_FB
                      have FO := Aside0.mk Q_FO
                      have FN := Aside0.mk Q_FN
                      refine value_ (w1 := w') (v := .int .i64 ((i : Nat) : Int)) (by rfl) rfl ?_ ?_
                      · go_simp
                        (try simp only [i64_w])
                        try rfl
                      refine hK.out _ _ ⟨vs, (by rw [ha.out]; exact putSel_upk 2 hb_ rfl rfl rfl), Q_FD, fun h0_ => absurd ((hoff 11 (by kernel_rfl)).symm.trans h0_) (by decide), Q_FB, Q_FV, Q_FO, Q_FN⟩
                    refine steps_cons ?_ ?_
                    · rintro b a w' ⟨vs, ha, Q_FD, Q_FD2, Q_FB, Q_FV, Q_FO, Q_FN⟩ hb_ hon hoff
                      refine ⟨_, rfl, fun K hK => ?_⟩
                      have e79 : a.tmps[79]? = some (.slice (some ad) n1 c1) := by rw [ha]; exact putSel_on (e := (1, 79, .slice (some ad) n1 c1)) 1 rfl rfl (hon 1 (by kernel_rfl)) rfl
                      have e80 : a.tmps[80]? = some (.int .i64 ((i : Nat) : Int)) := by rw [ha]; exact putSel_on (e := (2, 80, .int .i64 ((i : Nat) : Int))) 2 rfl rfl (hon 2 (by kernel_rfl)) rfl
                      replace ha := Aside0.mk ha
                      have FD := Aside0.mk (Q_FD (hoff 11 (by kernel_rfl)))
                      have FB := Aside0.mk Q_FB
                      have FO := Aside0.mk Q_FO
                      have FN := Aside0.mk Q_FN
                      refine value_ (w1 := w') (v := .pointer (some (ad.add (i * 5)))) (by rfl) rfl ?_ ?_
                      · go_simp
                        (try simp only [i64_w])
                        try rfl
                      refine hK.out _ _ ⟨vs, (by rw [ha.out]; exact putSel_upk 3 hb_ rfl rfl rfl), Q_FD, fun h0_ => absurd ((hoff 11 (by kernel_rfl)).symm.trans h0_) (by decide), Q_FB, Q_FV, Q_FO, Q_FN⟩
                    refine steps_cons ?_ ?_
                    · rintro b a w' ⟨vs, ha, Q_FD, Q_FD2, Q_FB, Q_FV, Q_FO, Q_FN⟩ hb_ hon hoff
                      refine ⟨_, rfl, fun K hK => ?_⟩
                      have e81 : a.tmps[81]? = some (.pointer (some (ad.add (i * 5)))) := by rw [ha]; exact putSel_on (e := (3, 81, .pointer (some (ad.add (i * 5))))) 3 rfl rfl (hon 3 (by kernel_rfl)) rfl
                      replace ha := Aside0.mk ha
                      have FD := Aside0.mk (Q_FD (hoff 11 (by kernel_rfl)))
                      have FB := Aside0.mk Q_FB
                      have FO := Aside0.mk Q_FO
                      have FN := Aside0.mk Q_FN
                      refine value_ (w1 := w') (v := .pointer (some ⟨(ad.add (i * 5)).block, (ad.add (i * 5)).off + 1, none⟩)) (by rfl) rfl ?_ ?_
                      · go_simp
                        (try simp only [i64_w])
                        try rfl
                      refine hK.out _ _ ⟨vs, (by rw [ha.out]; exact putSel_upk 4 hb_ rfl rfl rfl), Q_FD, fun h0_ => absurd ((hoff 11 (by kernel_rfl)).symm.trans h0_) (by decide), Q_FB, Q_FV, Q_FO, Q_FN⟩
                    refine steps_cons ?_ ?_
                    · rintro b a w' ⟨vs, ha, Q_FD, Q_FD2, Q_FB, Q_FV, Q_FO, Q_FN⟩ hb_ hon hoff
                      refine ⟨_, rfl, fun K hK => ?_⟩
                      have e82 : a.tmps[82]? = some (.pointer (some ⟨(ad.add (i * 5)).block, (ad.add (i * 5)).off + 1, none⟩)) := by rw [ha]; exact putSel_on (e := (4, 82, .pointer (some ⟨(ad.add (i * 5)).block, (ad.add (i * 5)).off + 1, none⟩))) 4 rfl rfl (hon 4 (by kernel_rfl)) rfl
                      replace ha := Aside0.mk ha
                      have FD := Aside0.mk (Q_FD (hoff 11 (by kernel_rfl)))
                      have FB := Aside0.mk Q_FB
                      have FO := Aside0.mk Q_FO
                      have FN := Aside0.mk Q_FN
                      obtain ⟨hact, hcells⟩ := HCELL.out _ FB.out
                      obtain ⟨hc0, hc1, -, -, -⟩ := hact
                      refine value_ (w1 := w') (v := .int .i64 (f1 i).2.1) (by rfl) rfl ?_ ?_
                      · go_simp
                        (try simp only [i64_w])
                        try rfl
                      refine hK.out _ _ ⟨vs, (by rw [ha.out]; exact putSel_upk 5 hb_ rfl rfl rfl), Q_FD, fun h0_ => absurd ((hoff 11 (by kernel_rfl)).symm.trans h0_) (by decide), Q_FB, Q_FV, Q_FO, Q_FN⟩
                    refine steps_cons ?_ ?_
                    · rintro b a w' ⟨vs, ha, Q_FD, Q_FD2, Q_FB, Q_FV, Q_FO, Q_FN⟩ hb_ hon hoff
                      refine ⟨_, rfl, fun K hK => ?_⟩
                      have e1 : a.tmps[1]? = some (.slice (some ad) n1 c1) := by rw [ha]; exact (putSel_off rfl).trans rfl
                      replace ha := Aside0.mk ha
                      have FD := Aside0.mk (Q_FD (hoff 11 (by kernel_rfl)))
                      have FB := Aside0.mk Q_FB
                      have FO := Aside0.mk Q_FO
                      have FN := Aside0.mk Q_FN
                      refine value_ (w1 := w') (v := .slice (some ad) n1 c1) (by rfl) rfl ?_ ?_
                      · go_simp
                        (try simp only [i64_w])
                        try rfl
                      refine hK.out _ _ ⟨vs, (by rw [ha.out]; exact putSel_upk 6 hb_ rfl rfl rfl), Q_FD, fun h0_ => absurd ((hoff 11 (by kernel_rfl)).symm.trans h0_) (by decide), Q_FB, fun h0_ _ => absurd ((hoff 10 (by kernel_rfl)).symm.trans h0_) (by decide), Q_FO, Q_FN⟩
                    refine steps_cons ?_ ?_
                    · rintro b a w' ⟨vs, ha, Q_FD, Q_FD2, Q_FB, Q_FV, Q_FO, Q_FN⟩ hb_ hon hoff
                      refine ⟨_, rfl, fun K hK => ?_⟩
                      have e18 : a.tmps[18]? = some (.int .i64 ((i : Nat) : Int)) := by rw [ha]; exact (putSel_off rfl).trans rfl
                      replace ha := Aside0.mk ha
                      have FD := Aside0.mk (Q_FD (hoff 11 (by kernel_rfl)))
                      have FB := Aside0.mk Q_FB
                      have FO := Aside0.mk Q_FO
                      have FN := Aside0.mk Q_FN
                      refine value_ (w1 := w') (v := .int .i64 ((i : Nat) : Int)) (by rfl) rfl ?_ ?_
                      · go_simp
                        (try simp only [i64_w])
                        try rfl
                      refine hK.out _ _ ⟨vs, (by rw [ha.out]; exact putSel_upk 7 hb_ rfl rfl rfl), Q_FD, fun h0_ => absurd ((hoff 11 (by kernel_rfl)).symm.trans h0_) (by decide), Q_FB, fun h0_ _ => absurd ((hoff 10 (by kernel_rfl)).symm.trans h0_) (by decide), Q_FO, Q_FN⟩
                    refine steps_cons ?_ ?_
                    · rintro b a w' ⟨vs, ha, Q_FD, Q_FD2, Q_FB, Q_FV, Q_FO, Q_FN⟩ hb_ hon hoff
                      refine ⟨_, rfl, fun K hK => ?_⟩
                      have e84 : a.tmps[84]? = some (.slice (some ad) n1 c1) := by rw [ha]; exact putSel_on (e := (6, 84, .slice (some ad) n1 c1)) 6 rfl rfl (hon 6 (by kernel_rfl)) rfl
                      have e85 : a.tmps[85]? = some (.int .i64 ((i : Nat) : Int)) := by rw [ha]; exact putSel_on (e := (7, 85, .int .i64 ((i : Nat) : Int))) 7 rfl rfl (hon 7 (by kernel_rfl)) rfl
                      replace ha := Aside0.mk ha
                      have FD := Aside0.mk (Q_FD (hoff 11 (by kernel_rfl)))
                      have FB := Aside0.mk Q_FB
                      have FO := Aside0.mk Q_FO
                      have FN := Aside0.mk Q_FN
                      refine value_ (w1 := w') (v := .pointer (some (ad.add (i * 5)))) (by rfl) rfl ?_ ?_
                      · go_simp
                        (try simp only [i64_w])
                        try rfl
                      refine hK.out _ _ ⟨vs, (by rw [ha.out]; exact putSel_upk 8 hb_ rfl rfl rfl), Q_FD, fun h0_ => absurd ((hoff 11 (by kernel_rfl)).symm.trans h0_) (by decide), Q_FB, fun h0_ _ => absurd ((hoff 10 (by kernel_rfl)).symm.trans h0_) (by decide), Q_FO, Q_FN⟩
                    refine steps_cons ?_ ?_
                    · rintro b a w' ⟨vs, ha, Q_FD, Q_FD2, Q_FB, Q_FV, Q_FO, Q_FN⟩ hb_ hon hoff
                      refine ⟨_, rfl, fun K hK => ?_⟩
                      have e86 : a.tmps[86]? = some (.pointer (some (ad.add (i * 5)))) := by rw [ha]; exact putSel_on (e := (8, 86, .pointer (some (ad.add (i * 5))))) 8 rfl rfl (hon 8 (by kernel_rfl)) rfl
                      replace ha := Aside0.mk ha
                      have FD := Aside0.mk (Q_FD (hoff 11 (by kernel_rfl)))
                      have FB := Aside0.mk Q_FB
                      have FO := Aside0.mk Q_FO
                      have FN := Aside0.mk Q_FN
                      refine value_ (w1 := w') (v := .agg #[.int .u8 (f1 i).1, .int .i64 (f1 i).2.1, .int .u8 (f1 i).2.2.1, .int .i64 (f1 i).2.2.2.1, .int .i64 (f1 i).2.2.2.2]) (by rfl) rfl (run_load_seg 28 (.tmp 86) rfl (ad.add (i * 5)) (eval_of e86) (actCells (f1 i)) _ Try.underlying28 rfl size_act (HCELL.out _ FB.out).2) ?_
                      refine hK.out _ _ ⟨vs, (by rw [ha.out]; exact putSel_upk 9 hb_ rfl rfl rfl), fun _ => FD.out, fun h0_ => absurd ((hoff 11 (by kernel_rfl)).symm.trans h0_) (by decide), FB.out, fun h0_ _ => absurd ((hoff 10 (by kernel_rfl)).symm.trans h0_) (by decide), FO.out, FN.out⟩
                    refine steps_cons ?_ ?_
                    · rintro b a w' ⟨vs, ha, Q_FD, Q_FD2, Q_FB, Q_FV, Q_FO, Q_FN⟩ hb_ hon hoff
                      refine ⟨_, rfl, fun K hK => ?_⟩
                      have e87 : a.tmps[87]? = some (.agg #[.int .u8 (f1 i).1, .int .i64 (f1 i).2.1, .int .u8 (f1 i).2.2.1, .int .i64 (f1 i).2.2.2.1, .int .i64 (f1 i).2.2.2.2]) := by rw [ha]; exact putSel_on (e := (9, 87, .agg #[.int .u8 (f1 i).1, .int .i64 (f1 i).2.1, .int .u8 (f1 i).2.2.1, .int .i64 (f1 i).2.2.2.1, .int .i64 (f1 i).2.2.2.2])) 9 rfl rfl (hon 9 (by kernel_rfl)) rfl
                      replace ha := Aside0.mk ha
                      have FD := Aside0.mk (Q_FD (hoff 11 (by kernel_rfl)))
                      have FB := Aside0.mk Q_FB
                      have FO := Aside0.mk Q_FO
                      have FN := Aside0.mk Q_FN
                      refine goes_ Try.func13 (by kernel_rfl) rfl #[.agg #[.int .u8 (f1 i).1, .int .i64 (f1 i).2.1, .int .u8 (f1 i).2.2.1, .int .i64 (f1 i).2.2.2.1, .int .i64 (f1 i).2.2.2.2]] (by rfl) rfl rfl (by first | (simp only [List.map_toArray, List.map_cons, List.map_nil, Act.eval, Array.getD_eq_getD_getElem?, Option.getD_some, e87]; done) | (simp only [List.map_toArray, List.map_cons, List.map_nil, Act.eval, Array.getD_eq_getD_getElem?, Option.getD_some, e87]; rfl)) ?_
                      refine (prebendlaw05_made.calls 40 _ _ _ _ _ r _ HMADE.out).mono ?_
                      rintro e w10 ⟨v10, rfl, hR10, hB10⟩
                      refine ⟨v10, rfl, ?_⟩
                      refine hK.out _ _ ⟨v10, (by rw [ha.out]; exact putSel_upk 10 hb_ rfl rfl rfl), fun _ => disk_below FD.out hB10, fun h0_ => absurd ((hoff 11 (by kernel_rfl)).symm.trans h0_) (by decide), below_step FB.out hB10, fun _ _ => ⟨_, hR10⟩, Kd.R_below FO.out hB10, Kd.R_below FN.out hB10⟩
                    refine steps_cons ?_ ?_
                    · rintro b a w' ⟨vs, ha, Q_FD, Q_FD2, Q_FB, Q_FV, Q_FO, Q_FN⟩ hb_ hon hoff
                      refine ⟨_, rfl, fun K hK => ?_⟩
                      have e78 : a.tmps[78]? = some (.pointer (some ⟨g, 0, none⟩)) := by rw [ha]; exact putSel_on (e := (0, 78, .pointer (some ⟨g, 0, none⟩))) 0 rfl rfl (hon 0 (by kernel_rfl)) rfl
                      have e83 : a.tmps[83]? = some (.int .i64 (f1 i).2.1) := by rw [ha]; exact putSel_on (e := (5, 83, .int .i64 (f1 i).2.1)) 5 rfl rfl (hon 5 (by kernel_rfl)) rfl
                      have e88 : a.tmps[88]? = some (vs) := by rw [ha]; exact putSel_on (e := (10, 88, vs)) 10 rfl rfl (hon 10 (by kernel_rfl)) rfl
                      replace ha := Aside0.mk ha
                      have FD := Aside0.mk (Q_FD hb_)
                      have FB := Aside0.mk Q_FB
                      have FV := Aside0.mk (Q_FV (hon 10 (by kernel_rfl)) hb_)
                      have FO := Aside0.mk Q_FO
                      have FN := Aside0.mk Q_FN
                      obtain ⟨b_, hR_⟩ := FV.out
                      obtain ⟨Av, cv, hvs_⟩ := Kd.R_slice hR_
                      rw [hvs_] at e88
                      rw [hvs_] at hR_
                      refine goes_ Try.func12 (by kernel_rfl) rfl #[.pointer (some ⟨g, 0, none⟩), .int .i64 (f1 i).2.1, .slice Av r.length cv] (by rfl) rfl rfl (by first | (simp only [List.map_toArray, List.map_cons, List.map_nil, Act.eval, Array.getD_eq_getD_getElem?, Option.getD_some, e78, e83, e88]; done) | (simp only [List.map_toArray, List.map_cons, List.map_nil, Act.eval, Array.getD_eq_getD_getElem?, Option.getD_some, e78, e83, e88]; rfl)) ?_
                      refine (write_walk w.heap.size g s (f1 i).2.1 Av cv r _ FD.out HFU.out HL1.out (FB.out).size (row_src hR_ _)).mono ?_
                      rintro e w10 ⟨rfl, hD10, hK10⟩
                      refine ⟨_, rfl, ?_⟩
                      refine hK.out _ _ ⟨vs, (by rw [ha.out]; exact putSel_upk 11 hb_ rfl rfl rfl), fun h0_ => absurd ((up_self b 11).symm.trans h0_) (by decide), fun _ => hD10, below_keep FB.out (FB.out).size hK10, fun _ h1_ => absurd ((up_self b 11).symm.trans h1_) (by decide), rows_keep FO.out hK10, rows_keep FN.out hK10⟩
                    exact steps_nil
                  · rintro b a w' hall ⟨vs, ha, Q_FD, Q_FD2, Q_FB, Q_FV, Q_FO, Q_FN⟩
                    clear FB FD FN FO
                    have hb0_ := hall 0 (by kernel_rfl)
                    have hb1_ := hall 1 (by kernel_rfl)
                    have hb2_ := hall 2 (by kernel_rfl)
                    have hb3_ := hall 3 (by kernel_rfl)
                    have hb4_ := hall 4 (by kernel_rfl)
                    have hb5_ := hall 5 (by kernel_rfl)
                    have hb6_ := hall 6 (by kernel_rfl)
                    have hb7_ := hall 7 (by kernel_rfl)
                    have hb8_ := hall 8 (by kernel_rfl)
                    have hb9_ := hall 9 (by kernel_rfl)
                    have hb10_ := hall 10 (by kernel_rfl)
                    have hb11_ := hall 11 (by kernel_rfl)
                    subst ha
                    simp only [putSel, hb0_, hb1_, hb2_, hb3_, hb4_, hb5_, hb6_, hb7_, hb8_, hb9_, hb10_, hb11_, if_true, Act.put, List.setIfInBounds_toArray, List.set_cons_zero, List.set_cons_succ]
                    clear Q_FD
                    have FD2 := Aside0.mk (Q_FD2 hb11_)
                    clear Q_FD2
                    have FB := Aside0.mk Q_FB
                    clear Q_FB
                    clear Q_FV
                    have FO := Aside0.mk Q_FO
                    clear Q_FO
                    have FN := Aside0.mk Q_FN
                    clear Q_FN
                    clear hall hb0_ hb1_ hb2_ hb3_ hb4_ hb5_ hb6_ hb7_ hb8_ hb9_ hb10_ hb11_
                    have hwk := write_keeps s (f1 i).2.1 r HOK.out
                    have hwf := (write_free s (f1 i).2.1 r HF.out).1
                    generalize hs2 : (Write s (f1 i).2.1 r).2 = s2 at *
                    have HO2 := Aside0.mk hwk.1
                    have HG2 := Aside0.mk (hwk.2.1.trans HG.out)
                    have HL2 := Aside0.mk (Nat.le_trans hwk.2.2 (Nat.succ_le_succ HCL.out))
                    clear hwk hs2
                    go_wp2
                    go_roundw
                    case rel => exact ⟨i + 1, s2, by omega, by omega, by go_num, hwf, HG2.out, HO2, HL2.out, FO, FN, FD2, FB⟩
                    case measure => simp [intOf]; omega
                · have hex : (decide (i < n1) = false) ∨ (i < n1 ∧ ¬ (i : Int) < 20) := by
                    by_cases h : i < n1
                    · exact .inr ⟨h, by omega⟩
                    · exact .inl (decide_eq_false h)
                  clear hlt hf hg hcl
                  have HO := Aside0.mk (rows_apart FO.out FN.out)
                  have HN := Aside0.mk (Kd.R_mono FN.out (ok' := fun _ => True) (fun _ _ => trivial))
                  clear FO FN
                  rcases hex with hl1 | ⟨hl1, hl2⟩
                  all_goals
                    go_wp2
                    go_meet
                    exact ⟨i, s, rfl, HF.out, HG.out, HOK, HO, HN, FD, FB⟩
            case rest =>
                  obtain ⟨i, s, rfl, hf, hg, HOK, HO, HN, FD, FB⟩ := hcut
                  have HF := Aside0.mk hf
                  have HG := Aside0.mk hg
                  clear hf hg
                  (try clear HW HD HB)
                  go_wp2
                  go_loopw [14, 19] (fun v14 v19 wr => ∃ j : Nat, j ≤ 8 ∧ v19 = .int .i64 j ∧ Aside0 (rowsK.R 29 wr w.heap.size (fun _ => True) v14 ((List.range j).map (fun (j : Nat) => readB s j))) ∧ Aside0 (rowsK.R 29 wr w.heap.size (fun k => True ∧ some k ≠ v14.ownBlock) (.slice (some ⟨go, 0, none⟩) 8 co) rs) ∧ Aside0 (DiskAt w.heap.size wr g s) ∧ Aside0 (Below w.heap.size w wr)) (fun _ v19 _ => 8 - (intOf v19).toNat)
                  case atStart => exact ⟨0, Nat.zero_le _, rfl, HN, HO, FD, FB⟩
                  case round =>
                    clear HN HO FD FB
                    obtain ⟨j, hj8, rfl, HN, HO, HD, HB⟩ := hrel
                    by_cases hj : j < 8
                    · have hjb : (j : Int) < 8 := by omega
                      go_wp2_with fail
                      refine (read_any w.heap.size g s _ _ HD.out).mono ?_
                      rintro e w5 ⟨v5, rfl, hR5, hB5⟩
                      obtain ⟨A5, c5, hv5⟩ := Kd.R_slice hR5
                      subst hv5
                      have HD5 := Aside0.mk (disk_below HD.out hB5)
                      have HB5 := Aside0.mk (below_step HB.out hB5)
                      have HN5 := Aside0.mk (Kd.R_below HN.out hB5)
                      have HO5 := Aside0.mk (Kd.R_below HO.out hB5)
                      have HV5 := Aside0.mk (R_not (Kd.R_lower hR5 HB.out.size) HN5.out (by intro q hq; simp [Kd.int, Kd.scalar] at hq; omega))
                      have hlen : ((List.range j).map (fun (j : Nat) => readB s j)).length = j := by rw [List.length_map, List.length_range]
                      have hlk : (((List.range j).map (fun (j : Nat) => readB s j)).length + 1) * 24 ≤ 140737488355328 := by rw [hlen]; omega
                      have hsn : (List.range j).map (fun (j : Nat) => readB s j) ++ [readB s j] = (List.range (j + 1)).map (fun (j : Nat) => readB s j) := by rw [List.range_succ, List.map_append]; rfl
                      have HLK := Aside0.mk hlk
                      have HSN := Aside0.mk hsn
                      clear hR5 hB5 HD HB HN HO hlen hlk hsn
                      generalize (List.range j).map (fun (j : Nat) => readB s j) = ns at *
                      obtain ⟨A14, c14, hv14⟩ := Kd.R_slice HN5.out
                      subst hv14
                      go_wp2_with (at_builtin; refine Kd.R_append rowsK (w0 := w) (W := w5) w.heap.size rfl (.tmp 100) (.tmp 102) 33 29 (.slice none 0 0) 24 rfl Try.underlying33 info_slu8 rfl (by decide) (by decide) (.slice A14 ns.length c14) ns (readB s j) [.slice A5 (readB s j).length c5] (fun _ => True) (fun k => some k ≠ (Value.slice A14 ns.length c14).ownBlock) rfl rfl ⟨_, rfl, HV5.out⟩ (fun _ hk => ⟨trivial, hk⟩) (fun _ _ => trivial) HN5.out HB5.out HB5.out.size HLK.out ?_; intro v6 w6 hR6 hB6 hG6 hat6; have HR6 := Aside0.mk hR6; have HB6 := Aside0.mk hB6; have HD6 := Aside0.mk (disk_grown HD5.out HN5.out (by unfold dT; decide) hG6); have HO6 := Aside0.mk (Kd.R_after HO5.out hG6 hat6); clear hR6 hB6 hG6 hat6)
                      go_roundw
                      case rel => exact ⟨j + 1, by omega, by go_num, ⟨by rw [← HSN.out]; exact HR6.out⟩, HO6, HD6, HB6⟩
                      case measure => simp [intOf]; omega
                    · obtain rfl : j = 8 := by omega
                      rw [show ((8 : Nat) : Int) = 8 from rfl]
                      have hnl : ((List.range 8).map (fun (j : Nat) => readB s j)).length = 8 := by rw [List.length_map, List.length_range]
                      have HNROW := Aside0.mk (fun (q : Nat) (hq : q < 8) => (show ((List.range 8).map (fun (j : Nat) => readB s j)).getD q [] = readB s (q : Nat) from by
                        rw [List.getD_eq_getElem?_getD, List.getElem?_map, List.getElem?_range hq]; rfl))
                      generalize (List.range 8).map (fun (j : Nat) => readB s j) = ns at *
                      obtain ⟨gn, cn, hvn, -, -, -⟩ := R_front HN.out (by omega)
                      subst hvn
                      rw [hnl] at HN HO ⊢
                      have HNL := Aside0.mk hnl
                      have HO2 := Aside0.mk (Kd.R_mono HO.out (ok' := fun _ => True) (fun _ _ => trivial))
                      clear HO hnl
                      have HTN := Aside0.mk (fun (q : Nat) (hq : q < 8) => readB_len HD.out q (by rw [HG.out, HG3.out.1]; exact hq))
                      have HG8 := Aside0.mk (show s.good.length = 8 by rw [HG.out]; exact HG3.out.1)
                      have HT := Aside0.mk (fun (q : Nat) (hq : q < 8) => torn_law_at s s3 keep torn cut HOK.out HG.out HG3.out.2.1 q (by rw [HG3.out.1]; exact hq) (readB_len HD.out q (by rw [HG8.out]; exact hq)))
                      go_wp2_with fail
                      refine (crash_walk w.heap.size g s keep torn cut _ HD.out HOK.out.inr).mono ?_
                      rintro e w8 ⟨rfl, hD8, hK8⟩
                      have FD := Aside0.mk (show DiskAt w.heap.size w8 g (Crash s keep torn cut) from hD8)
                      have FB := Aside0.mk (below_keep HB.out HB.out.size hK8)
                      have FO := Aside0.mk (rows_keep HO2.out hK8)
                      have FN := Aside0.mk (rows_keep HN.out hK8)
                      have HG4 := Aside0.mk (show (Crash s keep torn cut).good.length = 8 from (crashed_len ..).trans HG8.out)
                      generalize Crash s keep torn cut = s4 at *
                      clear hD8 hK8 HD HB HO2 HN
                      go_wp2
                      go_loopw [22, 23] (fun v22 v23 wr => ∃ j m : Nat, j ≤ 8 ∧ v23 = .int .i64 j ∧ v22 = .int .i64 m ∧ Aside0 (m = 0 ∨ (m = 1 ∧ ∃ q, q < j ∧ TornAt s torn q)) ∧ Aside0 (rowsK.R 29 wr w.heap.size (fun _ => True) (.slice (some ⟨go, 0, none⟩) 8 co) rs) ∧ Aside0 (rowsK.R 29 wr w.heap.size (fun _ => True) (.slice (some ⟨gn, 0, none⟩) 8 cn) ns) ∧ Aside0 (DiskAt w.heap.size wr g s4) ∧ Aside0 (Below w.heap.size w wr)) (fun _ v23 _ => 8 - (intOf v23).toNat)
                      case atStart => exact ⟨0, 0, Nat.zero_le _, rfl, rfl, ⟨.inl rfl⟩, FO, FN, FD, FB⟩
                      case round =>
                        clear FO FN FD FB
                        obtain ⟨j, m, hj8, rfl, rfl, HM, FO, FN, FD, FB⟩ := hrel
                        have hm1 : m ≤ 1 := by rcases HM.out with h | ⟨h, -⟩ <;> omega
                        by_cases hj : j < 8
                        · have hjb : (j : Int) < 8 := by omega
                          have hj0 : (0 : Int) ≤ (j : Int) := by omega
                          go_wp2_with fail
                          refine (read_any w.heap.size g s4 _ _ FD.out).mono ?_
                          rintro e w9 ⟨v9, rfl, hR9, hB9⟩
                          obtain ⟨A9, c9, hv9⟩ := Kd.R_slice hR9
                          have hC9 := (Kd.R_reads' (hv9 ▸ hR9)).2.2
                          have hc9r := (Kd.R_reads' (hv9 ▸ hR9)).2.1
                          have hb32 := readB_len FD.out j (by rw [HG4.out]; exact hj)
                          have he0 := readE_in s4 j (by rw [HG4.out]; exact hj)
                          rw [hb32] at hv9 hC9 hc9r
                          have HC9R := Aside0.mk hc9r
                          clear hc9r
                          subst hv9
                          rw [he0]
                          have GO := Aside0.mk (Kd.R_below FO.out hB9)
                          have GN := Aside0.mk (Kd.R_below FN.out hB9)
                          have GD := Aside0.mk (disk_below FD.out hB9)
                          have GB := Aside0.mk (below_step FB.out hB9)
                          have HTJ := Aside0.mk (HT.out j hj)
                          obtain ⟨b, hb⟩ : ∃ b, readB s4 j = b := ⟨_, rfl⟩
                          rw [hb] at hC9 hb32 HTJ
                          obtain ⟨ab, rfl, -⟩ := hC9.2.2 (by decide)
                          have HC9 := Aside0.mk hC9
                          have HB32 := Aside0.mk hb32
                          clear FO FN FD FB hR9 hB9 hb hC9 hb32 he0
                          obtain ⟨gn', cn', Aq, cq, hvq, hcq, hCq⟩ := rows_at GN.out j (by rw [HNL.out]; exact hj)
                          injection hvq with hvq h12_ hcw_
                          clear h12_ hcw_
                          injection hvq with hvq
                          injection hvq with hvq
                          subst hvq
                          rw [HNROW.out j hj] at hcq hCq
                          have hn32 := HTN.out j hj
                          obtain ⟨nw, hnw⟩ : ∃ z, readB s j = z := ⟨_, rfl⟩
                          rw [hnw] at hcq hCq hn32 HTJ
                          rw [hn32] at hcq hCq
                          obtain ⟨an, rfl, -⟩ := hCq.2.2 (by decide)
                          have HCQ := Aside0.mk hCq
                          have HN32 := Aside0.mk hn32
                          clear hCq hnw hn32
                          go_wp2
                          go_loopw [26] (fun v26 wr2 => ∃ k nd : Nat, k ≤ 32 ∧ v26 = .int .i64 k ∧ Aside0 (∀ q, q < k → b.getD q 0 = nw.getD q 0) ∧ wr2 = w9.drewN nd) (fun v26 _ => 32 - (intOf v26).toNat)
                          case atStart => exact ⟨0, 0, Nat.zero_le _, rfl, ⟨fun q hq => absurd hq (Nat.not_lt_zero _)⟩, rfl⟩
                          case round =>
                            obtain ⟨k, nd, hk32, rfl, HP, rfl⟩ := hrel
                            have hk0 : (0 : Int) ≤ (k : Int) := by omega
                            by_cases hk : k < 32 ∧ (rd b (k : Int) == rd nw (k : Int)) = true
                            · obtain ⟨hk, hqe⟩ := hk
                              have hkb : (k : Int) < 32 := by omega
                              obtain ⟨ad1, e1, hcb⟩ := Kd.at_int HC9.out (k : Int) hk0 hkb
                              obtain ⟨ad2, e2, hcn⟩ := Kd.at_int HCQ.out (k : Int) hk0 hkb
                              cases e1
                              cases e2
                              rw [Int.toNat_natCast] at hcb hcn
                              go_wp2
                              go_quiet (fail)
                              go_wp2
                              go_roundw
                              case rel => exact ⟨k + 1, _, by omega, by go_num, ⟨fun q hq => by
                                rcases Nat.lt_or_ge q k with h | h
                                · exact HP.out q h
                                · obtain rfl : q = k := by omega
                                  have := eq_of_beq hqe
                                  unfold rd at this
                                  rw [Int.toNat_natCast] at this
                                  exact this⟩, rfl⟩
                              case measure => simp [intOf]; omega
                            · have HKX : Aside0 (k = 32 ∨ b.getD k 0 ≠ nw.getD k 0) := ⟨by
                                rcases Nat.lt_or_ge k 32 with h | h
                                · refine .inr (fun e => hk ⟨h, ?_⟩)
                                  unfold rd
                                  rw [Int.toNat_natCast, e, beq_self_eq_true]
                                · exact .inl (by omega)⟩
                              have hx2 : (k = 32) ∨ (k < 32 ∧ (rd b (k : Int) == rd nw (k : Int)) = false) := by
                                rcases Nat.lt_or_ge k 32 with h | h
                                · exact .inr ⟨h, by cases hq : (rd b (k : Int) == rd nw (k : Int)) with
                                    | false => rfl
                                    | true => exact absurd ⟨h, hq⟩ hk⟩
                                · exact .inl (by omega)
                              clear hk
                              have HK32 := Aside0.mk hk32
                              -- what the strings are
                              obtain ⟨go', co', Ao, cqo, hvo, hco, hcro, hCo⟩ := rows_cap GO.out j (by rw [HRL.out]; exact hj)
                              injection hvo with hvo h12_ hcw_
                              clear h12_ hcw_
                              injection hvo with hvo
                              injection hvo with hvo
                              subst hvo
                              rw [HROW.out j hj] at hco hcro hCo
                              have ho32 := HTO.out j hj
                              obtain ⟨od, hod⟩ : ∃ z, readB s3 j = z := ⟨_, rfl⟩
                              rw [hod] at hco hcro hCo ho32 HTJ
                              rw [ho32] at hco hcro hCo
                              have HCO := Aside0.mk hCo
                              have HCRO := Aside0.mk hcro
                              have HO32 := Aside0.mk ho32
                              clear hCo hcro ho32 hod
                              have hcvb := fun m => Kd.C_string (P := Try.prog) (c := c9) Try.underlying29 Try.underlying5 Try.underlying9 (Kd.C_drewN HC9.out m)
                              have hcvo := fun m => Kd.C_string (P := Try.prog) (c := cqo) Try.underlying29 Try.underlying5 Try.underlying9 (Kd.C_drewN HCO.out m)
                              have hcvn := fun m => Kd.C_string (P := Try.prog) (c := cq) Try.underlying29 Try.underlying5 Try.underlying9 (Kd.C_drewN HCQ.out m)
                              rcases hx2 with hk | ⟨hk, hqe⟩
                              case' inl =>
                                subst hk
                                rw [show ((32 : Nat) : Int) = 32 from rfl]
                                go_wp2
                                go_quiet (fail)
                                go_wp2
                              case' inr =>
                                have hkb : (k : Int) < 32 := by omega
                                obtain ⟨ad1, e1, hcb⟩ := Kd.at_int HC9.out (k : Int) hk0 hkb
                                obtain ⟨ad2, e2, hcn⟩ := Kd.at_int HCQ.out (k : Int) hk0 hkb
                                cases e1
                                cases e2
                                rw [Int.toNat_natCast] at hcb hcn
                                go_wp2
                                go_quiet (fail)
                                go_wp2
                              all_goals
                                cases hxo : ((strOfNums b).toList == (strOfNums od).toList) with
                                | true =>
                                  go_quiet (fail)
                                  go_wp2
                                  go_roundw
                                  case rel => exact ⟨j + 1, m, by omega, by go_num, rfl, ⟨HM.out.imp id fun ⟨h1, q, hq, h2⟩ => ⟨h1, q, Nat.lt_succ_of_lt hq, h2⟩⟩, ⟨Kd.R_drewN GO.out _⟩, ⟨Kd.R_drewN GN.out _⟩, ⟨disk_drewN GD.out _⟩, ⟨pw_below_drewN GB.out _⟩⟩
                                  case measure => simp [intOf]; omega
                                | false =>
                                  cases hxn : ((strOfNums b).toList == (strOfNums nw).toList) with
                                  | true =>
                                    go_quiet (fail)
                                    go_wp2
                                    go_roundw
                                    case rel => exact ⟨j + 1, m, by omega, by go_num, rfl, ⟨HM.out.imp id fun ⟨h1, q, hq, h2⟩ => ⟨h1, q, Nat.lt_succ_of_lt hq, h2⟩⟩, ⟨Kd.R_drewN GO.out _⟩, ⟨Kd.R_drewN GN.out _⟩, ⟨disk_drewN GD.out _⟩, ⟨pw_below_drewN GB.out _⟩⟩
                                    case measure => simp [intOf]; omega
                                  | false =>
                                    obtain ⟨htq, hdq⟩ := torn_case HTJ.out (str_ne hxo) (str_ne hxn)
                                    have hm0 : m = 0 := by
                                      rcases HM.out with h | ⟨h, q, hq, hqt⟩
                                      · exact h
                                      · exact absurd (torn_one hqt htq) (by omega)
                                    subst hm0
                                    have HDR := Aside0.mk (hdq _ HP.out (by first | exact HKX.out | exact .inl rfl))
                                    have HTQ := Aside0.mk htq
                                    obtain ⟨Ab, cb, hs1, hv1⟩ := drop_string2 HC9.out HB32.out HK32.out HC9R.out
                                    obtain ⟨Aod, cod, hs2, hv2⟩ := drop_string2 HCO.out HO32.out HK32.out HCRO.out
                                    rw [HDR.out] at hv1
                                    (try rw [show ((32 : Nat) : Int) = 32 from rfl] at hs1 hs2)
                                    clear htq hdq
                                    go_quiet (fail)
                                    clear hxo hxn hcvb hcvo hcvn
                                    go_wp2
                                    go_quiet (fail)
                                    go_wp2
                                    go_roundw
                                    case rel => exact ⟨j + 1, 1, by omega, by go_num, by go_num, ⟨.inr ⟨rfl, j, Nat.lt_succ_self j, HTQ.out⟩⟩, ⟨Kd.R_drewN GO.out _⟩, ⟨Kd.R_drewN GN.out _⟩, ⟨disk_drewN GD.out _⟩, ⟨pw_below_drewN GB.out _⟩⟩
                                    case measure => simp [intOf]; omega
                        · obtain rfl : j = 8 := by omega
                          have hmb : (m : Int) ≤ 1 := by omega
                          clear FO FN
                          go_wp2_with fail
                          refine (awake_walk _).mono ?_
                          rintro e w9 ⟨rfl, hB9⟩
                          have FB9 := Aside0.mk (below_step FB.out hB9)
                          clear FD FB hB9
                          go_wp2
                          go_ret
                          exact ⟨rfl, FB9.out⟩
end Go.Proofs.Ytmpiljfpgfhljaa.XDisk
