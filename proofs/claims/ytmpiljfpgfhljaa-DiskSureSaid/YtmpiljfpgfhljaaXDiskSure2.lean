/-
  The law DiskSure by its walk.
-/
import Derived.Laws.CopyOwn
import Derived.ArgAppend
import Derived.Below
import Derived.BigQuiet
import Derived.Deep.AppendLies
import Derived.Deep.CutBlock
import Derived.Deep.DeepCutAuto
import Derived.Deep.Draws
import Derived.Deep.LoopGhost
import Derived.Deep.OwnRows
import Derived.Deep.QuietTactic
import Derived.Deep.RegionHeld3
import Derived.Deep.WholeRow
import Derived.KernelRfl
import Derived.Laws.BitsLemmas
import Derived.Laws.BytesArg
import Derived.Laws.IdiomCopy
import Derived.Laws.MakeOwn
import Derived.Laws.OwnMore
import Derived.Laws.Rows
import Derived.Laws.Slices
import Derived.Lib.AppendStr
import Derived.Lib.ConvBytes
import Derived.Lib.Hide
import Derived.Maps.AppendAt
import Derived.OrdersHeld
import Derived.Outline
import Derived.OwnWalk
import Derived.RowKit
import Derived.RowKit3
import Derived.Tactics
import Derived.WalkKit
import Derived.WideLaws
import Derived.Test.YtmpiljfpgfhljaaProg
import Derived.Test.YtmpiljfpgfhljaaWApart
import Derived.Test.YtmpiljfpgfhljaaWArr
import Derived.Test.YtmpiljfpgfhljaaWAt
import Derived.Test.YtmpiljfpgfhljaaWEqStruct
import Derived.Test.YtmpiljfpgfhljaaWFoot
import Derived.Test.YtmpiljfpgfhljaaWFootNe
import Derived.Test.YtmpiljfpgfhljaaWFour
import Derived.Test.YtmpiljfpgfhljaaWGuard
import Derived.Test.YtmpiljfpgfhljaaWInv
import Derived.Test.YtmpiljfpgfhljaaWInvWords
import Derived.Test.YtmpiljfpgfhljaaWKept
import Derived.Test.YtmpiljfpgfhljaaWLast
import Derived.Test.YtmpiljfpgfhljaaWMore
import Derived.Test.YtmpiljfpgfhljaaWN
import Derived.Test.YtmpiljfpgfhljaaWNEv
import Derived.Test.YtmpiljfpgfhljaaWQPut
import Derived.Test.YtmpiljfpgfhljaaWRepsOne
import Derived.Test.YtmpiljfpgfhljaaWShare
import Derived.Test.YtmpiljfpgfhljaaWTab
import Derived.Test.YtmpiljfpgfhljaaWWords
import Derived.Test.YtmpiljfpgfhljaaWZeros
import Derived.Test.YtmpiljfpgfhljaaXSlices

import Derived.Test.YtmpiljfpgfhljaaXDiskMade
namespace Go.Proofs.Ytmpiljfpgfhljaa.XDisk
open Go.RowKit Go.Proofs.YtmpiljfpgfhljaaW.PrintWords Go.Proofs.YtmpiljfpgfhljaaW.PrintLast Go.Proofs.YtmpiljfpgfhljaaW.PrintMore
set_option linter.unusedVariables false
set_option linter.unusedSimpArgs false
open QDiskTorn (prebendlaw05_sector.f prebendlaw05_sector.calls prebendlaw05_made.f prebendlaw05_made.calls)
attribute [local irreducible] locF cacCells Flush Write readB readE nowAt over
def DiskSurea5.T5 : Bool × List (List Nat × List Nat) := (true, [([], []), ([], []), ([], []), ([1, 2], [1, 2]), ([3], [3]), ([4], [4]), ([], []), ([], []), ([6, 7], [6, 7]), ([8], [8]), ([9], [9]), ([0, 5, 10, 10], [0, 5, 10])])
def DiskSurea5.B5 : List Nat := [0, 0, 0, 6, 14, 30, 0, 0, 192, 448, 960, 2047]
theorem DiskSurea5.tab5 : rtab .any (opsOf Try.f3 5) = DiskSurea5.T5 := by kernel_rfl
theorem DiskSurea5.bits5 : waitsOk DiskSurea5.T5.2 DiskSurea5.B5 = true := by kernel_rfl
def DiskSureb18.T18 : Bool × List (List Nat × List Nat) := (true, [([], []), ([], []), ([], []), ([1, 2], [1, 2]), ([3], [3]), ([4], [4]), ([], []), ([], []), ([6, 7], [6, 7]), ([8], [8]), ([9], [9]), ([0, 5, 10, 10], [0, 5, 10]), ([11], [11]), ([12, 11], [12]), ([13], [13]), ([13], [13]), ([14, 15, 13], [13, 14, 15]), ([16, 13], [13, 16]), ([17, 13], [13, 17]), ([18, 13], [13, 18]), ([13, 19], [13, 19]), ([20, 13], [20]), ([21], [21]), ([21], [21]), ([22, 23, 21], [21, 22, 23]), ([24, 21], [21, 24]), ([25, 21], [21, 25]), ([26, 21], [21, 26]), ([21, 27], [21, 27])])
def DiskSureb18.B18 : List Nat := [0, 0, 0, 6, 14, 30, 0, 0, 192, 448, 960, 2047, 4095, 8191, 16383, 16383, 65535, 131071, 262143, 524287, 1048575, 2097151, 4194303, 4194303, 16777215, 33554431, 67108863, 134217727, 268435455]
theorem DiskSureb18.tab18 : rtab .any (opsOf Try.f3 18) = DiskSureb18.T18 := by kernel_rfl
theorem DiskSureb18.bits18 : waitsOk DiskSureb18.T18.2 DiskSureb18.B18 = true := by kernel_rfl
set_option maxRecDepth 10000000 in
set_option maxHeartbeats 16000000 in
theorem sure_law (A0 A1 : Option Addr) (n0 c0 n1 c1 : Nat) (f0 f1 : Nat → Int × Int × Int × Int × Int) (keep torn cut : Int) (w : World) (hact0 : ActAt5 w A0 n0 f0) (hact1 : ActAt5 w A1 n1 f1) (hm0 : n0 ≤ 9223372036854775807) (hm1 : n1 ≤ 9223372036854775807) :
    Calls Try.prog 3 #[.slice A0 n0 c0, .slice A1 n1 c1, .int .i64 keep, .int .i64 torn, .int .i64 cut] w fun e w' => e = .returned (.bool true) ∧ Below w.heap.size w w' := by
  have HACT0 := Aside0.mk hact0
  have HACT1 := Aside0.mk hact1
  clear hact0 hact1
  go_enter Try.func3, Try.ntmps3
  go_wp2_with fail
  refine (new_in 12 12 (by decide) _).mono ?_
  rintro e w1 ⟨g, rfl, hD1, hB1⟩
  have HD1 := Aside0.mk hD1
  have HB1 := Aside0.mk hB1
  clear hD1 hB1
  go_wp2
  go_loopw [12] (fun v12 wr => ∃ (i : Nat) (s : St), i ≤ n0 ∧ i ≤ 40 ∧ v12 = .int .i64 i ∧ s.fuse = -1 ∧ s.good.length = 12 ∧ Aside0 (Ok s) ∧ s.cache.length ≤ i ∧ Aside0 (DiskAt w.heap.size wr g s) ∧ Aside0 (Below w.heap.size w wr)) (fun v12 _ => 40 - (intOf v12).toNat)
  case atStart => exact ⟨0, fresh 12, Nat.zero_le _, by decide, rfl, rfl, List.length_replicate .., ⟨⟨(fun x hx => by cases hx), trivial⟩⟩, Nat.le_refl _, HD1, HB1⟩
  case round =>
    clear HD1 HB1
    obtain ⟨i, s, hin, hi40, rfl, hf, hg, HOK, hcl, FD, FB⟩ := hrel
    have HF := Aside0.mk hf
    have HG := Aside0.mk hg
    by_cases hlt : i < n0 ∧ i < 40
    · obtain ⟨hl1, hl2⟩ := hlt
      have hib : decide ((i : Int) < 40) = true := decide_eq_true (by omega)
      have HFU := Aside0.mk (show s.fuse ≤ 9223372036854775807 by omega)
      have HL1 := Aside0.mk (show (s.cache.length + 1) * 40 ≤ 140737488355328 by omega)
      have HCL := Aside0.mk hcl
      clear hf hg hcl
      obtain ⟨ad, rfl, -, -, hr1, hr2⟩ := HACT0.out i hl1
      have hcell : ∀ w', Below w.heap.size w w' → Act5 w' (ad.add (i * 5)) (f0 i) ∧ (∀ j v, (actCells (f0 i))[j]? = some v → w'.cell? ((ad.add (i * 5)).add j) = some v) := fun w' hb => by
        obtain ⟨ad', e, h1, h2, -⟩ := HACT0.out.below hb i hl1
        injection e with e
        subst e
        exact ⟨h1, h2⟩
      have HCELL := Aside0.mk hcell
      clear hcell
      obtain ⟨r, hr⟩ := made_f (f0 i).1 (f0 i).2.1 (f0 i).2.2.1 (f0 i).2.2.2.1 (f0 i).2.2.2.2 ⟨hr1, hr2⟩
      have HMADE := Aside0.mk hr
      clear hr hr1 hr2
      go_wp2
      refine start_ (n := 12) (S := fun w' => True) (ds := []) #[false, false, false, false, false, false, false, false, false, false, false, false] (by kernel_rfl) rfl rfl trivial (fun hHeld => ?_)
      refine with_tabW DiskSurea5.tab5 DiskSurea5.bits5 (fun HT_ HW_ => ?_)
      refine inv_at [0, 1, 2, 3, 4, 5, 6, 7, 8, 9, 10, 11] (fun a0_ b a w' => ∃ (vs : Value), a = putSel a0_ b [(0, 33, .pointer (some ⟨g, 0, none⟩)), (1, 34, .slice (some ad) n0 c0), (2, 35, .int .i64 ((i : Nat) : Int)), (3, 36, .pointer (some (ad.add (i * 5)))), (4, 37, .pointer (some ⟨(ad.add (i * 5)).block, (ad.add (i * 5)).off + 1, none⟩)), (5, 38, .int .i64 (f0 i).2.1), (6, 39, .slice (some ad) n0 c0), (7, 40, .int .i64 ((i : Nat) : Int)), (8, 41, .pointer (some (ad.add (i * 5)))), (9, 42, .agg #[.int .u8 (f0 i).1, .int .i64 (f0 i).2.1, .int .u8 (f0 i).2.2.1, .int .i64 (f0 i).2.2.2.1, .int .i64 (f0 i).2.2.2.2]), (10, 43, vs), (11, 44, .int .i64 (Write s (f0 i).2.1 r).1)] ∧ (b 11 = false → DiskAt w.heap.size w' g s) ∧ (b 11 = true → DiskAt w.heap.size w' g (Write s (f0 i).2.1 r).2) ∧ (Below w.heap.size w w') ∧ (b 10 = true → b 11 = false → ∃ b_ : Nat, Kd.R (Kd.int .u8) 5 w' b_ (fun _ => True) vs r)) HT_.out HW_.out (by kernel_rfl) (by kernel_rfl) ?_ ?_ ?_
      · exact ⟨.bool false, by simp only [putSel, Bool.false_eq_true, if_false], fun _ => disk_drew FD.out, fun h_ => absurd h_ (by decide), below_drew FB.out, fun h_ => absurd h_ (by decide)⟩
      · skip
        clear FB FD
        refine steps_cons ?_ ?_
        · rintro b a w' ⟨vs, ha, Q_FD, Q_FD2, Q_FB, Q_FV⟩ hb_ hon hoff
          refine ⟨_, rfl, fun K hK => ?_⟩
          have e11 : a.tmps[11]? = some (.pointer (some ⟨g, 0, none⟩)) := by rw [ha]; exact (putSel_off rfl).trans rfl
          replace ha := Aside0.mk ha
          have FD := Aside0.mk (Q_FD (hoff 11 (by kernel_rfl)))
          have FB := Aside0.mk Q_FB
          refine value_ (w1 := w') (v := .pointer (some ⟨g, 0, none⟩)) (by rfl) rfl ?_ ?_
          · go_simp
            (try simp only [i64_w])
            try rfl
          refine hK.out _ _ ⟨vs, (by rw [ha.out]; exact putSel_upk 0 hb_ rfl rfl rfl), Q_FD, fun h0_ => absurd ((hoff 11 (by kernel_rfl)).symm.trans h0_) (by decide), Q_FB, Q_FV⟩
        refine steps_cons ?_ ?_
        · rintro b a w' ⟨vs, ha, Q_FD, Q_FD2, Q_FB, Q_FV⟩ hb_ hon hoff
          refine ⟨_, rfl, fun K hK => ?_⟩
          have e0 : a.tmps[0]? = some (.slice (some ad) n0 c0) := by rw [ha]; exact (putSel_off rfl).trans rfl
          replace ha := Aside0.mk ha
          have FD := Aside0.mk (Q_FD (hoff 11 (by kernel_rfl)))
          have FB := Aside0.mk Q_FB
          refine value_ (w1 := w') (v := .slice (some ad) n0 c0) (by rfl) rfl ?_ ?_
          · go_simp
            (try simp only [i64_w])
            try rfl
          refine hK.out _ _ ⟨vs, (by rw [ha.out]; exact putSel_upk 1 hb_ rfl rfl rfl), Q_FD, fun h0_ => absurd ((hoff 11 (by kernel_rfl)).symm.trans h0_) (by decide), Q_FB, Q_FV⟩
        refine steps_cons ?_ ?_
        · rintro b a w' ⟨vs, ha, Q_FD, Q_FD2, Q_FB, Q_FV⟩ hb_ hon hoff
          refine ⟨_, rfl, fun K hK => ?_⟩
          have e12 : a.tmps[12]? = some (.int .i64 ((i : Nat) : Int)) := by rw [ha]; exact (putSel_off rfl).trans rfl
          replace ha := Aside0.mk ha
          have FD := Aside0.mk (Q_FD (hoff 11 (by kernel_rfl)))
          have FB := Aside0.mk Q_FB
          refine value_ (w1 := w') (v := .int .i64 ((i : Nat) : Int)) (by rfl) rfl ?_ ?_
          · go_simp
            (try simp only [i64_w])
            try rfl
          refine hK.out _ _ ⟨vs, (by rw [ha.out]; exact putSel_upk 2 hb_ rfl rfl rfl), Q_FD, fun h0_ => absurd ((hoff 11 (by kernel_rfl)).symm.trans h0_) (by decide), Q_FB, Q_FV⟩
        refine steps_cons ?_ ?_
        · rintro b a w' ⟨vs, ha, Q_FD, Q_FD2, Q_FB, Q_FV⟩ hb_ hon hoff
          refine ⟨_, rfl, fun K hK => ?_⟩
          have e34 : a.tmps[34]? = some (.slice (some ad) n0 c0) := by rw [ha]; exact putSel_on (e := (1, 34, .slice (some ad) n0 c0)) 1 rfl rfl (hon 1 (by kernel_rfl)) rfl
          have e35 : a.tmps[35]? = some (.int .i64 ((i : Nat) : Int)) := by rw [ha]; exact putSel_on (e := (2, 35, .int .i64 ((i : Nat) : Int))) 2 rfl rfl (hon 2 (by kernel_rfl)) rfl
          replace ha := Aside0.mk ha
          have FD := Aside0.mk (Q_FD (hoff 11 (by kernel_rfl)))
          have FB := Aside0.mk Q_FB
          refine value_ (w1 := w') (v := .pointer (some (ad.add (i * 5)))) (by rfl) rfl ?_ ?_
          · go_simp
            (try simp only [i64_w])
            try rfl
          refine hK.out _ _ ⟨vs, (by rw [ha.out]; exact putSel_upk 3 hb_ rfl rfl rfl), Q_FD, fun h0_ => absurd ((hoff 11 (by kernel_rfl)).symm.trans h0_) (by decide), Q_FB, Q_FV⟩
        refine steps_cons ?_ ?_
        · rintro b a w' ⟨vs, ha, Q_FD, Q_FD2, Q_FB, Q_FV⟩ hb_ hon hoff
          refine ⟨_, rfl, fun K hK => ?_⟩
          have e36 : a.tmps[36]? = some (.pointer (some (ad.add (i * 5)))) := by rw [ha]; exact putSel_on (e := (3, 36, .pointer (some (ad.add (i * 5))))) 3 rfl rfl (hon 3 (by kernel_rfl)) rfl
          replace ha := Aside0.mk ha
          have FD := Aside0.mk (Q_FD (hoff 11 (by kernel_rfl)))
          have FB := Aside0.mk Q_FB
          refine value_ (w1 := w') (v := .pointer (some ⟨(ad.add (i * 5)).block, (ad.add (i * 5)).off + 1, none⟩)) (by rfl) rfl ?_ ?_
          · go_simp
            (try simp only [i64_w])
            try rfl
          refine hK.out _ _ ⟨vs, (by rw [ha.out]; exact putSel_upk 4 hb_ rfl rfl rfl), Q_FD, fun h0_ => absurd ((hoff 11 (by kernel_rfl)).symm.trans h0_) (by decide), Q_FB, Q_FV⟩
        refine steps_cons ?_ ?_
        · rintro b a w' ⟨vs, ha, Q_FD, Q_FD2, Q_FB, Q_FV⟩ hb_ hon hoff
          refine ⟨_, rfl, fun K hK => ?_⟩
          have e37 : a.tmps[37]? = some (.pointer (some ⟨(ad.add (i * 5)).block, (ad.add (i * 5)).off + 1, none⟩)) := by rw [ha]; exact putSel_on (e := (4, 37, .pointer (some ⟨(ad.add (i * 5)).block, (ad.add (i * 5)).off + 1, none⟩))) 4 rfl rfl (hon 4 (by kernel_rfl)) rfl
          replace ha := Aside0.mk ha
          have FD := Aside0.mk (Q_FD (hoff 11 (by kernel_rfl)))
          have FB := Aside0.mk Q_FB
          obtain ⟨hact, hcells⟩ := HCELL.out _ FB.out
          obtain ⟨hc0, hc1, -, -, -⟩ := hact
          refine value_ (w1 := w') (v := .int .i64 (f0 i).2.1) (by rfl) rfl ?_ ?_
          · go_simp
            (try simp only [i64_w])
            try rfl
          refine hK.out _ _ ⟨vs, (by rw [ha.out]; exact putSel_upk 5 hb_ rfl rfl rfl), Q_FD, fun h0_ => absurd ((hoff 11 (by kernel_rfl)).symm.trans h0_) (by decide), Q_FB, Q_FV⟩
        refine steps_cons ?_ ?_
        · rintro b a w' ⟨vs, ha, Q_FD, Q_FD2, Q_FB, Q_FV⟩ hb_ hon hoff
          refine ⟨_, rfl, fun K hK => ?_⟩
          have e0 : a.tmps[0]? = some (.slice (some ad) n0 c0) := by rw [ha]; exact (putSel_off rfl).trans rfl
          replace ha := Aside0.mk ha
          have FD := Aside0.mk (Q_FD (hoff 11 (by kernel_rfl)))
          have FB := Aside0.mk Q_FB
          refine value_ (w1 := w') (v := .slice (some ad) n0 c0) (by rfl) rfl ?_ ?_
          · go_simp
            (try simp only [i64_w])
            try rfl
          refine hK.out _ _ ⟨vs, (by rw [ha.out]; exact putSel_upk 6 hb_ rfl rfl rfl), Q_FD, fun h0_ => absurd ((hoff 11 (by kernel_rfl)).symm.trans h0_) (by decide), Q_FB, fun h0_ _ => absurd ((hoff 10 (by kernel_rfl)).symm.trans h0_) (by decide)⟩
        refine steps_cons ?_ ?_
        · rintro b a w' ⟨vs, ha, Q_FD, Q_FD2, Q_FB, Q_FV⟩ hb_ hon hoff
          refine ⟨_, rfl, fun K hK => ?_⟩
          have e12 : a.tmps[12]? = some (.int .i64 ((i : Nat) : Int)) := by rw [ha]; exact (putSel_off rfl).trans rfl
          replace ha := Aside0.mk ha
          have FD := Aside0.mk (Q_FD (hoff 11 (by kernel_rfl)))
          have FB := Aside0.mk Q_FB
          refine value_ (w1 := w') (v := .int .i64 ((i : Nat) : Int)) (by rfl) rfl ?_ ?_
          · go_simp
            (try simp only [i64_w])
            try rfl
          refine hK.out _ _ ⟨vs, (by rw [ha.out]; exact putSel_upk 7 hb_ rfl rfl rfl), Q_FD, fun h0_ => absurd ((hoff 11 (by kernel_rfl)).symm.trans h0_) (by decide), Q_FB, fun h0_ _ => absurd ((hoff 10 (by kernel_rfl)).symm.trans h0_) (by decide)⟩
        refine steps_cons ?_ ?_
        · rintro b a w' ⟨vs, ha, Q_FD, Q_FD2, Q_FB, Q_FV⟩ hb_ hon hoff
          refine ⟨_, rfl, fun K hK => ?_⟩
          have e39 : a.tmps[39]? = some (.slice (some ad) n0 c0) := by rw [ha]; exact putSel_on (e := (6, 39, .slice (some ad) n0 c0)) 6 rfl rfl (hon 6 (by kernel_rfl)) rfl
          have e40 : a.tmps[40]? = some (.int .i64 ((i : Nat) : Int)) := by rw [ha]; exact putSel_on (e := (7, 40, .int .i64 ((i : Nat) : Int))) 7 rfl rfl (hon 7 (by kernel_rfl)) rfl
          replace ha := Aside0.mk ha
          have FD := Aside0.mk (Q_FD (hoff 11 (by kernel_rfl)))
          have FB := Aside0.mk Q_FB
          refine value_ (w1 := w') (v := .pointer (some (ad.add (i * 5)))) (by rfl) rfl ?_ ?_
          · go_simp
            (try simp only [i64_w])
            try rfl
          refine hK.out _ _ ⟨vs, (by rw [ha.out]; exact putSel_upk 8 hb_ rfl rfl rfl), Q_FD, fun h0_ => absurd ((hoff 11 (by kernel_rfl)).symm.trans h0_) (by decide), Q_FB, fun h0_ _ => absurd ((hoff 10 (by kernel_rfl)).symm.trans h0_) (by decide)⟩
        refine steps_cons ?_ ?_
        · rintro b a w' ⟨vs, ha, Q_FD, Q_FD2, Q_FB, Q_FV⟩ hb_ hon hoff
          refine ⟨_, rfl, fun K hK => ?_⟩
          have e41 : a.tmps[41]? = some (.pointer (some (ad.add (i * 5)))) := by rw [ha]; exact putSel_on (e := (8, 41, .pointer (some (ad.add (i * 5))))) 8 rfl rfl (hon 8 (by kernel_rfl)) rfl
          replace ha := Aside0.mk ha
          have FD := Aside0.mk (Q_FD (hoff 11 (by kernel_rfl)))
          have FB := Aside0.mk Q_FB
          refine value_ (w1 := w') (v := .agg #[.int .u8 (f0 i).1, .int .i64 (f0 i).2.1, .int .u8 (f0 i).2.2.1, .int .i64 (f0 i).2.2.2.1, .int .i64 (f0 i).2.2.2.2]) (by rfl) rfl (run_load_seg 28 (.tmp 41) rfl (ad.add (i * 5)) (eval_of e41) (actCells (f0 i)) _ Try.underlying28 rfl size_act (HCELL.out _ FB.out).2) ?_
          refine hK.out _ _ ⟨vs, (by rw [ha.out]; exact putSel_upk 9 hb_ rfl rfl rfl), fun _ => FD.out, fun h0_ => absurd ((hoff 11 (by kernel_rfl)).symm.trans h0_) (by decide), FB.out, fun h0_ _ => absurd ((hoff 10 (by kernel_rfl)).symm.trans h0_) (by decide)⟩
        refine steps_cons ?_ ?_
        · rintro b a w' ⟨vs, ha, Q_FD, Q_FD2, Q_FB, Q_FV⟩ hb_ hon hoff
          refine ⟨_, rfl, fun K hK => ?_⟩
          have e42 : a.tmps[42]? = some (.agg #[.int .u8 (f0 i).1, .int .i64 (f0 i).2.1, .int .u8 (f0 i).2.2.1, .int .i64 (f0 i).2.2.2.1, .int .i64 (f0 i).2.2.2.2]) := by rw [ha]; exact putSel_on (e := (9, 42, .agg #[.int .u8 (f0 i).1, .int .i64 (f0 i).2.1, .int .u8 (f0 i).2.2.1, .int .i64 (f0 i).2.2.2.1, .int .i64 (f0 i).2.2.2.2])) 9 rfl rfl (hon 9 (by kernel_rfl)) rfl
          replace ha := Aside0.mk ha
          have FD := Aside0.mk (Q_FD (hoff 11 (by kernel_rfl)))
          have FB := Aside0.mk Q_FB
          refine goes_ Try.func13 (by kernel_rfl) rfl #[.agg #[.int .u8 (f0 i).1, .int .i64 (f0 i).2.1, .int .u8 (f0 i).2.2.1, .int .i64 (f0 i).2.2.2.1, .int .i64 (f0 i).2.2.2.2]] (by rfl) rfl rfl (by first | (simp only [List.map_toArray, List.map_cons, List.map_nil, Act.eval, Array.getD_eq_getD_getElem?, Option.getD_some, e42]; done) | (simp only [List.map_toArray, List.map_cons, List.map_nil, Act.eval, Array.getD_eq_getD_getElem?, Option.getD_some, e42]; rfl)) ?_
          refine (prebendlaw05_made.calls 40 _ _ _ _ _ r _ HMADE.out).mono ?_
          rintro e w10 ⟨v10, rfl, hR10, hB10⟩
          refine ⟨v10, rfl, ?_⟩
          refine hK.out _ _ ⟨v10, (by rw [ha.out]; exact putSel_upk 10 hb_ rfl rfl rfl), fun _ => disk_below FD.out hB10, fun h0_ => absurd ((hoff 11 (by kernel_rfl)).symm.trans h0_) (by decide), below_step FB.out hB10, fun _ _ => ⟨_, hR10⟩⟩
        refine steps_cons ?_ ?_
        · rintro b a w' ⟨vs, ha, Q_FD, Q_FD2, Q_FB, Q_FV⟩ hb_ hon hoff
          refine ⟨_, rfl, fun K hK => ?_⟩
          have e33 : a.tmps[33]? = some (.pointer (some ⟨g, 0, none⟩)) := by rw [ha]; exact putSel_on (e := (0, 33, .pointer (some ⟨g, 0, none⟩))) 0 rfl rfl (hon 0 (by kernel_rfl)) rfl
          have e38 : a.tmps[38]? = some (.int .i64 (f0 i).2.1) := by rw [ha]; exact putSel_on (e := (5, 38, .int .i64 (f0 i).2.1)) 5 rfl rfl (hon 5 (by kernel_rfl)) rfl
          have e43 : a.tmps[43]? = some (vs) := by rw [ha]; exact putSel_on (e := (10, 43, vs)) 10 rfl rfl (hon 10 (by kernel_rfl)) rfl
          replace ha := Aside0.mk ha
          have FD := Aside0.mk (Q_FD hb_)
          have FB := Aside0.mk Q_FB
          have FV := Aside0.mk (Q_FV (hon 10 (by kernel_rfl)) hb_)
          obtain ⟨b_, hR_⟩ := FV.out
          obtain ⟨Av, cv, hvs_⟩ := Kd.R_slice hR_
          rw [hvs_] at e43
          rw [hvs_] at hR_
          refine goes_ Try.func12 (by kernel_rfl) rfl #[.pointer (some ⟨g, 0, none⟩), .int .i64 (f0 i).2.1, .slice Av r.length cv] (by rfl) rfl rfl (by first | (simp only [List.map_toArray, List.map_cons, List.map_nil, Act.eval, Array.getD_eq_getD_getElem?, Option.getD_some, e33, e38, e43]; done) | (simp only [List.map_toArray, List.map_cons, List.map_nil, Act.eval, Array.getD_eq_getD_getElem?, Option.getD_some, e33, e38, e43]; rfl)) ?_
          refine (write_walk w.heap.size g s (f0 i).2.1 Av cv r _ FD.out HFU.out HL1.out (FB.out).size (row_src hR_ _)).mono ?_
          rintro e w10 ⟨rfl, hD10, hK10⟩
          refine ⟨_, rfl, ?_⟩
          refine hK.out _ _ ⟨vs, (by rw [ha.out]; exact putSel_upk 11 hb_ rfl rfl rfl), fun h0_ => absurd ((up_self b 11).symm.trans h0_) (by decide), fun _ => hD10, below_keep FB.out (FB.out).size hK10, fun _ h1_ => absurd ((up_self b 11).symm.trans h1_) (by decide)⟩
        exact steps_nil
      · rintro b a w' hall ⟨vs, ha, Q_FD, Q_FD2, Q_FB, Q_FV⟩
        clear FB FD
        have hb0_ := hall 0 (by kernel_rfl)
        have hb1_ := hall 1 (by kernel_rfl)
        have hb2_ := hall 2 (by kernel_rfl)
        have hb3_ := hall 3 (by kernel_rfl)
        have hb4_ := hall 4 (by kernel_rfl)
        have hb5_ := hall 5 (by kernel_rfl)
        have hb6_ := hall 6 (by kernel_rfl)
        have hb7_ := hall 7 (by kernel_rfl)
        have hb8_ := hall 8 (by kernel_rfl)
        have hb9_ := hall 9 (by kernel_rfl)
        have hb10_ := hall 10 (by kernel_rfl)
        have hb11_ := hall 11 (by kernel_rfl)
        subst ha
        simp only [putSel, hb0_, hb1_, hb2_, hb3_, hb4_, hb5_, hb6_, hb7_, hb8_, hb9_, hb10_, hb11_, if_true, Act.put, List.setIfInBounds_toArray, List.set_cons_zero, List.set_cons_succ]
        clear Q_FD
        have FD2 := Aside0.mk (Q_FD2 hb11_)
        clear Q_FD2
        have FB := Aside0.mk Q_FB
        clear Q_FB
        clear Q_FV
        clear hall hb0_ hb1_ hb2_ hb3_ hb4_ hb5_ hb6_ hb7_ hb8_ hb9_ hb10_ hb11_
        have hwk := write_keeps s (f0 i).2.1 r HOK.out
        have hwf := (write_free s (f0 i).2.1 r HF.out).1
        generalize hs2 : (Write s (f0 i).2.1 r).2 = s2 at *
        have HO2 := Aside0.mk hwk.1
        have HG2 := Aside0.mk ((congrArg List.length hwk.2.1).trans HG.out)
        have HL2 := Aside0.mk (Nat.le_trans hwk.2.2 (Nat.succ_le_succ HCL.out))
        clear hwk hs2
        go_wp2
        go_roundw
        case rel => exact ⟨i + 1, s2, by omega, by omega, by go_num, hwf, HG2.out, HO2, HL2.out, FD2, FB⟩
        case measure => simp [intOf]; omega
    · have hex : (decide (i < n0) = false) ∨ (i < n0 ∧ ¬ (i : Int) < 40) := by
        by_cases h : i < n0
        · exact .inr ⟨h, by omega⟩
        · exact .inl (decide_eq_false h)
      clear hlt hf hg hcl
      rcases hex with hl1 | ⟨hl1, hl2⟩
      all_goals
        have HFU := Aside0.mk (show s.fuse ≤ 9223372036854775807 by rw [HF.out]; decide)
        go_wp2_with fail
        refine (flush_any w.heap.size g s _ FD.out HFU.out HOK.out.inr).mono ?_
        rintro e w3 ⟨rfl, hD3, hK3⟩
        have hff := flush_free s HF.out
        rw [hff] at hD3
        rw [hff]
        have HB3 := Aside0.mk (below_keep FB.out FB.out.size hK3)
        obtain ⟨s3, hs3⟩ : ∃ z : St, ({ good := over s.good s.cache, cache := [], fuse := -1 } : St) = z := ⟨_, rfl⟩
        have hg3 : s3.good.length = 12 ∧ s3.cache = [] ∧ s3.fuse = -1 := by rw [← hs3]; exact ⟨(over_len _ _).trans HG.out, rfl, rfl⟩
        simp only [hs3] at hD3
        have HD3 := Aside0.mk hD3
        have HG3 := Aside0.mk hg3
        clear hs3 hff hD3 hg3 hK3 FD FB HG HOK HF HFU hl1
        (try clear hl2)
        go_wp2_with fail
        refine (cached_walk w.heap.size g s3 _ HD3.out).mono ?_
        rintro e w3' ⟨rfl, rfl⟩
        rw [HG3.out.2.1]
        have HW4 := Aside0.mk (R_empty rowsK w3 w.heap.size 29 HB3.out.size)
        have HD4 := Aside0.mk (disk_below HD3.out ((Below.refl w3.heap.size w3).alloc (Nat.le_refl _) (.cells #[] 29)))
        have HB4 := Aside0.mk (HB3.out.alloc HB3.out.size (.cells #[] 29))
        clear HD3 HB3
        go_wp2
        go_loopw [13, 14] (fun v13 v14 wr => ∃ i : Nat, i ≤ 12 ∧ v14 = .int .i64 i ∧ Aside0 (rowsK.R 29 wr w.heap.size (fun _ => True) v13 ((List.range i).map (fun (j : Nat) => readB s3 j))) ∧ Aside0 (DiskAt w.heap.size wr g s3) ∧ Aside0 (Below w.heap.size w wr)) (fun _ v14 _ => 12 - (intOf v14).toNat)
        case atStart => exact ⟨0, Nat.zero_le _, rfl, HW4, HD4, HB4⟩
        case round =>
          clear HW4 HD4 HB4
          obtain ⟨j, hj12, rfl, HW, HD, HB⟩ := hrel
          by_cases hj : j < 12
          · have hjb : (j : Int) < 12 := by omega
            go_wp2_with fail
            refine (read_any w.heap.size g s3 _ _ HD.out).mono ?_
            rintro e w5 ⟨v5, rfl, hR5, hB5⟩
            obtain ⟨A5, c5, hv5⟩ := Kd.R_slice hR5
            subst hv5
            have HD5 := Aside0.mk (disk_below HD.out hB5)
            have HB5 := Aside0.mk (below_step HB.out hB5)
            have HW5 := Aside0.mk (Kd.R_below HW.out hB5)
            have HV5 := Aside0.mk (R_not (Kd.R_lower hR5 HB.out.size) HW5.out (by intro q hq; simp [Kd.int, Kd.scalar] at hq; omega))
            have hlen : ((List.range j).map (fun (j : Nat) => readB s3 j)).length = j := by rw [List.length_map, List.length_range]
            have hlk : (((List.range j).map (fun (j : Nat) => readB s3 j)).length + 1) * 24 ≤ 140737488355328 := by rw [hlen]; omega
            have hsn : (List.range j).map (fun (j : Nat) => readB s3 j) ++ [readB s3 j] = (List.range (j + 1)).map (fun (j : Nat) => readB s3 j) := by rw [List.range_succ, List.map_append]; rfl
            have HLK := Aside0.mk hlk
            have HSN := Aside0.mk hsn
            clear hR5 hB5 HD HB HW hlen hlk hsn
            generalize (List.range j).map (fun (j : Nat) => readB s3 j) = rs at *
            obtain ⟨A13, c13, hv13⟩ := Kd.R_slice HW5.out
            subst hv13
            go_wp2_with (at_builtin; refine Kd.R_append rowsK (w0 := w) (W := w5) w.heap.size rfl (.tmp 64) (.tmp 66) 33 29 (.slice none 0 0) 24 rfl Try.underlying33 info_slu8 rfl (by decide) (by decide) (.slice A13 rs.length c13) rs (readB s3 j) [.slice A5 (readB s3 j).length c5] (fun _ => True) (fun k => some k ≠ (Value.slice A13 rs.length c13).ownBlock) rfl rfl ⟨_, rfl, HV5.out⟩ (fun _ hk => ⟨trivial, hk⟩) (fun _ _ => trivial) HW5.out HB5.out HB5.out.size HLK.out ?_; intro v6 w6 hR6 hB6 hG6 _; have HR6 := Aside0.mk hR6; have HB6 := Aside0.mk hB6; have HD6 := Aside0.mk (disk_grown HD5.out HW5.out (by unfold dT; decide) hG6); clear hR6 hB6 hG6)
            go_roundw
            case rel => exact ⟨j + 1, by omega, by go_num, ⟨by rw [← HSN.out]; exact HR6.out⟩, HD6, HB6⟩
            case measure => simp [intOf]; omega
          · obtain rfl : j = 12 := by omega
            have hrl : ((List.range 12).map (fun (j : Nat) => readB s3 j)).length = 12 := by rw [List.length_map, List.length_range]
            have hrow : ∀ q, q < 12 → ((List.range 12).map (fun (j : Nat) => readB s3 j)).getD q [] = readB s3 (q : Nat) := fun q hq => by
              rw [List.getD_eq_getElem?_getD, List.getElem?_map, List.getElem?_range hq]; rfl
            have HROW := Aside0.mk hrow
            generalize (List.range 12).map (fun (j : Nat) => readB s3 j) = rs at *
            clear hrow
            obtain ⟨gw, cw, hvw, -, -, -⟩ := R_front HW.out (by omega)
            subst hvw
            rw [hrl] at HW
            go_wp2_with ((with_reducible refine gate_dst (N := 68) rfl ?_); refine Kd.R_make Kd.bool (w0 := w) (W := wr) w.heap.size 4 rfl (N := 68) rfl 36 _ _ rfl 12 rfl rfl Try.underlying36 (.bool false) 1 info_bool rfl (by decide) (by decide) false (ok := fun _ => True) (okp := fun _ => True) rfl (fun _ hk => hk) trivial (by decide) (by decide) HB.out HB.out.size ?_; intro v7 w7 hR7 hB7 hG7 _; obtain ⟨ga, ca, hva, -, -, -⟩ := R_front hR7 (by decide); subst hva; have hBG := grown_none hG7; have HA7 := Aside0.mk hR7; have HB7 := Aside0.mk hB7; have HD7 := Aside0.mk (disk_below HD.out hBG); have HW7 := Aside0.mk (Kd.R_below HW.out hBG); clear hR7 hB7 hG7 hBG)
            clear HD HW HB
            go_loopw [18] (fun v18 wr => ∃ (i : Nat) (s : St) (ag : List Bool), i ≤ n1 ∧ i ≤ 20 ∧ v18 = .int .i64 i ∧ s.fuse = -1 ∧ s.good = s3.good ∧ Aside0 (Ok s) ∧ s.cache.length ≤ i ∧ Aside0 (ag.length = 12) ∧ Aside0 (∀ x ∈ s.cache, ag.getD x.1.toNat false = true) ∧ Aside0 (Kd.bool.R 4 wr w.heap.size (fun _ => True) (.slice (some ⟨ga, 0, none⟩) 12 ca) ag) ∧ Aside0 (rowsK.R 29 wr w.heap.size (fun _ => True) (.slice (some ⟨gw, 0, none⟩) 12 cw) rs) ∧ Aside0 (DiskAt w.heap.size wr g s) ∧ Aside0 (Below w.heap.size w wr)) (fun v18 _ => 20 - (intOf v18).toNat)
            case atStart => exact ⟨0, s3, List.replicate 12 false, Nat.zero_le _, by decide, rfl, HG3.out.2.2, rfl, ⟨⟨(by unfold InR; rw [HG3.out.2.1]; intro x hx; cases hx), (by rw [HG3.out.2.1]; trivial)⟩⟩, by rw [HG3.out.2.1]; exact Nat.zero_le _, ⟨rfl⟩, ⟨by rw [HG3.out.2.1]; intro x hx; cases hx⟩, HA7, HW7, HD7, HB7⟩
            case round =>
              clear HA7 HW7 HD7 HB7
              obtain ⟨i, s, ag, hin, hi20, rfl, hf, hg, HOK, hcl, HAL, HAG, FA, FW, FD, FB⟩ := hrel
              have HF := Aside0.mk hf
              have HG := Aside0.mk hg
              by_cases hlt : i < n1 ∧ i < 20
              · obtain ⟨hl1, hl2⟩ := hlt
                have hib : decide ((i : Int) < 20) = true := decide_eq_true (by omega)
                have HFU := Aside0.mk (show s.fuse ≤ 9223372036854775807 by omega)
                have HL1 := Aside0.mk (show (s.cache.length + 1) * 40 ≤ 140737488355328 by omega)
                have HCL := Aside0.mk hcl
                clear hf hg hcl
                obtain ⟨ad, rfl, -, -, hr1, hr2⟩ := HACT1.out i hl1
                have hcell : ∀ w', Below w.heap.size w w' → Act5 w' (ad.add (i * 5)) (f1 i) ∧ (∀ j v, (actCells (f1 i))[j]? = some v → w'.cell? ((ad.add (i * 5)).add j) = some v) := fun w' hb => by
                  obtain ⟨ad', e, h1, h2, -⟩ := HACT1.out.below hb i hl1
                  injection e with e
                  subst e
                  exact ⟨h1, h2⟩
                have HCELL := Aside0.mk hcell
                clear hcell
                obtain ⟨r, hr⟩ := made_f (f1 i).1 (f1 i).2.1 (f1 i).2.2.1 (f1 i).2.2.2.1 (f1 i).2.2.2.2 ⟨hr1, hr2⟩
                have HMADE := Aside0.mk hr
                clear hr hr1 hr2
                have hwk := write_keeps s (f1 i).2.1 r HOK.out
                obtain ⟨hwf, hw0, hw1⟩ := write_free s (f1 i).2.1 r HF.out
                have HWF := Aside0.mk hwf
                have HO2 := Aside0.mk hwk.1
                have HG2 := Aside0.mk (hwk.2.1.trans HG.out)
                have HL2 := Aside0.mk (Nat.le_trans hwk.2.2 (Nat.succ_le_succ HCL.out))
                clear hwk hwf
                by_cases he : (Write s (f1 i).2.1 r).1 = 0
                · obtain ⟨hh, hput⟩ := hw0 he
                  obtain ⟨ha0, ha1⟩ := has_true hh
                  rw [congrArg List.length HG.out, HG3.out.1] at ha1
                  have HE := Aside0.mk he
                  have HPUT := Aside0.mk hput
                  clear he hput hh hw0 hw1
                  have ha2 : (f1 i).2.1 < 12 := ha1
                  go_wp2
                  refine start_ (n := 29) (S := fun w' => True) (ds := []) #[false, false, false, false, false, false, false, false, false, false, false, false, false, false, false, false, false, false, false, false, false, false, false, false, false, false, false, false, false] (by kernel_rfl) rfl rfl trivial (fun hHeld => ?_)
                  refine with_tabW DiskSureb18.tab18 DiskSureb18.bits18 (fun HT_ HW_ => ?_)
                  refine inv_at [0, 1, 2, 3, 4, 5, 6, 7, 8, 9, 10, 11, 12, 13, 14, 15, 16, 17, 18, 19, 20, 21, 22, 23, 24, 25, 26, 27, 28] (fun a0_ b a w' => ∃ (vs : Value), a = putSel a0_ b [(0, 79, .pointer (some ⟨g, 0, none⟩)), (1, 80, .slice (some ad) n1 c1), (2, 81, .int .i64 ((i : Nat) : Int)), (3, 82, .pointer (some (ad.add (i * 5)))), (4, 83, .pointer (some ⟨(ad.add (i * 5)).block, (ad.add (i * 5)).off + 1, none⟩)), (5, 84, .int .i64 (f1 i).2.1), (6, 85, .slice (some ad) n1 c1), (7, 86, .int .i64 ((i : Nat) : Int)), (8, 87, .pointer (some (ad.add (i * 5)))), (9, 88, .agg #[.int .u8 (f1 i).1, .int .i64 (f1 i).2.1, .int .u8 (f1 i).2.2.1, .int .i64 (f1 i).2.2.2.1, .int .i64 (f1 i).2.2.2.2]), (10, 89, vs), (11, 90, .int .i64 0), (12, 91, .bool true), (13, 92, .bool true), (14, 93, .slice (some ad) n1 c1), (15, 94, .int .i64 ((i : Nat) : Int)), (16, 95, .pointer (some (ad.add (i * 5)))), (17, 96, .pointer (some ⟨(ad.add (i * 5)).block, (ad.add (i * 5)).off + 1, none⟩)), (18, 97, .int .i64 (f1 i).2.1), (19, 98, .bool true), (20, 99, .bool true), (21, 100, .bool true), (22, 101, .slice (some ad) n1 c1), (23, 102, .int .i64 ((i : Nat) : Int)), (24, 103, .pointer (some (ad.add (i * 5)))), (25, 104, .pointer (some ⟨(ad.add (i * 5)).block, (ad.add (i * 5)).off + 1, none⟩)), (26, 105, .int .i64 (f1 i).2.1), (27, 106, .bool true), (28, 107, .bool true)] ∧ (b 11 = false → DiskAt w.heap.size w' g s) ∧ (b 11 = true → DiskAt w.heap.size w' g (Write s (f1 i).2.1 r).2) ∧ (Below w.heap.size w w') ∧ (b 10 = true → b 11 = false → ∃ b_ : Nat, Kd.R (Kd.int .u8) 5 w' b_ (fun _ => True) vs r) ∧ (Kd.bool.R 4 w' w.heap.size (fun _ => True) (.slice (some ⟨ga, 0, none⟩) 12 ca) ag) ∧ (rowsK.R 29 w' w.heap.size (fun _ => True) (.slice (some ⟨gw, 0, none⟩) 12 cw) rs)) HT_.out HW_.out (by kernel_rfl) (by kernel_rfl) ?_ ?_ ?_
                  · exact ⟨.bool false, by simp only [putSel, Bool.false_eq_true, if_false], fun _ => disk_drew FD.out, fun h_ => absurd h_ (by decide), below_drew FB.out, fun h_ => absurd h_ (by decide), Kd.R_drewN FA.out 1, Kd.R_drewN FW.out 1⟩
                  · skip
                    clear FA FB FD FW
                    refine steps_cons ?_ ?_
                    · rintro b a w' ⟨vs, ha, Q_FD, Q_FD2, Q_FB, Q_FV, Q_FA, Q_FW⟩ hb_ hon hoff
                      refine ⟨_, rfl, fun K hK => ?_⟩
                      have e11 : a.tmps[11]? = some (.pointer (some ⟨g, 0, none⟩)) := by rw [ha]; exact (putSel_off rfl).trans rfl
                      replace ha := Aside0.mk ha
                      have FD := Aside0.mk (Q_FD (hoff 11 (by kernel_rfl)))
                      have FB := Aside0.mk Q_FB
                      have FA := Aside0.mk Q_FA
                      have FW := Aside0.mk Q_FW
                      refine value_ (w1 := w') (v := .pointer (some ⟨g, 0, none⟩)) (by rfl) rfl ?_ ?_
                      · go_simp
                        (try simp only [i64_w])
                        try rfl
                      refine hK.out _ _ ⟨vs, (by rw [ha.out]; exact putSel_upk 0 hb_ rfl rfl rfl), Q_FD, fun h0_ => absurd ((hoff 11 (by kernel_rfl)).symm.trans h0_) (by decide), Q_FB, Q_FV, Q_FA, Q_FW⟩
                    refine steps_cons ?_ ?_
                    · rintro b a w' ⟨vs, ha, Q_FD, Q_FD2, Q_FB, Q_FV, Q_FA, Q_FW⟩ hb_ hon hoff
                      refine ⟨_, rfl, fun K hK => ?_⟩
                      have e1 : a.tmps[1]? = some (.slice (some ad) n1 c1) := by rw [ha]; exact (putSel_off rfl).trans rfl
                      replace ha := Aside0.mk ha
                      have FD := Aside0.mk (Q_FD (hoff 11 (by kernel_rfl)))
                      have FB := Aside0.mk Q_FB
                      have FA := Aside0.mk Q_FA
                      have FW := Aside0.mk Q_FW
                      refine value_ (w1 := w') (v := .slice (some ad) n1 c1) (by rfl) rfl ?_ ?_
                      · go_simp
                        (try simp only [i64_w])
                        try rfl
                      refine hK.out _ _ ⟨vs, (by rw [ha.out]; exact putSel_upk 1 hb_ rfl rfl rfl), Q_FD, fun h0_ => absurd ((hoff 11 (by kernel_rfl)).symm.trans h0_) (by decide), Q_FB, Q_FV, Q_FA, Q_FW⟩
                    refine steps_cons ?_ ?_
                    · rintro b a w' ⟨vs, ha, Q_FD, Q_FD2, Q_FB, Q_FV, Q_FA, Q_FW⟩ hb_ hon hoff
                      refine ⟨_, rfl, fun K hK => ?_⟩
                      have e18 : a.tmps[18]? = some (.int .i64 ((i : Nat) : Int)) := by rw [ha]; exact (putSel_off rfl).trans rfl
                      replace ha := Aside0.mk ha
                      have FD := Aside0.mk (Q_FD (hoff 11 (by kernel_rfl)))
                      have FB := Aside0.mk Q_FB
                      have FA := Aside0.mk Q_FA
                      have FW := Aside0.mk Q_FW
                      refine value_ (w1 := w') (v := .int .i64 ((i : Nat) : Int)) (by rfl) rfl ?_ ?_
                      · go_simp
                        (try simp only [i64_w])
                        try rfl
                      refine hK.out _ _ ⟨vs, (by rw [ha.out]; exact putSel_upk 2 hb_ rfl rfl rfl), Q_FD, fun h0_ => absurd ((hoff 11 (by kernel_rfl)).symm.trans h0_) (by decide), Q_FB, Q_FV, Q_FA, Q_FW⟩
                    refine steps_cons ?_ ?_
                    · rintro b a w' ⟨vs, ha, Q_FD, Q_FD2, Q_FB, Q_FV, Q_FA, Q_FW⟩ hb_ hon hoff
                      refine ⟨_, rfl, fun K hK => ?_⟩
                      have e80 : a.tmps[80]? = some (.slice (some ad) n1 c1) := by rw [ha]; exact putSel_on (e := (1, 80, .slice (some ad) n1 c1)) 1 rfl rfl (hon 1 (by kernel_rfl)) rfl
                      have e81 : a.tmps[81]? = some (.int .i64 ((i : Nat) : Int)) := by rw [ha]; exact putSel_on (e := (2, 81, .int .i64 ((i : Nat) : Int))) 2 rfl rfl (hon 2 (by kernel_rfl)) rfl
                      replace ha := Aside0.mk ha
                      have FD := Aside0.mk (Q_FD (hoff 11 (by kernel_rfl)))
                      have FB := Aside0.mk Q_FB
                      have FA := Aside0.mk Q_FA
                      have FW := Aside0.mk Q_FW
                      refine value_ (w1 := w') (v := .pointer (some (ad.add (i * 5)))) (by rfl) rfl ?_ ?_
                      · go_simp
                        (try simp only [i64_w])
                        try rfl
                      refine hK.out _ _ ⟨vs, (by rw [ha.out]; exact putSel_upk 3 hb_ rfl rfl rfl), Q_FD, fun h0_ => absurd ((hoff 11 (by kernel_rfl)).symm.trans h0_) (by decide), Q_FB, Q_FV, Q_FA, Q_FW⟩
                    refine steps_cons ?_ ?_
                    · rintro b a w' ⟨vs, ha, Q_FD, Q_FD2, Q_FB, Q_FV, Q_FA, Q_FW⟩ hb_ hon hoff
                      refine ⟨_, rfl, fun K hK => ?_⟩
                      have e82 : a.tmps[82]? = some (.pointer (some (ad.add (i * 5)))) := by rw [ha]; exact putSel_on (e := (3, 82, .pointer (some (ad.add (i * 5))))) 3 rfl rfl (hon 3 (by kernel_rfl)) rfl
                      replace ha := Aside0.mk ha
                      have FD := Aside0.mk (Q_FD (hoff 11 (by kernel_rfl)))
                      have FB := Aside0.mk Q_FB
                      have FA := Aside0.mk Q_FA
                      have FW := Aside0.mk Q_FW
                      refine value_ (w1 := w') (v := .pointer (some ⟨(ad.add (i * 5)).block, (ad.add (i * 5)).off + 1, none⟩)) (by rfl) rfl ?_ ?_
                      · go_simp
                        (try simp only [i64_w])
                        try rfl
                      refine hK.out _ _ ⟨vs, (by rw [ha.out]; exact putSel_upk 4 hb_ rfl rfl rfl), Q_FD, fun h0_ => absurd ((hoff 11 (by kernel_rfl)).symm.trans h0_) (by decide), Q_FB, Q_FV, Q_FA, Q_FW⟩
                    refine steps_cons ?_ ?_
                    · rintro b a w' ⟨vs, ha, Q_FD, Q_FD2, Q_FB, Q_FV, Q_FA, Q_FW⟩ hb_ hon hoff
                      refine ⟨_, rfl, fun K hK => ?_⟩
                      have e83 : a.tmps[83]? = some (.pointer (some ⟨(ad.add (i * 5)).block, (ad.add (i * 5)).off + 1, none⟩)) := by rw [ha]; exact putSel_on (e := (4, 83, .pointer (some ⟨(ad.add (i * 5)).block, (ad.add (i * 5)).off + 1, none⟩))) 4 rfl rfl (hon 4 (by kernel_rfl)) rfl
                      replace ha := Aside0.mk ha
                      have FD := Aside0.mk (Q_FD (hoff 11 (by kernel_rfl)))
                      have FB := Aside0.mk Q_FB
                      have FA := Aside0.mk Q_FA
                      have FW := Aside0.mk Q_FW
                      obtain ⟨hact, hcells⟩ := HCELL.out _ FB.out
                      obtain ⟨hc0, hc1, -, -, -⟩ := hact
                      refine value_ (w1 := w') (v := .int .i64 (f1 i).2.1) (by rfl) rfl ?_ ?_
                      · go_simp
                        (try simp only [i64_w])
                        try rfl
                      refine hK.out _ _ ⟨vs, (by rw [ha.out]; exact putSel_upk 5 hb_ rfl rfl rfl), Q_FD, fun h0_ => absurd ((hoff 11 (by kernel_rfl)).symm.trans h0_) (by decide), Q_FB, Q_FV, Q_FA, Q_FW⟩
                    refine steps_cons ?_ ?_
                    · rintro b a w' ⟨vs, ha, Q_FD, Q_FD2, Q_FB, Q_FV, Q_FA, Q_FW⟩ hb_ hon hoff
                      refine ⟨_, rfl, fun K hK => ?_⟩
                      have e1 : a.tmps[1]? = some (.slice (some ad) n1 c1) := by rw [ha]; exact (putSel_off rfl).trans rfl
                      replace ha := Aside0.mk ha
                      have FD := Aside0.mk (Q_FD (hoff 11 (by kernel_rfl)))
                      have FB := Aside0.mk Q_FB
                      have FA := Aside0.mk Q_FA
                      have FW := Aside0.mk Q_FW
                      refine value_ (w1 := w') (v := .slice (some ad) n1 c1) (by rfl) rfl ?_ ?_
                      · go_simp
                        (try simp only [i64_w])
                        try rfl
                      refine hK.out _ _ ⟨vs, (by rw [ha.out]; exact putSel_upk 6 hb_ rfl rfl rfl), Q_FD, fun h0_ => absurd ((hoff 11 (by kernel_rfl)).symm.trans h0_) (by decide), Q_FB, fun h0_ _ => absurd ((hoff 10 (by kernel_rfl)).symm.trans h0_) (by decide), Q_FA, Q_FW⟩
                    refine steps_cons ?_ ?_
                    · rintro b a w' ⟨vs, ha, Q_FD, Q_FD2, Q_FB, Q_FV, Q_FA, Q_FW⟩ hb_ hon hoff
                      refine ⟨_, rfl, fun K hK => ?_⟩
                      have e18 : a.tmps[18]? = some (.int .i64 ((i : Nat) : Int)) := by rw [ha]; exact (putSel_off rfl).trans rfl
                      replace ha := Aside0.mk ha
                      have FD := Aside0.mk (Q_FD (hoff 11 (by kernel_rfl)))
                      have FB := Aside0.mk Q_FB
                      have FA := Aside0.mk Q_FA
                      have FW := Aside0.mk Q_FW
                      refine value_ (w1 := w') (v := .int .i64 ((i : Nat) : Int)) (by rfl) rfl ?_ ?_
                      · go_simp
                        (try simp only [i64_w])
                        try rfl
                      refine hK.out _ _ ⟨vs, (by rw [ha.out]; exact putSel_upk 7 hb_ rfl rfl rfl), Q_FD, fun h0_ => absurd ((hoff 11 (by kernel_rfl)).symm.trans h0_) (by decide), Q_FB, fun h0_ _ => absurd ((hoff 10 (by kernel_rfl)).symm.trans h0_) (by decide), Q_FA, Q_FW⟩
                    refine steps_cons ?_ ?_
                    · rintro b a w' ⟨vs, ha, Q_FD, Q_FD2, Q_FB, Q_FV, Q_FA, Q_FW⟩ hb_ hon hoff
                      refine ⟨_, rfl, fun K hK => ?_⟩
                      have e85 : a.tmps[85]? = some (.slice (some ad) n1 c1) := by rw [ha]; exact putSel_on (e := (6, 85, .slice (some ad) n1 c1)) 6 rfl rfl (hon 6 (by kernel_rfl)) rfl
                      have e86 : a.tmps[86]? = some (.int .i64 ((i : Nat) : Int)) := by rw [ha]; exact putSel_on (e := (7, 86, .int .i64 ((i : Nat) : Int))) 7 rfl rfl (hon 7 (by kernel_rfl)) rfl
                      replace ha := Aside0.mk ha
                      have FD := Aside0.mk (Q_FD (hoff 11 (by kernel_rfl)))
                      have FB := Aside0.mk Q_FB
                      have FA := Aside0.mk Q_FA
                      have FW := Aside0.mk Q_FW
                      refine value_ (w1 := w') (v := .pointer (some (ad.add (i * 5)))) (by rfl) rfl ?_ ?_
                      · go_simp
                        (try simp only [i64_w])
                        try rfl
                      refine hK.out _ _ ⟨vs, (by rw [ha.out]; exact putSel_upk 8 hb_ rfl rfl rfl), Q_FD, fun h0_ => absurd ((hoff 11 (by kernel_rfl)).symm.trans h0_) (by decide), Q_FB, fun h0_ _ => absurd ((hoff 10 (by kernel_rfl)).symm.trans h0_) (by decide), Q_FA, Q_FW⟩
                    refine steps_cons ?_ ?_
                    · rintro b a w' ⟨vs, ha, Q_FD, Q_FD2, Q_FB, Q_FV, Q_FA, Q_FW⟩ hb_ hon hoff
                      refine ⟨_, rfl, fun K hK => ?_⟩
                      have e87 : a.tmps[87]? = some (.pointer (some (ad.add (i * 5)))) := by rw [ha]; exact putSel_on (e := (8, 87, .pointer (some (ad.add (i * 5))))) 8 rfl rfl (hon 8 (by kernel_rfl)) rfl
                      replace ha := Aside0.mk ha
                      have FD := Aside0.mk (Q_FD (hoff 11 (by kernel_rfl)))
                      have FB := Aside0.mk Q_FB
                      have FA := Aside0.mk Q_FA
                      have FW := Aside0.mk Q_FW
                      refine value_ (w1 := w') (v := .agg #[.int .u8 (f1 i).1, .int .i64 (f1 i).2.1, .int .u8 (f1 i).2.2.1, .int .i64 (f1 i).2.2.2.1, .int .i64 (f1 i).2.2.2.2]) (by rfl) rfl (run_load_seg 28 (.tmp 87) rfl (ad.add (i * 5)) (eval_of e87) (actCells (f1 i)) _ Try.underlying28 rfl size_act (HCELL.out _ FB.out).2) ?_
                      refine hK.out _ _ ⟨vs, (by rw [ha.out]; exact putSel_upk 9 hb_ rfl rfl rfl), fun _ => FD.out, fun h0_ => absurd ((hoff 11 (by kernel_rfl)).symm.trans h0_) (by decide), FB.out, fun h0_ _ => absurd ((hoff 10 (by kernel_rfl)).symm.trans h0_) (by decide), FA.out, FW.out⟩
                    refine steps_cons ?_ ?_
                    · rintro b a w' ⟨vs, ha, Q_FD, Q_FD2, Q_FB, Q_FV, Q_FA, Q_FW⟩ hb_ hon hoff
                      refine ⟨_, rfl, fun K hK => ?_⟩
                      have e88 : a.tmps[88]? = some (.agg #[.int .u8 (f1 i).1, .int .i64 (f1 i).2.1, .int .u8 (f1 i).2.2.1, .int .i64 (f1 i).2.2.2.1, .int .i64 (f1 i).2.2.2.2]) := by rw [ha]; exact putSel_on (e := (9, 88, .agg #[.int .u8 (f1 i).1, .int .i64 (f1 i).2.1, .int .u8 (f1 i).2.2.1, .int .i64 (f1 i).2.2.2.1, .int .i64 (f1 i).2.2.2.2])) 9 rfl rfl (hon 9 (by kernel_rfl)) rfl
                      replace ha := Aside0.mk ha
                      have FD := Aside0.mk (Q_FD (hoff 11 (by kernel_rfl)))
                      have FB := Aside0.mk Q_FB
                      have FA := Aside0.mk Q_FA
                      have FW := Aside0.mk Q_FW
                      refine goes_ Try.func13 (by kernel_rfl) rfl #[.agg #[.int .u8 (f1 i).1, .int .i64 (f1 i).2.1, .int .u8 (f1 i).2.2.1, .int .i64 (f1 i).2.2.2.1, .int .i64 (f1 i).2.2.2.2]] (by rfl) rfl rfl (by first | (simp only [List.map_toArray, List.map_cons, List.map_nil, Act.eval, Array.getD_eq_getD_getElem?, Option.getD_some, e88]; done) | (simp only [List.map_toArray, List.map_cons, List.map_nil, Act.eval, Array.getD_eq_getD_getElem?, Option.getD_some, e88]; rfl)) ?_
                      refine (prebendlaw05_made.calls 40 _ _ _ _ _ r _ HMADE.out).mono ?_
                      rintro e w10 ⟨v10, rfl, hR10, hB10⟩
                      refine ⟨v10, rfl, ?_⟩
                      refine hK.out _ _ ⟨v10, (by rw [ha.out]; exact putSel_upk 10 hb_ rfl rfl rfl), fun _ => disk_below FD.out hB10, fun h0_ => absurd ((hoff 11 (by kernel_rfl)).symm.trans h0_) (by decide), below_step FB.out hB10, fun _ _ => ⟨_, hR10⟩, Kd.R_below FA.out hB10, Kd.R_below FW.out hB10⟩
                    refine steps_cons ?_ ?_
                    · rintro b a w' ⟨vs, ha, Q_FD, Q_FD2, Q_FB, Q_FV, Q_FA, Q_FW⟩ hb_ hon hoff
                      refine ⟨_, rfl, fun K hK => ?_⟩
                      have e79 : a.tmps[79]? = some (.pointer (some ⟨g, 0, none⟩)) := by rw [ha]; exact putSel_on (e := (0, 79, .pointer (some ⟨g, 0, none⟩))) 0 rfl rfl (hon 0 (by kernel_rfl)) rfl
                      have e84 : a.tmps[84]? = some (.int .i64 (f1 i).2.1) := by rw [ha]; exact putSel_on (e := (5, 84, .int .i64 (f1 i).2.1)) 5 rfl rfl (hon 5 (by kernel_rfl)) rfl
                      have e89 : a.tmps[89]? = some (vs) := by rw [ha]; exact putSel_on (e := (10, 89, vs)) 10 rfl rfl (hon 10 (by kernel_rfl)) rfl
                      replace ha := Aside0.mk ha
                      have FD := Aside0.mk (Q_FD hb_)
                      have FB := Aside0.mk Q_FB
                      have FV := Aside0.mk (Q_FV (hon 10 (by kernel_rfl)) hb_)
                      have FA := Aside0.mk Q_FA
                      have FW := Aside0.mk Q_FW
                      obtain ⟨b_, hR_⟩ := FV.out
                      obtain ⟨Av, cv, hvs_⟩ := Kd.R_slice hR_
                      rw [hvs_] at e89
                      rw [hvs_] at hR_
                      refine goes_ Try.func12 (by kernel_rfl) rfl #[.pointer (some ⟨g, 0, none⟩), .int .i64 (f1 i).2.1, .slice Av r.length cv] (by rfl) rfl rfl (by first | (simp only [List.map_toArray, List.map_cons, List.map_nil, Act.eval, Array.getD_eq_getD_getElem?, Option.getD_some, e79, e84, e89]; done) | (simp only [List.map_toArray, List.map_cons, List.map_nil, Act.eval, Array.getD_eq_getD_getElem?, Option.getD_some, e79, e84, e89]; rfl)) ?_
                      refine (write_walk w.heap.size g s (f1 i).2.1 Av cv r _ FD.out HFU.out HL1.out (FB.out).size (row_src hR_ _)).mono ?_
                      rintro e w10 ⟨rfl, hD10, hK10⟩
                      rw [HE.out]
                      refine ⟨_, rfl, ?_⟩
                      refine hK.out _ _ ⟨vs, (by rw [ha.out]; exact putSel_upk 11 hb_ rfl rfl rfl), fun h0_ => absurd ((up_self b 11).symm.trans h0_) (by decide), fun _ => hD10, below_keep FB.out (FB.out).size hK10, fun _ h1_ => absurd ((up_self b 11).symm.trans h1_) (by decide), bools_keep FA.out hK10, rows_keep FW.out hK10⟩
                    refine steps_cons ?_ ?_
                    · rintro b a w' ⟨vs, ha, Q_FD, Q_FD2, Q_FB, Q_FV, Q_FA, Q_FW⟩ hb_ hon hoff
                      refine ⟨_, rfl, fun K hK => ?_⟩
                      have e90 : a.tmps[90]? = some (.int .i64 0) := by rw [ha]; exact putSel_on (e := (11, 90, .int .i64 0)) 11 rfl rfl (hon 11 (by kernel_rfl)) rfl
                      replace ha := Aside0.mk ha
                      have FD2 := Aside0.mk (Q_FD2 (hon 11 (by kernel_rfl)))
                      have FB := Aside0.mk Q_FB
                      have FA := Aside0.mk Q_FA
                      have FW := Aside0.mk Q_FW
                      refine value_ (w1 := w') (v := .bool true) (by rfl) rfl ?_ ?_
                      · go_simp
                        (try simp only [i64_w])
                        try rfl
                      refine hK.out _ _ ⟨vs, (by rw [ha.out]; exact putSel_upk 12 hb_ rfl rfl rfl), fun h0_ => absurd ((hon 11 (by kernel_rfl)).symm.trans h0_) (by decide), Q_FD2, Q_FB, fun _ h1_ => absurd ((hon 11 (by kernel_rfl)).symm.trans h1_) (by decide), Q_FA, Q_FW⟩
                    refine steps_cons ?_ ?_
                    · rintro b a w' ⟨vs, ha, Q_FD, Q_FD2, Q_FB, Q_FV, Q_FA, Q_FW⟩ hb_ hon hoff
                      refine ⟨_, rfl, fun K hK => ?_⟩
                      have e91 : a.tmps[91]? = some (.bool true) := by rw [ha]; exact putSel_on (e := (12, 91, .bool true)) 12 rfl rfl (hon 12 (by kernel_rfl)) rfl
                      replace ha := Aside0.mk ha
                      have FD2 := Aside0.mk (Q_FD2 (hon 11 (by kernel_rfl)))
                      have FB := Aside0.mk Q_FB
                      have FA := Aside0.mk Q_FA
                      have FW := Aside0.mk Q_FW
                      refine value_ (w1 := w') (v := .bool true) (by rfl) rfl ?_ ?_
                      · go_simp
                        (try simp only [i64_w])
                        try rfl
                      refine hK.out _ _ ⟨vs, (by rw [ha.out]; exact putSel_upk 13 hb_ rfl rfl rfl), fun h0_ => absurd ((hon 11 (by kernel_rfl)).symm.trans h0_) (by decide), Q_FD2, Q_FB, fun _ h1_ => absurd ((hon 11 (by kernel_rfl)).symm.trans h1_) (by decide), Q_FA, Q_FW⟩
                    refine steps_cons ?_ ?_
                    · rintro b a w' ⟨vs, ha, Q_FD, Q_FD2, Q_FB, Q_FV, Q_FA, Q_FW⟩ hb_ hon hoff
                      refine ⟨_, rfl, fun K hK => ?_⟩
                      have e1 : a.tmps[1]? = some (.slice (some ad) n1 c1) := by rw [ha]; exact (putSel_off rfl).trans rfl
                      have e92 : a.tmps[92]? = some (.bool true) := by rw [ha]; exact putSel_on (e := (13, 92, .bool true)) 13 rfl rfl (hon 13 (by kernel_rfl)) rfl
                      replace ha := Aside0.mk ha
                      have FD2 := Aside0.mk (Q_FD2 (hon 11 (by kernel_rfl)))
                      have FB := Aside0.mk Q_FB
                      have FA := Aside0.mk Q_FA
                      have FW := Aside0.mk Q_FW
                      refine value_ (w1 := w') (v := .slice (some ad) n1 c1) (wanted_on rfl rfl rfl (e92.trans (by first | rfl | (simp [*]; done)))) rfl ?_ ?_
                      · go_simp
                        (try simp only [i64_w])
                        try rfl
                      refine hK.out _ _ ⟨vs, (by rw [ha.out]; exact putSel_upk 14 hb_ rfl rfl rfl), fun h0_ => absurd ((hon 11 (by kernel_rfl)).symm.trans h0_) (by decide), Q_FD2, Q_FB, fun _ h1_ => absurd ((hon 11 (by kernel_rfl)).symm.trans h1_) (by decide), Q_FA, Q_FW⟩
                    refine steps_cons ?_ ?_
                    · rintro b a w' ⟨vs, ha, Q_FD, Q_FD2, Q_FB, Q_FV, Q_FA, Q_FW⟩ hb_ hon hoff
                      refine ⟨_, rfl, fun K hK => ?_⟩
                      have e18 : a.tmps[18]? = some (.int .i64 ((i : Nat) : Int)) := by rw [ha]; exact (putSel_off rfl).trans rfl
                      have e92 : a.tmps[92]? = some (.bool true) := by rw [ha]; exact putSel_on (e := (13, 92, .bool true)) 13 rfl rfl (hon 13 (by kernel_rfl)) rfl
                      replace ha := Aside0.mk ha
                      have FD2 := Aside0.mk (Q_FD2 (hon 11 (by kernel_rfl)))
                      have FB := Aside0.mk Q_FB
                      have FA := Aside0.mk Q_FA
                      have FW := Aside0.mk Q_FW
                      refine value_ (w1 := w') (v := .int .i64 ((i : Nat) : Int)) (wanted_on rfl rfl rfl (e92.trans (by first | rfl | (simp [*]; done)))) rfl ?_ ?_
                      · go_simp
                        (try simp only [i64_w])
                        try rfl
                      refine hK.out _ _ ⟨vs, (by rw [ha.out]; exact putSel_upk 15 hb_ rfl rfl rfl), fun h0_ => absurd ((hon 11 (by kernel_rfl)).symm.trans h0_) (by decide), Q_FD2, Q_FB, fun _ h1_ => absurd ((hon 11 (by kernel_rfl)).symm.trans h1_) (by decide), Q_FA, Q_FW⟩
                    refine steps_cons ?_ ?_
                    · rintro b a w' ⟨vs, ha, Q_FD, Q_FD2, Q_FB, Q_FV, Q_FA, Q_FW⟩ hb_ hon hoff
                      refine ⟨_, rfl, fun K hK => ?_⟩
                      have e93 : a.tmps[93]? = some (.slice (some ad) n1 c1) := by rw [ha]; exact putSel_on (e := (14, 93, .slice (some ad) n1 c1)) 14 rfl rfl (hon 14 (by kernel_rfl)) rfl
                      have e94 : a.tmps[94]? = some (.int .i64 ((i : Nat) : Int)) := by rw [ha]; exact putSel_on (e := (15, 94, .int .i64 ((i : Nat) : Int))) 15 rfl rfl (hon 15 (by kernel_rfl)) rfl
                      have e92 : a.tmps[92]? = some (.bool true) := by rw [ha]; exact putSel_on (e := (13, 92, .bool true)) 13 rfl rfl (hon 13 (by kernel_rfl)) rfl
                      replace ha := Aside0.mk ha
                      have FD2 := Aside0.mk (Q_FD2 (hon 11 (by kernel_rfl)))
                      have FB := Aside0.mk Q_FB
                      have FA := Aside0.mk Q_FA
                      have FW := Aside0.mk Q_FW
                      refine value_ (w1 := w') (v := .pointer (some (ad.add (i * 5)))) (wanted_on rfl rfl rfl (e92.trans (by first | rfl | (simp [*]; done)))) rfl ?_ ?_
                      · go_simp
                        (try simp only [i64_w])
                        try rfl
                      refine hK.out _ _ ⟨vs, (by rw [ha.out]; exact putSel_upk 16 hb_ rfl rfl rfl), fun h0_ => absurd ((hon 11 (by kernel_rfl)).symm.trans h0_) (by decide), Q_FD2, Q_FB, fun _ h1_ => absurd ((hon 11 (by kernel_rfl)).symm.trans h1_) (by decide), Q_FA, Q_FW⟩
                    refine steps_cons ?_ ?_
                    · rintro b a w' ⟨vs, ha, Q_FD, Q_FD2, Q_FB, Q_FV, Q_FA, Q_FW⟩ hb_ hon hoff
                      refine ⟨_, rfl, fun K hK => ?_⟩
                      have e95 : a.tmps[95]? = some (.pointer (some (ad.add (i * 5)))) := by rw [ha]; exact putSel_on (e := (16, 95, .pointer (some (ad.add (i * 5))))) 16 rfl rfl (hon 16 (by kernel_rfl)) rfl
                      have e92 : a.tmps[92]? = some (.bool true) := by rw [ha]; exact putSel_on (e := (13, 92, .bool true)) 13 rfl rfl (hon 13 (by kernel_rfl)) rfl
                      replace ha := Aside0.mk ha
                      have FD2 := Aside0.mk (Q_FD2 (hon 11 (by kernel_rfl)))
                      have FB := Aside0.mk Q_FB
                      have FA := Aside0.mk Q_FA
                      have FW := Aside0.mk Q_FW
                      refine value_ (w1 := w') (v := .pointer (some ⟨(ad.add (i * 5)).block, (ad.add (i * 5)).off + 1, none⟩)) (wanted_on rfl rfl rfl (e92.trans (by first | rfl | (simp [*]; done)))) rfl ?_ ?_
                      · go_simp
                        (try simp only [i64_w])
                        try rfl
                      refine hK.out _ _ ⟨vs, (by rw [ha.out]; exact putSel_upk 17 hb_ rfl rfl rfl), fun h0_ => absurd ((hon 11 (by kernel_rfl)).symm.trans h0_) (by decide), Q_FD2, Q_FB, fun _ h1_ => absurd ((hon 11 (by kernel_rfl)).symm.trans h1_) (by decide), Q_FA, Q_FW⟩
                    refine steps_cons ?_ ?_
                    · rintro b a w' ⟨vs, ha, Q_FD, Q_FD2, Q_FB, Q_FV, Q_FA, Q_FW⟩ hb_ hon hoff
                      refine ⟨_, rfl, fun K hK => ?_⟩
                      have e96 : a.tmps[96]? = some (.pointer (some ⟨(ad.add (i * 5)).block, (ad.add (i * 5)).off + 1, none⟩)) := by rw [ha]; exact putSel_on (e := (17, 96, .pointer (some ⟨(ad.add (i * 5)).block, (ad.add (i * 5)).off + 1, none⟩))) 17 rfl rfl (hon 17 (by kernel_rfl)) rfl
                      have e92 : a.tmps[92]? = some (.bool true) := by rw [ha]; exact putSel_on (e := (13, 92, .bool true)) 13 rfl rfl (hon 13 (by kernel_rfl)) rfl
                      replace ha := Aside0.mk ha
                      have FD2 := Aside0.mk (Q_FD2 (hon 11 (by kernel_rfl)))
                      have FB := Aside0.mk Q_FB
                      have FA := Aside0.mk Q_FA
                      have FW := Aside0.mk Q_FW
                      obtain ⟨hact, hcells⟩ := HCELL.out _ FB.out
                      obtain ⟨hc0, hc1, -, -, -⟩ := hact
                      refine value_ (w1 := w') (v := .int .i64 (f1 i).2.1) (wanted_on rfl rfl rfl (e92.trans (by first | rfl | (simp [*]; done)))) rfl ?_ ?_
                      · go_simp
                        (try simp only [i64_w])
                        try rfl
                      refine hK.out _ _ ⟨vs, (by rw [ha.out]; exact putSel_upk 18 hb_ rfl rfl rfl), fun h0_ => absurd ((hon 11 (by kernel_rfl)).symm.trans h0_) (by decide), Q_FD2, Q_FB, fun _ h1_ => absurd ((hon 11 (by kernel_rfl)).symm.trans h1_) (by decide), Q_FA, Q_FW⟩
                    refine steps_cons ?_ ?_
                    · rintro b a w' ⟨vs, ha, Q_FD, Q_FD2, Q_FB, Q_FV, Q_FA, Q_FW⟩ hb_ hon hoff
                      refine ⟨_, rfl, fun K hK => ?_⟩
                      have e97 : a.tmps[97]? = some (.int .i64 (f1 i).2.1) := by rw [ha]; exact putSel_on (e := (18, 97, .int .i64 (f1 i).2.1)) 18 rfl rfl (hon 18 (by kernel_rfl)) rfl
                      have e92 : a.tmps[92]? = some (.bool true) := by rw [ha]; exact putSel_on (e := (13, 92, .bool true)) 13 rfl rfl (hon 13 (by kernel_rfl)) rfl
                      replace ha := Aside0.mk ha
                      have FD2 := Aside0.mk (Q_FD2 (hon 11 (by kernel_rfl)))
                      have FB := Aside0.mk Q_FB
                      have FA := Aside0.mk Q_FA
                      have FW := Aside0.mk Q_FW
                      refine value_ (w1 := w') (v := .bool true) (wanted_on rfl rfl rfl (e92.trans (by first | rfl | (simp [*]; done)))) rfl ?_ ?_
                      · go_simp
                        (try simp only [i64_w])
                        try rfl
                      refine hK.out _ _ ⟨vs, (by rw [ha.out]; exact putSel_upk 19 hb_ rfl rfl rfl), fun h0_ => absurd ((hon 11 (by kernel_rfl)).symm.trans h0_) (by decide), Q_FD2, Q_FB, fun _ h1_ => absurd ((hon 11 (by kernel_rfl)).symm.trans h1_) (by decide), Q_FA, Q_FW⟩
                    refine steps_cons ?_ ?_
                    · rintro b a w' ⟨vs, ha, Q_FD, Q_FD2, Q_FB, Q_FV, Q_FA, Q_FW⟩ hb_ hon hoff
                      refine ⟨_, rfl, fun K hK => ?_⟩
                      have e92 : a.tmps[92]? = some (.bool true) := by rw [ha]; exact putSel_on (e := (13, 92, .bool true)) 13 rfl rfl (hon 13 (by kernel_rfl)) rfl
                      have e98 : a.tmps[98]? = some (.bool true) := by rw [ha]; exact putSel_on (e := (19, 98, .bool true)) 19 rfl rfl (hon 19 (by kernel_rfl)) rfl
                      replace ha := Aside0.mk ha
                      have FD2 := Aside0.mk (Q_FD2 (hon 11 (by kernel_rfl)))
                      have FB := Aside0.mk Q_FB
                      have FA := Aside0.mk Q_FA
                      have FW := Aside0.mk Q_FW
                      refine value_ (w1 := w') (v := .bool true) (by rfl) rfl ?_ ?_
                      · go_simp
                        (try simp only [i64_w])
                        try rfl
                      refine hK.out _ _ ⟨vs, (by rw [ha.out]; exact putSel_upk 20 hb_ rfl rfl rfl), fun h0_ => absurd ((hon 11 (by kernel_rfl)).symm.trans h0_) (by decide), Q_FD2, Q_FB, fun _ h1_ => absurd ((hon 11 (by kernel_rfl)).symm.trans h1_) (by decide), Q_FA, Q_FW⟩
                    refine steps_cons ?_ ?_
                    · rintro b a w' ⟨vs, ha, Q_FD, Q_FD2, Q_FB, Q_FV, Q_FA, Q_FW⟩ hb_ hon hoff
                      refine ⟨_, rfl, fun K hK => ?_⟩
                      have e99 : a.tmps[99]? = some (.bool true) := by rw [ha]; exact putSel_on (e := (20, 99, .bool true)) 20 rfl rfl (hon 20 (by kernel_rfl)) rfl
                      replace ha := Aside0.mk ha
                      have FD2 := Aside0.mk (Q_FD2 (hon 11 (by kernel_rfl)))
                      have FB := Aside0.mk Q_FB
                      have FA := Aside0.mk Q_FA
                      have FW := Aside0.mk Q_FW
                      refine value_ (w1 := w') (v := .bool true) (by rfl) rfl ?_ ?_
                      · go_simp
                        (try simp only [i64_w])
                        try rfl
                      refine hK.out _ _ ⟨vs, (by rw [ha.out]; exact putSel_upk 21 hb_ rfl rfl rfl), fun h0_ => absurd ((hon 11 (by kernel_rfl)).symm.trans h0_) (by decide), Q_FD2, Q_FB, fun _ h1_ => absurd ((hon 11 (by kernel_rfl)).symm.trans h1_) (by decide), Q_FA, Q_FW⟩
                    refine steps_cons ?_ ?_
                    · rintro b a w' ⟨vs, ha, Q_FD, Q_FD2, Q_FB, Q_FV, Q_FA, Q_FW⟩ hb_ hon hoff
                      refine ⟨_, rfl, fun K hK => ?_⟩
                      have e1 : a.tmps[1]? = some (.slice (some ad) n1 c1) := by rw [ha]; exact (putSel_off rfl).trans rfl
                      have e100 : a.tmps[100]? = some (.bool true) := by rw [ha]; exact putSel_on (e := (21, 100, .bool true)) 21 rfl rfl (hon 21 (by kernel_rfl)) rfl
                      replace ha := Aside0.mk ha
                      have FD2 := Aside0.mk (Q_FD2 (hon 11 (by kernel_rfl)))
                      have FB := Aside0.mk Q_FB
                      have FA := Aside0.mk Q_FA
                      have FW := Aside0.mk Q_FW
                      refine value_ (w1 := w') (v := .slice (some ad) n1 c1) (wanted_on rfl rfl rfl (e100.trans (by first | rfl | (simp [*]; done)))) rfl ?_ ?_
                      · go_simp
                        (try simp only [i64_w])
                        try rfl
                      refine hK.out _ _ ⟨vs, (by rw [ha.out]; exact putSel_upk 22 hb_ rfl rfl rfl), fun h0_ => absurd ((hon 11 (by kernel_rfl)).symm.trans h0_) (by decide), Q_FD2, Q_FB, fun _ h1_ => absurd ((hon 11 (by kernel_rfl)).symm.trans h1_) (by decide), Q_FA, Q_FW⟩
                    refine steps_cons ?_ ?_
                    · rintro b a w' ⟨vs, ha, Q_FD, Q_FD2, Q_FB, Q_FV, Q_FA, Q_FW⟩ hb_ hon hoff
                      refine ⟨_, rfl, fun K hK => ?_⟩
                      have e18 : a.tmps[18]? = some (.int .i64 ((i : Nat) : Int)) := by rw [ha]; exact (putSel_off rfl).trans rfl
                      have e100 : a.tmps[100]? = some (.bool true) := by rw [ha]; exact putSel_on (e := (21, 100, .bool true)) 21 rfl rfl (hon 21 (by kernel_rfl)) rfl
                      replace ha := Aside0.mk ha
                      have FD2 := Aside0.mk (Q_FD2 (hon 11 (by kernel_rfl)))
                      have FB := Aside0.mk Q_FB
                      have FA := Aside0.mk Q_FA
                      have FW := Aside0.mk Q_FW
                      refine value_ (w1 := w') (v := .int .i64 ((i : Nat) : Int)) (wanted_on rfl rfl rfl (e100.trans (by first | rfl | (simp [*]; done)))) rfl ?_ ?_
                      · go_simp
                        (try simp only [i64_w])
                        try rfl
                      refine hK.out _ _ ⟨vs, (by rw [ha.out]; exact putSel_upk 23 hb_ rfl rfl rfl), fun h0_ => absurd ((hon 11 (by kernel_rfl)).symm.trans h0_) (by decide), Q_FD2, Q_FB, fun _ h1_ => absurd ((hon 11 (by kernel_rfl)).symm.trans h1_) (by decide), Q_FA, Q_FW⟩
                    refine steps_cons ?_ ?_
                    · rintro b a w' ⟨vs, ha, Q_FD, Q_FD2, Q_FB, Q_FV, Q_FA, Q_FW⟩ hb_ hon hoff
                      refine ⟨_, rfl, fun K hK => ?_⟩
                      have e101 : a.tmps[101]? = some (.slice (some ad) n1 c1) := by rw [ha]; exact putSel_on (e := (22, 101, .slice (some ad) n1 c1)) 22 rfl rfl (hon 22 (by kernel_rfl)) rfl
                      have e102 : a.tmps[102]? = some (.int .i64 ((i : Nat) : Int)) := by rw [ha]; exact putSel_on (e := (23, 102, .int .i64 ((i : Nat) : Int))) 23 rfl rfl (hon 23 (by kernel_rfl)) rfl
                      have e100 : a.tmps[100]? = some (.bool true) := by rw [ha]; exact putSel_on (e := (21, 100, .bool true)) 21 rfl rfl (hon 21 (by kernel_rfl)) rfl
                      replace ha := Aside0.mk ha
                      have FD2 := Aside0.mk (Q_FD2 (hon 11 (by kernel_rfl)))
                      have FB := Aside0.mk Q_FB
                      have FA := Aside0.mk Q_FA
                      have FW := Aside0.mk Q_FW
                      refine value_ (w1 := w') (v := .pointer (some (ad.add (i * 5)))) (wanted_on rfl rfl rfl (e100.trans (by first | rfl | (simp [*]; done)))) rfl ?_ ?_
                      · go_simp
                        (try simp only [i64_w])
                        try rfl
                      refine hK.out _ _ ⟨vs, (by rw [ha.out]; exact putSel_upk 24 hb_ rfl rfl rfl), fun h0_ => absurd ((hon 11 (by kernel_rfl)).symm.trans h0_) (by decide), Q_FD2, Q_FB, fun _ h1_ => absurd ((hon 11 (by kernel_rfl)).symm.trans h1_) (by decide), Q_FA, Q_FW⟩
                    refine steps_cons ?_ ?_
                    · rintro b a w' ⟨vs, ha, Q_FD, Q_FD2, Q_FB, Q_FV, Q_FA, Q_FW⟩ hb_ hon hoff
                      refine ⟨_, rfl, fun K hK => ?_⟩
                      have e103 : a.tmps[103]? = some (.pointer (some (ad.add (i * 5)))) := by rw [ha]; exact putSel_on (e := (24, 103, .pointer (some (ad.add (i * 5))))) 24 rfl rfl (hon 24 (by kernel_rfl)) rfl
                      have e100 : a.tmps[100]? = some (.bool true) := by rw [ha]; exact putSel_on (e := (21, 100, .bool true)) 21 rfl rfl (hon 21 (by kernel_rfl)) rfl
                      replace ha := Aside0.mk ha
                      have FD2 := Aside0.mk (Q_FD2 (hon 11 (by kernel_rfl)))
                      have FB := Aside0.mk Q_FB
                      have FA := Aside0.mk Q_FA
                      have FW := Aside0.mk Q_FW
                      refine value_ (w1 := w') (v := .pointer (some ⟨(ad.add (i * 5)).block, (ad.add (i * 5)).off + 1, none⟩)) (wanted_on rfl rfl rfl (e100.trans (by first | rfl | (simp [*]; done)))) rfl ?_ ?_
                      · go_simp
                        (try simp only [i64_w])
                        try rfl
                      refine hK.out _ _ ⟨vs, (by rw [ha.out]; exact putSel_upk 25 hb_ rfl rfl rfl), fun h0_ => absurd ((hon 11 (by kernel_rfl)).symm.trans h0_) (by decide), Q_FD2, Q_FB, fun _ h1_ => absurd ((hon 11 (by kernel_rfl)).symm.trans h1_) (by decide), Q_FA, Q_FW⟩
                    refine steps_cons ?_ ?_
                    · rintro b a w' ⟨vs, ha, Q_FD, Q_FD2, Q_FB, Q_FV, Q_FA, Q_FW⟩ hb_ hon hoff
                      refine ⟨_, rfl, fun K hK => ?_⟩
                      have e104 : a.tmps[104]? = some (.pointer (some ⟨(ad.add (i * 5)).block, (ad.add (i * 5)).off + 1, none⟩)) := by rw [ha]; exact putSel_on (e := (25, 104, .pointer (some ⟨(ad.add (i * 5)).block, (ad.add (i * 5)).off + 1, none⟩))) 25 rfl rfl (hon 25 (by kernel_rfl)) rfl
                      have e100 : a.tmps[100]? = some (.bool true) := by rw [ha]; exact putSel_on (e := (21, 100, .bool true)) 21 rfl rfl (hon 21 (by kernel_rfl)) rfl
                      replace ha := Aside0.mk ha
                      have FD2 := Aside0.mk (Q_FD2 (hon 11 (by kernel_rfl)))
                      have FB := Aside0.mk Q_FB
                      have FA := Aside0.mk Q_FA
                      have FW := Aside0.mk Q_FW
                      obtain ⟨hact, hcells⟩ := HCELL.out _ FB.out
                      obtain ⟨hc0, hc1, -, -, -⟩ := hact
                      refine value_ (w1 := w') (v := .int .i64 (f1 i).2.1) (wanted_on rfl rfl rfl (e100.trans (by first | rfl | (simp [*]; done)))) rfl ?_ ?_
                      · go_simp
                        (try simp only [i64_w])
                        try rfl
                      refine hK.out _ _ ⟨vs, (by rw [ha.out]; exact putSel_upk 26 hb_ rfl rfl rfl), fun h0_ => absurd ((hon 11 (by kernel_rfl)).symm.trans h0_) (by decide), Q_FD2, Q_FB, fun _ h1_ => absurd ((hon 11 (by kernel_rfl)).symm.trans h1_) (by decide), Q_FA, Q_FW⟩
                    refine steps_cons ?_ ?_
                    · rintro b a w' ⟨vs, ha, Q_FD, Q_FD2, Q_FB, Q_FV, Q_FA, Q_FW⟩ hb_ hon hoff
                      refine ⟨_, rfl, fun K hK => ?_⟩
                      have e105 : a.tmps[105]? = some (.int .i64 (f1 i).2.1) := by rw [ha]; exact putSel_on (e := (26, 105, .int .i64 (f1 i).2.1)) 26 rfl rfl (hon 26 (by kernel_rfl)) rfl
                      have e100 : a.tmps[100]? = some (.bool true) := by rw [ha]; exact putSel_on (e := (21, 100, .bool true)) 21 rfl rfl (hon 21 (by kernel_rfl)) rfl
                      replace ha := Aside0.mk ha
                      have FD2 := Aside0.mk (Q_FD2 (hon 11 (by kernel_rfl)))
                      have FB := Aside0.mk Q_FB
                      have FA := Aside0.mk Q_FA
                      have FW := Aside0.mk Q_FW
                      refine value_ (w1 := w') (v := .bool true) (wanted_on rfl rfl rfl (e100.trans (by first | rfl | (simp [*]; done)))) rfl ?_ ?_
                      · go_simp
                        (try simp only [i64_w])
                        try rfl
                      refine hK.out _ _ ⟨vs, (by rw [ha.out]; exact putSel_upk 27 hb_ rfl rfl rfl), fun h0_ => absurd ((hon 11 (by kernel_rfl)).symm.trans h0_) (by decide), Q_FD2, Q_FB, fun _ h1_ => absurd ((hon 11 (by kernel_rfl)).symm.trans h1_) (by decide), Q_FA, Q_FW⟩
                    refine steps_cons ?_ ?_
                    · rintro b a w' ⟨vs, ha, Q_FD, Q_FD2, Q_FB, Q_FV, Q_FA, Q_FW⟩ hb_ hon hoff
                      refine ⟨_, rfl, fun K hK => ?_⟩
                      have e100 : a.tmps[100]? = some (.bool true) := by rw [ha]; exact putSel_on (e := (21, 100, .bool true)) 21 rfl rfl (hon 21 (by kernel_rfl)) rfl
                      have e106 : a.tmps[106]? = some (.bool true) := by rw [ha]; exact putSel_on (e := (27, 106, .bool true)) 27 rfl rfl (hon 27 (by kernel_rfl)) rfl
                      replace ha := Aside0.mk ha
                      have FD2 := Aside0.mk (Q_FD2 (hon 11 (by kernel_rfl)))
                      have FB := Aside0.mk Q_FB
                      have FA := Aside0.mk Q_FA
                      have FW := Aside0.mk Q_FW
                      refine value_ (w1 := w') (v := .bool true) (by rfl) rfl ?_ ?_
                      · go_simp
                        (try simp only [i64_w])
                        try rfl
                      refine hK.out _ _ ⟨vs, (by rw [ha.out]; exact putSel_upk 28 hb_ rfl rfl rfl), fun h0_ => absurd ((hon 11 (by kernel_rfl)).symm.trans h0_) (by decide), Q_FD2, Q_FB, fun _ h1_ => absurd ((hon 11 (by kernel_rfl)).symm.trans h1_) (by decide), Q_FA, Q_FW⟩
                    exact steps_nil
                  · rintro b a w' hall ⟨vs, ha, Q_FD, Q_FD2, Q_FB, Q_FV, Q_FA, Q_FW⟩
                    clear FA FB FD FW
                    have hb0_ := hall 0 (by kernel_rfl)
                    have hb1_ := hall 1 (by kernel_rfl)
                    have hb2_ := hall 2 (by kernel_rfl)
                    have hb3_ := hall 3 (by kernel_rfl)
                    have hb4_ := hall 4 (by kernel_rfl)
                    have hb5_ := hall 5 (by kernel_rfl)
                    have hb6_ := hall 6 (by kernel_rfl)
                    have hb7_ := hall 7 (by kernel_rfl)
                    have hb8_ := hall 8 (by kernel_rfl)
                    have hb9_ := hall 9 (by kernel_rfl)
                    have hb10_ := hall 10 (by kernel_rfl)
                    have hb11_ := hall 11 (by kernel_rfl)
                    have hb12_ := hall 12 (by kernel_rfl)
                    have hb13_ := hall 13 (by kernel_rfl)
                    have hb14_ := hall 14 (by kernel_rfl)
                    have hb15_ := hall 15 (by kernel_rfl)
                    have hb16_ := hall 16 (by kernel_rfl)
                    have hb17_ := hall 17 (by kernel_rfl)
                    have hb18_ := hall 18 (by kernel_rfl)
                    have hb19_ := hall 19 (by kernel_rfl)
                    have hb20_ := hall 20 (by kernel_rfl)
                    have hb21_ := hall 21 (by kernel_rfl)
                    have hb22_ := hall 22 (by kernel_rfl)
                    have hb23_ := hall 23 (by kernel_rfl)
                    have hb24_ := hall 24 (by kernel_rfl)
                    have hb25_ := hall 25 (by kernel_rfl)
                    have hb26_ := hall 26 (by kernel_rfl)
                    have hb27_ := hall 27 (by kernel_rfl)
                    have hb28_ := hall 28 (by kernel_rfl)
                    subst ha
                    simp only [putSel, hb0_, hb1_, hb2_, hb3_, hb4_, hb5_, hb6_, hb7_, hb8_, hb9_, hb10_, hb11_, hb12_, hb13_, hb14_, hb15_, hb16_, hb17_, hb18_, hb19_, hb20_, hb21_, hb22_, hb23_, hb24_, hb25_, hb26_, hb27_, hb28_, if_true, Act.put, List.setIfInBounds_toArray, List.set_cons_zero, List.set_cons_succ]
                    clear Q_FD
                    have FD2 := Aside0.mk (Q_FD2 hb11_)
                    clear Q_FD2
                    have FB := Aside0.mk Q_FB
                    clear Q_FB
                    clear Q_FV
                    have FA := Aside0.mk Q_FA
                    clear Q_FA
                    have FW := Aside0.mk Q_FW
                    clear Q_FW
                    clear hall hb0_ hb1_ hb2_ hb3_ hb4_ hb5_ hb6_ hb7_ hb8_ hb9_ hb10_ hb11_ hb12_ hb13_ hb14_ hb15_ hb16_ hb17_ hb18_ hb19_ hb20_ hb21_ hb22_ hb23_ hb24_ hb25_ hb26_ hb27_ hb28_
                    have hFA : Kd.bool.R 4 w' w.heap.size (fun _ => True) (.slice (some ⟨ga, 0, none⟩) ag.length ca) ag := by rw [HAL.out]; exact FA.out
                    have hat : (f1 i).2.1.toNat < ag.length := by rw [HAL.out]; omega
                    obtain ⟨hD3, hA3, hW3, hb3, hcb, hfb⟩ := bool_set FD2.out hFA FW.out (f1 i).2.1.toNat hat true
                    rw [HAL.out] at hA3
                    have HA3 := Aside0.mk hA3
                    have HD3 := Aside0.mk hD3
                    have HW3 := Aside0.mk hW3
                    have HB3 := Aside0.mk (FB.out.setCell (p := ⟨ga, (f1 i).2.1.toNat, none⟩) hb3 (.bool true))
                    have HAG2 := Aside0.mk (ag_put HAG.out hat HPUT.out HOK.out.once)
                    have HAL2 := Aside0.mk ((List.length_set ..).trans HAL.out : (ag.set (f1 i).2.1.toNat true).length = 12)
                    obtain ⟨hact, -⟩ := HCELL.out _ FB.out
                    obtain ⟨hc0, hc1, -, -, -⟩ := hact
                    clear hA3 hD3 hW3 hFA FD2 FA FW FB
                    go_wp2
                    go_roundw
                    case rel => exact ⟨i + 1, (Write s (f1 i).2.1 r).2, ag.set (f1 i).2.1.toNat true, by omega, by omega, by go_num, HWF.out, HG2.out, HO2, HL2.out, HAL2, HAG2, HA3, HW3, HD3, HB3⟩
                    case measure => simp [intOf]; omega
                · have HE := Aside0.mk he
                  have heb : ((Write s (f1 i).2.1 r).1 == 0) = false := beq_eq_false_iff_ne.2 he
                  have hss := hw1 he
                  clear he hw0 hw1
                  go_wp2
                  refine start_ (n := 29) (S := fun w' => True) (ds := []) #[false, false, false, false, false, false, false, false, false, false, false, false, false, false, false, false, false, false, false, false, false, false, false, false, false, false, false, false, false] (by kernel_rfl) rfl rfl trivial (fun hHeld => ?_)
                  refine with_tabW DiskSureb18.tab18 DiskSureb18.bits18 (fun HT_ HW_ => ?_)
                  refine inv_at [0, 1, 2, 3, 4, 5, 6, 7, 8, 9, 10, 11, 12, 13, 14, 15, 16, 17, 18, 19, 20, 21, 22, 23, 24, 25, 26, 27, 28] (fun a0_ b a w' => ∃ (vs : Value), a = putSel a0_ b [(0, 79, .pointer (some ⟨g, 0, none⟩)), (1, 80, .slice (some ad) n1 c1), (2, 81, .int .i64 ((i : Nat) : Int)), (3, 82, .pointer (some (ad.add (i * 5)))), (4, 83, .pointer (some ⟨(ad.add (i * 5)).block, (ad.add (i * 5)).off + 1, none⟩)), (5, 84, .int .i64 (f1 i).2.1), (6, 85, .slice (some ad) n1 c1), (7, 86, .int .i64 ((i : Nat) : Int)), (8, 87, .pointer (some (ad.add (i * 5)))), (9, 88, .agg #[.int .u8 (f1 i).1, .int .i64 (f1 i).2.1, .int .u8 (f1 i).2.2.1, .int .i64 (f1 i).2.2.2.1, .int .i64 (f1 i).2.2.2.2]), (10, 89, vs), (11, 90, .int .i64 (Write s (f1 i).2.1 r).1), (12, 91, .bool false), (13, 92, .bool false), (14, 93, undef), (15, 94, undef), (16, 95, undef), (17, 96, undef), (18, 97, undef), (19, 98, undef), (20, 99, .bool false), (21, 100, .bool false), (22, 101, undef), (23, 102, undef), (24, 103, undef), (25, 104, undef), (26, 105, undef), (27, 106, undef), (28, 107, .bool false)] ∧ (b 11 = false → DiskAt w.heap.size w' g s) ∧ (b 11 = true → DiskAt w.heap.size w' g (Write s (f1 i).2.1 r).2) ∧ (Below w.heap.size w w') ∧ (b 10 = true → b 11 = false → ∃ b_ : Nat, Kd.R (Kd.int .u8) 5 w' b_ (fun _ => True) vs r) ∧ (Kd.bool.R 4 w' w.heap.size (fun _ => True) (.slice (some ⟨ga, 0, none⟩) 12 ca) ag) ∧ (rowsK.R 29 w' w.heap.size (fun _ => True) (.slice (some ⟨gw, 0, none⟩) 12 cw) rs)) HT_.out HW_.out (by kernel_rfl) (by kernel_rfl) ?_ ?_ ?_
                  · exact ⟨.bool false, by simp only [putSel, Bool.false_eq_true, if_false], fun _ => disk_drew FD.out, fun h_ => absurd h_ (by decide), below_drew FB.out, fun h_ => absurd h_ (by decide), Kd.R_drewN FA.out 1, Kd.R_drewN FW.out 1⟩
                  · skip
                    clear FA FB FD FW
                    refine steps_cons ?_ ?_
                    · rintro b a w' ⟨vs, ha, Q_FD, Q_FD2, Q_FB, Q_FV, Q_FA, Q_FW⟩ hb_ hon hoff
                      refine ⟨_, rfl, fun K hK => ?_⟩
                      have e11 : a.tmps[11]? = some (.pointer (some ⟨g, 0, none⟩)) := by rw [ha]; exact (putSel_off rfl).trans rfl
                      replace ha := Aside0.mk ha
                      have FD := Aside0.mk (Q_FD (hoff 11 (by kernel_rfl)))
                      have FB := Aside0.mk Q_FB
                      have FA := Aside0.mk Q_FA
                      have FW := Aside0.mk Q_FW
                      refine value_ (w1 := w') (v := .pointer (some ⟨g, 0, none⟩)) (by rfl) rfl ?_ ?_
                      · go_simp
                        (try simp only [i64_w])
                        try rfl
                      refine hK.out _ _ ⟨vs, (by rw [ha.out]; exact putSel_upk 0 hb_ rfl rfl rfl), Q_FD, fun h0_ => absurd ((hoff 11 (by kernel_rfl)).symm.trans h0_) (by decide), Q_FB, Q_FV, Q_FA, Q_FW⟩
                    refine steps_cons ?_ ?_
                    · rintro b a w' ⟨vs, ha, Q_FD, Q_FD2, Q_FB, Q_FV, Q_FA, Q_FW⟩ hb_ hon hoff
                      refine ⟨_, rfl, fun K hK => ?_⟩
                      have e1 : a.tmps[1]? = some (.slice (some ad) n1 c1) := by rw [ha]; exact (putSel_off rfl).trans rfl
                      replace ha := Aside0.mk ha
                      have FD := Aside0.mk (Q_FD (hoff 11 (by kernel_rfl)))
                      have FB := Aside0.mk Q_FB
                      have FA := Aside0.mk Q_FA
                      have FW := Aside0.mk Q_FW
                      refine value_ (w1 := w') (v := .slice (some ad) n1 c1) (by rfl) rfl ?_ ?_
                      · go_simp
                        (try simp only [i64_w])
                        try rfl
                      refine hK.out _ _ ⟨vs, (by rw [ha.out]; exact putSel_upk 1 hb_ rfl rfl rfl), Q_FD, fun h0_ => absurd ((hoff 11 (by kernel_rfl)).symm.trans h0_) (by decide), Q_FB, Q_FV, Q_FA, Q_FW⟩
                    refine steps_cons ?_ ?_
                    · rintro b a w' ⟨vs, ha, Q_FD, Q_FD2, Q_FB, Q_FV, Q_FA, Q_FW⟩ hb_ hon hoff
                      refine ⟨_, rfl, fun K hK => ?_⟩
                      have e18 : a.tmps[18]? = some (.int .i64 ((i : Nat) : Int)) := by rw [ha]; exact (putSel_off rfl).trans rfl
                      replace ha := Aside0.mk ha
                      have FD := Aside0.mk (Q_FD (hoff 11 (by kernel_rfl)))
                      have FB := Aside0.mk Q_FB
                      have FA := Aside0.mk Q_FA
                      have FW := Aside0.mk Q_FW
                      refine value_ (w1 := w') (v := .int .i64 ((i : Nat) : Int)) (by rfl) rfl ?_ ?_
                      · go_simp
                        (try simp only [i64_w])
                        try rfl
                      refine hK.out _ _ ⟨vs, (by rw [ha.out]; exact putSel_upk 2 hb_ rfl rfl rfl), Q_FD, fun h0_ => absurd ((hoff 11 (by kernel_rfl)).symm.trans h0_) (by decide), Q_FB, Q_FV, Q_FA, Q_FW⟩
                    refine steps_cons ?_ ?_
                    · rintro b a w' ⟨vs, ha, Q_FD, Q_FD2, Q_FB, Q_FV, Q_FA, Q_FW⟩ hb_ hon hoff
                      refine ⟨_, rfl, fun K hK => ?_⟩
                      have e80 : a.tmps[80]? = some (.slice (some ad) n1 c1) := by rw [ha]; exact putSel_on (e := (1, 80, .slice (some ad) n1 c1)) 1 rfl rfl (hon 1 (by kernel_rfl)) rfl
                      have e81 : a.tmps[81]? = some (.int .i64 ((i : Nat) : Int)) := by rw [ha]; exact putSel_on (e := (2, 81, .int .i64 ((i : Nat) : Int))) 2 rfl rfl (hon 2 (by kernel_rfl)) rfl
                      replace ha := Aside0.mk ha
                      have FD := Aside0.mk (Q_FD (hoff 11 (by kernel_rfl)))
                      have FB := Aside0.mk Q_FB
                      have FA := Aside0.mk Q_FA
                      have FW := Aside0.mk Q_FW
                      refine value_ (w1 := w') (v := .pointer (some (ad.add (i * 5)))) (by rfl) rfl ?_ ?_
                      · go_simp
                        (try simp only [i64_w])
                        try rfl
                      refine hK.out _ _ ⟨vs, (by rw [ha.out]; exact putSel_upk 3 hb_ rfl rfl rfl), Q_FD, fun h0_ => absurd ((hoff 11 (by kernel_rfl)).symm.trans h0_) (by decide), Q_FB, Q_FV, Q_FA, Q_FW⟩
                    refine steps_cons ?_ ?_
                    · rintro b a w' ⟨vs, ha, Q_FD, Q_FD2, Q_FB, Q_FV, Q_FA, Q_FW⟩ hb_ hon hoff
                      refine ⟨_, rfl, fun K hK => ?_⟩
                      have e82 : a.tmps[82]? = some (.pointer (some (ad.add (i * 5)))) := by rw [ha]; exact putSel_on (e := (3, 82, .pointer (some (ad.add (i * 5))))) 3 rfl rfl (hon 3 (by kernel_rfl)) rfl
                      replace ha := Aside0.mk ha
                      have FD := Aside0.mk (Q_FD (hoff 11 (by kernel_rfl)))
                      have FB := Aside0.mk Q_FB
                      have FA := Aside0.mk Q_FA
                      have FW := Aside0.mk Q_FW
                      refine value_ (w1 := w') (v := .pointer (some ⟨(ad.add (i * 5)).block, (ad.add (i * 5)).off + 1, none⟩)) (by rfl) rfl ?_ ?_
                      · go_simp
                        (try simp only [i64_w])
                        try rfl
                      refine hK.out _ _ ⟨vs, (by rw [ha.out]; exact putSel_upk 4 hb_ rfl rfl rfl), Q_FD, fun h0_ => absurd ((hoff 11 (by kernel_rfl)).symm.trans h0_) (by decide), Q_FB, Q_FV, Q_FA, Q_FW⟩
                    refine steps_cons ?_ ?_
                    · rintro b a w' ⟨vs, ha, Q_FD, Q_FD2, Q_FB, Q_FV, Q_FA, Q_FW⟩ hb_ hon hoff
                      refine ⟨_, rfl, fun K hK => ?_⟩
                      have e83 : a.tmps[83]? = some (.pointer (some ⟨(ad.add (i * 5)).block, (ad.add (i * 5)).off + 1, none⟩)) := by rw [ha]; exact putSel_on (e := (4, 83, .pointer (some ⟨(ad.add (i * 5)).block, (ad.add (i * 5)).off + 1, none⟩))) 4 rfl rfl (hon 4 (by kernel_rfl)) rfl
                      replace ha := Aside0.mk ha
                      have FD := Aside0.mk (Q_FD (hoff 11 (by kernel_rfl)))
                      have FB := Aside0.mk Q_FB
                      have FA := Aside0.mk Q_FA
                      have FW := Aside0.mk Q_FW
                      obtain ⟨hact, hcells⟩ := HCELL.out _ FB.out
                      obtain ⟨hc0, hc1, -, -, -⟩ := hact
                      refine value_ (w1 := w') (v := .int .i64 (f1 i).2.1) (by rfl) rfl ?_ ?_
                      · go_simp
                        (try simp only [i64_w])
                        try rfl
                      refine hK.out _ _ ⟨vs, (by rw [ha.out]; exact putSel_upk 5 hb_ rfl rfl rfl), Q_FD, fun h0_ => absurd ((hoff 11 (by kernel_rfl)).symm.trans h0_) (by decide), Q_FB, Q_FV, Q_FA, Q_FW⟩
                    refine steps_cons ?_ ?_
                    · rintro b a w' ⟨vs, ha, Q_FD, Q_FD2, Q_FB, Q_FV, Q_FA, Q_FW⟩ hb_ hon hoff
                      refine ⟨_, rfl, fun K hK => ?_⟩
                      have e1 : a.tmps[1]? = some (.slice (some ad) n1 c1) := by rw [ha]; exact (putSel_off rfl).trans rfl
                      replace ha := Aside0.mk ha
                      have FD := Aside0.mk (Q_FD (hoff 11 (by kernel_rfl)))
                      have FB := Aside0.mk Q_FB
                      have FA := Aside0.mk Q_FA
                      have FW := Aside0.mk Q_FW
                      refine value_ (w1 := w') (v := .slice (some ad) n1 c1) (by rfl) rfl ?_ ?_
                      · go_simp
                        (try simp only [i64_w])
                        try rfl
                      refine hK.out _ _ ⟨vs, (by rw [ha.out]; exact putSel_upk 6 hb_ rfl rfl rfl), Q_FD, fun h0_ => absurd ((hoff 11 (by kernel_rfl)).symm.trans h0_) (by decide), Q_FB, fun h0_ _ => absurd ((hoff 10 (by kernel_rfl)).symm.trans h0_) (by decide), Q_FA, Q_FW⟩
                    refine steps_cons ?_ ?_
                    · rintro b a w' ⟨vs, ha, Q_FD, Q_FD2, Q_FB, Q_FV, Q_FA, Q_FW⟩ hb_ hon hoff
                      refine ⟨_, rfl, fun K hK => ?_⟩
                      have e18 : a.tmps[18]? = some (.int .i64 ((i : Nat) : Int)) := by rw [ha]; exact (putSel_off rfl).trans rfl
                      replace ha := Aside0.mk ha
                      have FD := Aside0.mk (Q_FD (hoff 11 (by kernel_rfl)))
                      have FB := Aside0.mk Q_FB
                      have FA := Aside0.mk Q_FA
                      have FW := Aside0.mk Q_FW
                      refine value_ (w1 := w') (v := .int .i64 ((i : Nat) : Int)) (by rfl) rfl ?_ ?_
                      · go_simp
                        (try simp only [i64_w])
                        try rfl
                      refine hK.out _ _ ⟨vs, (by rw [ha.out]; exact putSel_upk 7 hb_ rfl rfl rfl), Q_FD, fun h0_ => absurd ((hoff 11 (by kernel_rfl)).symm.trans h0_) (by decide), Q_FB, fun h0_ _ => absurd ((hoff 10 (by kernel_rfl)).symm.trans h0_) (by decide), Q_FA, Q_FW⟩
                    refine steps_cons ?_ ?_
                    · rintro b a w' ⟨vs, ha, Q_FD, Q_FD2, Q_FB, Q_FV, Q_FA, Q_FW⟩ hb_ hon hoff
                      refine ⟨_, rfl, fun K hK => ?_⟩
                      have e85 : a.tmps[85]? = some (.slice (some ad) n1 c1) := by rw [ha]; exact putSel_on (e := (6, 85, .slice (some ad) n1 c1)) 6 rfl rfl (hon 6 (by kernel_rfl)) rfl
                      have e86 : a.tmps[86]? = some (.int .i64 ((i : Nat) : Int)) := by rw [ha]; exact putSel_on (e := (7, 86, .int .i64 ((i : Nat) : Int))) 7 rfl rfl (hon 7 (by kernel_rfl)) rfl
                      replace ha := Aside0.mk ha
                      have FD := Aside0.mk (Q_FD (hoff 11 (by kernel_rfl)))
                      have FB := Aside0.mk Q_FB
                      have FA := Aside0.mk Q_FA
                      have FW := Aside0.mk Q_FW
                      refine value_ (w1 := w') (v := .pointer (some (ad.add (i * 5)))) (by rfl) rfl ?_ ?_
                      · go_simp
                        (try simp only [i64_w])
                        try rfl
                      refine hK.out _ _ ⟨vs, (by rw [ha.out]; exact putSel_upk 8 hb_ rfl rfl rfl), Q_FD, fun h0_ => absurd ((hoff 11 (by kernel_rfl)).symm.trans h0_) (by decide), Q_FB, fun h0_ _ => absurd ((hoff 10 (by kernel_rfl)).symm.trans h0_) (by decide), Q_FA, Q_FW⟩
                    refine steps_cons ?_ ?_
                    · rintro b a w' ⟨vs, ha, Q_FD, Q_FD2, Q_FB, Q_FV, Q_FA, Q_FW⟩ hb_ hon hoff
                      refine ⟨_, rfl, fun K hK => ?_⟩
                      have e87 : a.tmps[87]? = some (.pointer (some (ad.add (i * 5)))) := by rw [ha]; exact putSel_on (e := (8, 87, .pointer (some (ad.add (i * 5))))) 8 rfl rfl (hon 8 (by kernel_rfl)) rfl
                      replace ha := Aside0.mk ha
                      have FD := Aside0.mk (Q_FD (hoff 11 (by kernel_rfl)))
                      have FB := Aside0.mk Q_FB
                      have FA := Aside0.mk Q_FA
                      have FW := Aside0.mk Q_FW
                      refine value_ (w1 := w') (v := .agg #[.int .u8 (f1 i).1, .int .i64 (f1 i).2.1, .int .u8 (f1 i).2.2.1, .int .i64 (f1 i).2.2.2.1, .int .i64 (f1 i).2.2.2.2]) (by rfl) rfl (run_load_seg 28 (.tmp 87) rfl (ad.add (i * 5)) (eval_of e87) (actCells (f1 i)) _ Try.underlying28 rfl size_act (HCELL.out _ FB.out).2) ?_
                      refine hK.out _ _ ⟨vs, (by rw [ha.out]; exact putSel_upk 9 hb_ rfl rfl rfl), fun _ => FD.out, fun h0_ => absurd ((hoff 11 (by kernel_rfl)).symm.trans h0_) (by decide), FB.out, fun h0_ _ => absurd ((hoff 10 (by kernel_rfl)).symm.trans h0_) (by decide), FA.out, FW.out⟩
                    refine steps_cons ?_ ?_
                    · rintro b a w' ⟨vs, ha, Q_FD, Q_FD2, Q_FB, Q_FV, Q_FA, Q_FW⟩ hb_ hon hoff
                      refine ⟨_, rfl, fun K hK => ?_⟩
                      have e88 : a.tmps[88]? = some (.agg #[.int .u8 (f1 i).1, .int .i64 (f1 i).2.1, .int .u8 (f1 i).2.2.1, .int .i64 (f1 i).2.2.2.1, .int .i64 (f1 i).2.2.2.2]) := by rw [ha]; exact putSel_on (e := (9, 88, .agg #[.int .u8 (f1 i).1, .int .i64 (f1 i).2.1, .int .u8 (f1 i).2.2.1, .int .i64 (f1 i).2.2.2.1, .int .i64 (f1 i).2.2.2.2])) 9 rfl rfl (hon 9 (by kernel_rfl)) rfl
                      replace ha := Aside0.mk ha
                      have FD := Aside0.mk (Q_FD (hoff 11 (by kernel_rfl)))
                      have FB := Aside0.mk Q_FB
                      have FA := Aside0.mk Q_FA
                      have FW := Aside0.mk Q_FW
                      refine goes_ Try.func13 (by kernel_rfl) rfl #[.agg #[.int .u8 (f1 i).1, .int .i64 (f1 i).2.1, .int .u8 (f1 i).2.2.1, .int .i64 (f1 i).2.2.2.1, .int .i64 (f1 i).2.2.2.2]] (by rfl) rfl rfl (by first | (simp only [List.map_toArray, List.map_cons, List.map_nil, Act.eval, Array.getD_eq_getD_getElem?, Option.getD_some, e88]; done) | (simp only [List.map_toArray, List.map_cons, List.map_nil, Act.eval, Array.getD_eq_getD_getElem?, Option.getD_some, e88]; rfl)) ?_
                      refine (prebendlaw05_made.calls 40 _ _ _ _ _ r _ HMADE.out).mono ?_
                      rintro e w10 ⟨v10, rfl, hR10, hB10⟩
                      refine ⟨v10, rfl, ?_⟩
                      refine hK.out _ _ ⟨v10, (by rw [ha.out]; exact putSel_upk 10 hb_ rfl rfl rfl), fun _ => disk_below FD.out hB10, fun h0_ => absurd ((hoff 11 (by kernel_rfl)).symm.trans h0_) (by decide), below_step FB.out hB10, fun _ _ => ⟨_, hR10⟩, Kd.R_below FA.out hB10, Kd.R_below FW.out hB10⟩
                    refine steps_cons ?_ ?_
                    · rintro b a w' ⟨vs, ha, Q_FD, Q_FD2, Q_FB, Q_FV, Q_FA, Q_FW⟩ hb_ hon hoff
                      refine ⟨_, rfl, fun K hK => ?_⟩
                      have e79 : a.tmps[79]? = some (.pointer (some ⟨g, 0, none⟩)) := by rw [ha]; exact putSel_on (e := (0, 79, .pointer (some ⟨g, 0, none⟩))) 0 rfl rfl (hon 0 (by kernel_rfl)) rfl
                      have e84 : a.tmps[84]? = some (.int .i64 (f1 i).2.1) := by rw [ha]; exact putSel_on (e := (5, 84, .int .i64 (f1 i).2.1)) 5 rfl rfl (hon 5 (by kernel_rfl)) rfl
                      have e89 : a.tmps[89]? = some (vs) := by rw [ha]; exact putSel_on (e := (10, 89, vs)) 10 rfl rfl (hon 10 (by kernel_rfl)) rfl
                      replace ha := Aside0.mk ha
                      have FD := Aside0.mk (Q_FD hb_)
                      have FB := Aside0.mk Q_FB
                      have FV := Aside0.mk (Q_FV (hon 10 (by kernel_rfl)) hb_)
                      have FA := Aside0.mk Q_FA
                      have FW := Aside0.mk Q_FW
                      obtain ⟨b_, hR_⟩ := FV.out
                      obtain ⟨Av, cv, hvs_⟩ := Kd.R_slice hR_
                      rw [hvs_] at e89
                      rw [hvs_] at hR_
                      refine goes_ Try.func12 (by kernel_rfl) rfl #[.pointer (some ⟨g, 0, none⟩), .int .i64 (f1 i).2.1, .slice Av r.length cv] (by rfl) rfl rfl (by first | (simp only [List.map_toArray, List.map_cons, List.map_nil, Act.eval, Array.getD_eq_getD_getElem?, Option.getD_some, e79, e84, e89]; done) | (simp only [List.map_toArray, List.map_cons, List.map_nil, Act.eval, Array.getD_eq_getD_getElem?, Option.getD_some, e79, e84, e89]; rfl)) ?_
                      refine (write_walk w.heap.size g s (f1 i).2.1 Av cv r _ FD.out HFU.out HL1.out (FB.out).size (row_src hR_ _)).mono ?_
                      rintro e w10 ⟨rfl, hD10, hK10⟩
                      refine ⟨_, rfl, ?_⟩
                      refine hK.out _ _ ⟨vs, (by rw [ha.out]; exact putSel_upk 11 hb_ rfl rfl rfl), fun h0_ => absurd ((up_self b 11).symm.trans h0_) (by decide), fun _ => hD10, below_keep FB.out (FB.out).size hK10, fun _ h1_ => absurd ((up_self b 11).symm.trans h1_) (by decide), bools_keep FA.out hK10, rows_keep FW.out hK10⟩
                    refine steps_cons ?_ ?_
                    · rintro b a w' ⟨vs, ha, Q_FD, Q_FD2, Q_FB, Q_FV, Q_FA, Q_FW⟩ hb_ hon hoff
                      refine ⟨_, rfl, fun K hK => ?_⟩
                      have e90 : a.tmps[90]? = some (.int .i64 (Write s (f1 i).2.1 r).1) := by rw [ha]; exact putSel_on (e := (11, 90, .int .i64 (Write s (f1 i).2.1 r).1)) 11 rfl rfl (hon 11 (by kernel_rfl)) rfl
                      replace ha := Aside0.mk ha
                      have FD2 := Aside0.mk (Q_FD2 (hon 11 (by kernel_rfl)))
                      have FB := Aside0.mk Q_FB
                      have FA := Aside0.mk Q_FA
                      have FW := Aside0.mk Q_FW
                      refine value_ (w1 := w') (v := .bool false) (by rfl) rfl ?_ ?_
                      · go_simp
                        (try simp only [i64_w])
                        try rfl
                      refine hK.out _ _ ⟨vs, (by rw [ha.out]; exact putSel_upk 12 hb_ rfl rfl rfl), fun h0_ => absurd ((hon 11 (by kernel_rfl)).symm.trans h0_) (by decide), Q_FD2, Q_FB, fun _ h1_ => absurd ((hon 11 (by kernel_rfl)).symm.trans h1_) (by decide), Q_FA, Q_FW⟩
                    refine steps_cons ?_ ?_
                    · rintro b a w' ⟨vs, ha, Q_FD, Q_FD2, Q_FB, Q_FV, Q_FA, Q_FW⟩ hb_ hon hoff
                      refine ⟨_, rfl, fun K hK => ?_⟩
                      have e91 : a.tmps[91]? = some (.bool false) := by rw [ha]; exact putSel_on (e := (12, 91, .bool false)) 12 rfl rfl (hon 12 (by kernel_rfl)) rfl
                      replace ha := Aside0.mk ha
                      have FD2 := Aside0.mk (Q_FD2 (hon 11 (by kernel_rfl)))
                      have FB := Aside0.mk Q_FB
                      have FA := Aside0.mk Q_FA
                      have FW := Aside0.mk Q_FW
                      refine value_ (w1 := w') (v := .bool false) (by rfl) rfl ?_ ?_
                      · go_simp
                        (try simp only [i64_w])
                        try rfl
                      refine hK.out _ _ ⟨vs, (by rw [ha.out]; exact putSel_upk 13 hb_ rfl rfl rfl), fun h0_ => absurd ((hon 11 (by kernel_rfl)).symm.trans h0_) (by decide), Q_FD2, Q_FB, fun _ h1_ => absurd ((hon 11 (by kernel_rfl)).symm.trans h1_) (by decide), Q_FA, Q_FW⟩
                    refine steps_cons ?_ ?_
                    · rintro b a w' ⟨vs, ha, Q_FD, Q_FD2, Q_FB, Q_FV, Q_FA, Q_FW⟩ hb_ hon hoff
                      refine ⟨_, rfl, fun K hK => ?_⟩
                      have e92 : a.tmps[92]? = some (.bool false) := by rw [ha]; exact putSel_on (e := (13, 92, .bool false)) 13 rfl rfl (hon 13 (by kernel_rfl)) rfl
                      replace ha := Aside0.mk ha
                      have FD2 := Aside0.mk (Q_FD2 (hon 11 (by kernel_rfl)))
                      have FB := Aside0.mk Q_FB
                      have FA := Aside0.mk Q_FA
                      have FW := Aside0.mk Q_FW
                      refine off_ (wanted_off rfl rfl rfl (e92.trans (by first | rfl | (simp [*]; done)))) ?_
                      refine hK.out _ _ ⟨vs, (by rw [ha.out]; exact putSel_upk 14 hb_ rfl rfl rfl), fun h0_ => absurd ((hon 11 (by kernel_rfl)).symm.trans h0_) (by decide), Q_FD2, Q_FB, fun _ h1_ => absurd ((hon 11 (by kernel_rfl)).symm.trans h1_) (by decide), Q_FA, Q_FW⟩
                    refine steps_cons ?_ ?_
                    · rintro b a w' ⟨vs, ha, Q_FD, Q_FD2, Q_FB, Q_FV, Q_FA, Q_FW⟩ hb_ hon hoff
                      refine ⟨_, rfl, fun K hK => ?_⟩
                      have e92 : a.tmps[92]? = some (.bool false) := by rw [ha]; exact putSel_on (e := (13, 92, .bool false)) 13 rfl rfl (hon 13 (by kernel_rfl)) rfl
                      replace ha := Aside0.mk ha
                      have FD2 := Aside0.mk (Q_FD2 (hon 11 (by kernel_rfl)))
                      have FB := Aside0.mk Q_FB
                      have FA := Aside0.mk Q_FA
                      have FW := Aside0.mk Q_FW
                      refine off_ (wanted_off rfl rfl rfl (e92.trans (by first | rfl | (simp [*]; done)))) ?_
                      refine hK.out _ _ ⟨vs, (by rw [ha.out]; exact putSel_upk 15 hb_ rfl rfl rfl), fun h0_ => absurd ((hon 11 (by kernel_rfl)).symm.trans h0_) (by decide), Q_FD2, Q_FB, fun _ h1_ => absurd ((hon 11 (by kernel_rfl)).symm.trans h1_) (by decide), Q_FA, Q_FW⟩
                    refine steps_cons ?_ ?_
                    · rintro b a w' ⟨vs, ha, Q_FD, Q_FD2, Q_FB, Q_FV, Q_FA, Q_FW⟩ hb_ hon hoff
                      refine ⟨_, rfl, fun K hK => ?_⟩
                      have e92 : a.tmps[92]? = some (.bool false) := by rw [ha]; exact putSel_on (e := (13, 92, .bool false)) 13 rfl rfl (hon 13 (by kernel_rfl)) rfl
                      replace ha := Aside0.mk ha
                      have FD2 := Aside0.mk (Q_FD2 (hon 11 (by kernel_rfl)))
                      have FB := Aside0.mk Q_FB
                      have FA := Aside0.mk Q_FA
                      have FW := Aside0.mk Q_FW
                      refine off_ (wanted_off rfl rfl rfl (e92.trans (by first | rfl | (simp [*]; done)))) ?_
                      refine hK.out _ _ ⟨vs, (by rw [ha.out]; exact putSel_upk 16 hb_ rfl rfl rfl), fun h0_ => absurd ((hon 11 (by kernel_rfl)).symm.trans h0_) (by decide), Q_FD2, Q_FB, fun _ h1_ => absurd ((hon 11 (by kernel_rfl)).symm.trans h1_) (by decide), Q_FA, Q_FW⟩
                    refine steps_cons ?_ ?_
                    · rintro b a w' ⟨vs, ha, Q_FD, Q_FD2, Q_FB, Q_FV, Q_FA, Q_FW⟩ hb_ hon hoff
                      refine ⟨_, rfl, fun K hK => ?_⟩
                      have e92 : a.tmps[92]? = some (.bool false) := by rw [ha]; exact putSel_on (e := (13, 92, .bool false)) 13 rfl rfl (hon 13 (by kernel_rfl)) rfl
                      replace ha := Aside0.mk ha
                      have FD2 := Aside0.mk (Q_FD2 (hon 11 (by kernel_rfl)))
                      have FB := Aside0.mk Q_FB
                      have FA := Aside0.mk Q_FA
                      have FW := Aside0.mk Q_FW
                      refine off_ (wanted_off rfl rfl rfl (e92.trans (by first | rfl | (simp [*]; done)))) ?_
                      refine hK.out _ _ ⟨vs, (by rw [ha.out]; exact putSel_upk 17 hb_ rfl rfl rfl), fun h0_ => absurd ((hon 11 (by kernel_rfl)).symm.trans h0_) (by decide), Q_FD2, Q_FB, fun _ h1_ => absurd ((hon 11 (by kernel_rfl)).symm.trans h1_) (by decide), Q_FA, Q_FW⟩
                    refine steps_cons ?_ ?_
                    · rintro b a w' ⟨vs, ha, Q_FD, Q_FD2, Q_FB, Q_FV, Q_FA, Q_FW⟩ hb_ hon hoff
                      refine ⟨_, rfl, fun K hK => ?_⟩
                      have e92 : a.tmps[92]? = some (.bool false) := by rw [ha]; exact putSel_on (e := (13, 92, .bool false)) 13 rfl rfl (hon 13 (by kernel_rfl)) rfl
                      replace ha := Aside0.mk ha
                      have FD2 := Aside0.mk (Q_FD2 (hon 11 (by kernel_rfl)))
                      have FB := Aside0.mk Q_FB
                      have FA := Aside0.mk Q_FA
                      have FW := Aside0.mk Q_FW
                      refine off_ (wanted_off rfl rfl rfl (e92.trans (by first | rfl | (simp [*]; done)))) ?_
                      refine hK.out _ _ ⟨vs, (by rw [ha.out]; exact putSel_upk 18 hb_ rfl rfl rfl), fun h0_ => absurd ((hon 11 (by kernel_rfl)).symm.trans h0_) (by decide), Q_FD2, Q_FB, fun _ h1_ => absurd ((hon 11 (by kernel_rfl)).symm.trans h1_) (by decide), Q_FA, Q_FW⟩
                    refine steps_cons ?_ ?_
                    · rintro b a w' ⟨vs, ha, Q_FD, Q_FD2, Q_FB, Q_FV, Q_FA, Q_FW⟩ hb_ hon hoff
                      refine ⟨_, rfl, fun K hK => ?_⟩
                      have e92 : a.tmps[92]? = some (.bool false) := by rw [ha]; exact putSel_on (e := (13, 92, .bool false)) 13 rfl rfl (hon 13 (by kernel_rfl)) rfl
                      replace ha := Aside0.mk ha
                      have FD2 := Aside0.mk (Q_FD2 (hon 11 (by kernel_rfl)))
                      have FB := Aside0.mk Q_FB
                      have FA := Aside0.mk Q_FA
                      have FW := Aside0.mk Q_FW
                      refine off_ (wanted_off rfl rfl rfl (e92.trans (by first | rfl | (simp [*]; done)))) ?_
                      refine hK.out _ _ ⟨vs, (by rw [ha.out]; exact putSel_upk 19 hb_ rfl rfl rfl), fun h0_ => absurd ((hon 11 (by kernel_rfl)).symm.trans h0_) (by decide), Q_FD2, Q_FB, fun _ h1_ => absurd ((hon 11 (by kernel_rfl)).symm.trans h1_) (by decide), Q_FA, Q_FW⟩
                    refine steps_cons ?_ ?_
                    · rintro b a w' ⟨vs, ha, Q_FD, Q_FD2, Q_FB, Q_FV, Q_FA, Q_FW⟩ hb_ hon hoff
                      refine ⟨_, rfl, fun K hK => ?_⟩
                      have e92 : a.tmps[92]? = some (.bool false) := by rw [ha]; exact putSel_on (e := (13, 92, .bool false)) 13 rfl rfl (hon 13 (by kernel_rfl)) rfl
                      have e98 : a.tmps[98]? = some (undef) := by rw [ha]; exact putSel_on (e := (19, 98, undef)) 19 rfl rfl (hon 19 (by kernel_rfl)) rfl
                      replace ha := Aside0.mk ha
                      have FD2 := Aside0.mk (Q_FD2 (hon 11 (by kernel_rfl)))
                      have FB := Aside0.mk Q_FB
                      have FA := Aside0.mk Q_FA
                      have FW := Aside0.mk Q_FW
                      refine value_ (w1 := w') (v := .bool false) (by rfl) rfl ?_ ?_
                      · go_simp
                        (try simp only [i64_w])
                        try rfl
                      refine hK.out _ _ ⟨vs, (by rw [ha.out]; exact putSel_upk 20 hb_ rfl rfl rfl), fun h0_ => absurd ((hon 11 (by kernel_rfl)).symm.trans h0_) (by decide), Q_FD2, Q_FB, fun _ h1_ => absurd ((hon 11 (by kernel_rfl)).symm.trans h1_) (by decide), Q_FA, Q_FW⟩
                    refine steps_cons ?_ ?_
                    · rintro b a w' ⟨vs, ha, Q_FD, Q_FD2, Q_FB, Q_FV, Q_FA, Q_FW⟩ hb_ hon hoff
                      refine ⟨_, rfl, fun K hK => ?_⟩
                      have e99 : a.tmps[99]? = some (.bool false) := by rw [ha]; exact putSel_on (e := (20, 99, .bool false)) 20 rfl rfl (hon 20 (by kernel_rfl)) rfl
                      replace ha := Aside0.mk ha
                      have FD2 := Aside0.mk (Q_FD2 (hon 11 (by kernel_rfl)))
                      have FB := Aside0.mk Q_FB
                      have FA := Aside0.mk Q_FA
                      have FW := Aside0.mk Q_FW
                      refine value_ (w1 := w') (v := .bool false) (by rfl) rfl ?_ ?_
                      · go_simp
                        (try simp only [i64_w])
                        try rfl
                      refine hK.out _ _ ⟨vs, (by rw [ha.out]; exact putSel_upk 21 hb_ rfl rfl rfl), fun h0_ => absurd ((hon 11 (by kernel_rfl)).symm.trans h0_) (by decide), Q_FD2, Q_FB, fun _ h1_ => absurd ((hon 11 (by kernel_rfl)).symm.trans h1_) (by decide), Q_FA, Q_FW⟩
                    refine steps_cons ?_ ?_
                    · rintro b a w' ⟨vs, ha, Q_FD, Q_FD2, Q_FB, Q_FV, Q_FA, Q_FW⟩ hb_ hon hoff
                      refine ⟨_, rfl, fun K hK => ?_⟩
                      have e100 : a.tmps[100]? = some (.bool false) := by rw [ha]; exact putSel_on (e := (21, 100, .bool false)) 21 rfl rfl (hon 21 (by kernel_rfl)) rfl
                      replace ha := Aside0.mk ha
                      have FD2 := Aside0.mk (Q_FD2 (hon 11 (by kernel_rfl)))
                      have FB := Aside0.mk Q_FB
                      have FA := Aside0.mk Q_FA
                      have FW := Aside0.mk Q_FW
                      refine off_ (wanted_off rfl rfl rfl (e100.trans (by first | rfl | (simp [*]; done)))) ?_
                      refine hK.out _ _ ⟨vs, (by rw [ha.out]; exact putSel_upk 22 hb_ rfl rfl rfl), fun h0_ => absurd ((hon 11 (by kernel_rfl)).symm.trans h0_) (by decide), Q_FD2, Q_FB, fun _ h1_ => absurd ((hon 11 (by kernel_rfl)).symm.trans h1_) (by decide), Q_FA, Q_FW⟩
                    refine steps_cons ?_ ?_
                    · rintro b a w' ⟨vs, ha, Q_FD, Q_FD2, Q_FB, Q_FV, Q_FA, Q_FW⟩ hb_ hon hoff
                      refine ⟨_, rfl, fun K hK => ?_⟩
                      have e100 : a.tmps[100]? = some (.bool false) := by rw [ha]; exact putSel_on (e := (21, 100, .bool false)) 21 rfl rfl (hon 21 (by kernel_rfl)) rfl
                      replace ha := Aside0.mk ha
                      have FD2 := Aside0.mk (Q_FD2 (hon 11 (by kernel_rfl)))
                      have FB := Aside0.mk Q_FB
                      have FA := Aside0.mk Q_FA
                      have FW := Aside0.mk Q_FW
                      refine off_ (wanted_off rfl rfl rfl (e100.trans (by first | rfl | (simp [*]; done)))) ?_
                      refine hK.out _ _ ⟨vs, (by rw [ha.out]; exact putSel_upk 23 hb_ rfl rfl rfl), fun h0_ => absurd ((hon 11 (by kernel_rfl)).symm.trans h0_) (by decide), Q_FD2, Q_FB, fun _ h1_ => absurd ((hon 11 (by kernel_rfl)).symm.trans h1_) (by decide), Q_FA, Q_FW⟩
                    refine steps_cons ?_ ?_
                    · rintro b a w' ⟨vs, ha, Q_FD, Q_FD2, Q_FB, Q_FV, Q_FA, Q_FW⟩ hb_ hon hoff
                      refine ⟨_, rfl, fun K hK => ?_⟩
                      have e100 : a.tmps[100]? = some (.bool false) := by rw [ha]; exact putSel_on (e := (21, 100, .bool false)) 21 rfl rfl (hon 21 (by kernel_rfl)) rfl
                      replace ha := Aside0.mk ha
                      have FD2 := Aside0.mk (Q_FD2 (hon 11 (by kernel_rfl)))
                      have FB := Aside0.mk Q_FB
                      have FA := Aside0.mk Q_FA
                      have FW := Aside0.mk Q_FW
                      refine off_ (wanted_off rfl rfl rfl (e100.trans (by first | rfl | (simp [*]; done)))) ?_
                      refine hK.out _ _ ⟨vs, (by rw [ha.out]; exact putSel_upk 24 hb_ rfl rfl rfl), fun h0_ => absurd ((hon 11 (by kernel_rfl)).symm.trans h0_) (by decide), Q_FD2, Q_FB, fun _ h1_ => absurd ((hon 11 (by kernel_rfl)).symm.trans h1_) (by decide), Q_FA, Q_FW⟩
                    refine steps_cons ?_ ?_
                    · rintro b a w' ⟨vs, ha, Q_FD, Q_FD2, Q_FB, Q_FV, Q_FA, Q_FW⟩ hb_ hon hoff
                      refine ⟨_, rfl, fun K hK => ?_⟩
                      have e100 : a.tmps[100]? = some (.bool false) := by rw [ha]; exact putSel_on (e := (21, 100, .bool false)) 21 rfl rfl (hon 21 (by kernel_rfl)) rfl
                      replace ha := Aside0.mk ha
                      have FD2 := Aside0.mk (Q_FD2 (hon 11 (by kernel_rfl)))
                      have FB := Aside0.mk Q_FB
                      have FA := Aside0.mk Q_FA
                      have FW := Aside0.mk Q_FW
                      refine off_ (wanted_off rfl rfl rfl (e100.trans (by first | rfl | (simp [*]; done)))) ?_
                      refine hK.out _ _ ⟨vs, (by rw [ha.out]; exact putSel_upk 25 hb_ rfl rfl rfl), fun h0_ => absurd ((hon 11 (by kernel_rfl)).symm.trans h0_) (by decide), Q_FD2, Q_FB, fun _ h1_ => absurd ((hon 11 (by kernel_rfl)).symm.trans h1_) (by decide), Q_FA, Q_FW⟩
                    refine steps_cons ?_ ?_
                    · rintro b a w' ⟨vs, ha, Q_FD, Q_FD2, Q_FB, Q_FV, Q_FA, Q_FW⟩ hb_ hon hoff
                      refine ⟨_, rfl, fun K hK => ?_⟩
                      have e100 : a.tmps[100]? = some (.bool false) := by rw [ha]; exact putSel_on (e := (21, 100, .bool false)) 21 rfl rfl (hon 21 (by kernel_rfl)) rfl
                      replace ha := Aside0.mk ha
                      have FD2 := Aside0.mk (Q_FD2 (hon 11 (by kernel_rfl)))
                      have FB := Aside0.mk Q_FB
                      have FA := Aside0.mk Q_FA
                      have FW := Aside0.mk Q_FW
                      refine off_ (wanted_off rfl rfl rfl (e100.trans (by first | rfl | (simp [*]; done)))) ?_
                      refine hK.out _ _ ⟨vs, (by rw [ha.out]; exact putSel_upk 26 hb_ rfl rfl rfl), fun h0_ => absurd ((hon 11 (by kernel_rfl)).symm.trans h0_) (by decide), Q_FD2, Q_FB, fun _ h1_ => absurd ((hon 11 (by kernel_rfl)).symm.trans h1_) (by decide), Q_FA, Q_FW⟩
                    refine steps_cons ?_ ?_
                    · rintro b a w' ⟨vs, ha, Q_FD, Q_FD2, Q_FB, Q_FV, Q_FA, Q_FW⟩ hb_ hon hoff
                      refine ⟨_, rfl, fun K hK => ?_⟩
                      have e100 : a.tmps[100]? = some (.bool false) := by rw [ha]; exact putSel_on (e := (21, 100, .bool false)) 21 rfl rfl (hon 21 (by kernel_rfl)) rfl
                      replace ha := Aside0.mk ha
                      have FD2 := Aside0.mk (Q_FD2 (hon 11 (by kernel_rfl)))
                      have FB := Aside0.mk Q_FB
                      have FA := Aside0.mk Q_FA
                      have FW := Aside0.mk Q_FW
                      refine off_ (wanted_off rfl rfl rfl (e100.trans (by first | rfl | (simp [*]; done)))) ?_
                      refine hK.out _ _ ⟨vs, (by rw [ha.out]; exact putSel_upk 27 hb_ rfl rfl rfl), fun h0_ => absurd ((hon 11 (by kernel_rfl)).symm.trans h0_) (by decide), Q_FD2, Q_FB, fun _ h1_ => absurd ((hon 11 (by kernel_rfl)).symm.trans h1_) (by decide), Q_FA, Q_FW⟩
                    refine steps_cons ?_ ?_
                    · rintro b a w' ⟨vs, ha, Q_FD, Q_FD2, Q_FB, Q_FV, Q_FA, Q_FW⟩ hb_ hon hoff
                      refine ⟨_, rfl, fun K hK => ?_⟩
                      have e100 : a.tmps[100]? = some (.bool false) := by rw [ha]; exact putSel_on (e := (21, 100, .bool false)) 21 rfl rfl (hon 21 (by kernel_rfl)) rfl
                      have e106 : a.tmps[106]? = some (undef) := by rw [ha]; exact putSel_on (e := (27, 106, undef)) 27 rfl rfl (hon 27 (by kernel_rfl)) rfl
                      replace ha := Aside0.mk ha
                      have FD2 := Aside0.mk (Q_FD2 (hon 11 (by kernel_rfl)))
                      have FB := Aside0.mk Q_FB
                      have FA := Aside0.mk Q_FA
                      have FW := Aside0.mk Q_FW
                      refine value_ (w1 := w') (v := .bool false) (by rfl) rfl ?_ ?_
                      · go_simp
                        (try simp only [i64_w])
                        try rfl
                      refine hK.out _ _ ⟨vs, (by rw [ha.out]; exact putSel_upk 28 hb_ rfl rfl rfl), fun h0_ => absurd ((hon 11 (by kernel_rfl)).symm.trans h0_) (by decide), Q_FD2, Q_FB, fun _ h1_ => absurd ((hon 11 (by kernel_rfl)).symm.trans h1_) (by decide), Q_FA, Q_FW⟩
                    exact steps_nil
                  · rintro b a w' hall ⟨vs, ha, Q_FD, Q_FD2, Q_FB, Q_FV, Q_FA, Q_FW⟩
                    clear FA FB FD FW
                    have hb0_ := hall 0 (by kernel_rfl)
                    have hb1_ := hall 1 (by kernel_rfl)
                    have hb2_ := hall 2 (by kernel_rfl)
                    have hb3_ := hall 3 (by kernel_rfl)
                    have hb4_ := hall 4 (by kernel_rfl)
                    have hb5_ := hall 5 (by kernel_rfl)
                    have hb6_ := hall 6 (by kernel_rfl)
                    have hb7_ := hall 7 (by kernel_rfl)
                    have hb8_ := hall 8 (by kernel_rfl)
                    have hb9_ := hall 9 (by kernel_rfl)
                    have hb10_ := hall 10 (by kernel_rfl)
                    have hb11_ := hall 11 (by kernel_rfl)
                    have hb12_ := hall 12 (by kernel_rfl)
                    have hb13_ := hall 13 (by kernel_rfl)
                    have hb14_ := hall 14 (by kernel_rfl)
                    have hb15_ := hall 15 (by kernel_rfl)
                    have hb16_ := hall 16 (by kernel_rfl)
                    have hb17_ := hall 17 (by kernel_rfl)
                    have hb18_ := hall 18 (by kernel_rfl)
                    have hb19_ := hall 19 (by kernel_rfl)
                    have hb20_ := hall 20 (by kernel_rfl)
                    have hb21_ := hall 21 (by kernel_rfl)
                    have hb22_ := hall 22 (by kernel_rfl)
                    have hb23_ := hall 23 (by kernel_rfl)
                    have hb24_ := hall 24 (by kernel_rfl)
                    have hb25_ := hall 25 (by kernel_rfl)
                    have hb26_ := hall 26 (by kernel_rfl)
                    have hb27_ := hall 27 (by kernel_rfl)
                    have hb28_ := hall 28 (by kernel_rfl)
                    subst ha
                    simp only [putSel, hb0_, hb1_, hb2_, hb3_, hb4_, hb5_, hb6_, hb7_, hb8_, hb9_, hb10_, hb11_, hb12_, hb13_, hb14_, hb15_, hb16_, hb17_, hb18_, hb19_, hb20_, hb21_, hb22_, hb23_, hb24_, hb25_, hb26_, hb27_, hb28_, if_true, Act.put, List.setIfInBounds_toArray, List.set_cons_zero, List.set_cons_succ]
                    clear Q_FD
                    have FD2 := Aside0.mk (Q_FD2 hb11_)
                    clear Q_FD2
                    have FB := Aside0.mk Q_FB
                    clear Q_FB
                    clear Q_FV
                    have FA := Aside0.mk Q_FA
                    clear Q_FA
                    have FW := Aside0.mk Q_FW
                    clear Q_FW
                    clear hall hb0_ hb1_ hb2_ hb3_ hb4_ hb5_ hb6_ hb7_ hb8_ hb9_ hb10_ hb11_ hb12_ hb13_ hb14_ hb15_ hb16_ hb17_ hb18_ hb19_ hb20_ hb21_ hb22_ hb23_ hb24_ hb25_ hb26_ hb27_ hb28_
                    have hD3 := FD2.out
                    rw [hss] at hD3
                    have HD3 := Aside0.mk hD3
                    clear hD3 hss FD2
                    go_wp2
                    go_roundw
                    case rel => exact ⟨i + 1, s, ag, by omega, by omega, by go_num, HF.out, HG.out, HOK, Nat.le_succ_of_le HCL.out, HAL, HAG, FA, FW, HD3, FB⟩
                    case measure => simp [intOf]; omega
              · have hex : (decide (i < n1) = false) ∨ (i < n1 ∧ ¬ (i : Int) < 20) := by
                  by_cases h : i < n1
                  · exact .inr ⟨h, by omega⟩
                  · exact .inl (decide_eq_false h)
                clear hlt hf hg hcl
                have HQ := Aside0.mk (fun (q : Nat) (hq : q < 12) => kept_crash s s3 keep torn cut ag HOK.out HG.out HG3.out.2.1 HAG.out q (by rw [HG3.out.1]; exact hq))
                rcases hex with hl1 | ⟨hl1, hl2⟩
                all_goals
                  go_wp2_with fail
                  refine (crash_walk w.heap.size g s keep torn cut _ FD.out HOK.out.inr).mono ?_
                  rintro e w8 ⟨rfl, hD8, hK8⟩
                  have HD8 := Aside0.mk (show DiskAt w.heap.size w8 g (Crash s keep torn cut) from hD8)
                  have HB8 := Aside0.mk (below_keep FB.out FB.out.size hK8)
                  have HA8 := Aside0.mk (bools_keep FA.out hK8)
                  have HW8 := Aside0.mk (rows_keep FW.out hK8)
                  have HC8 := Aside0.mk (show (Crash s keep torn cut).cache = [] from rfl)
                  generalize Crash s keep torn cut = s4 at *
                  clear hD8 hK8 FD FB FA FW HOK HAG hl1
                  (try clear hl2)
                  go_wp2
                  go_loopw [19] (fun v19 wr => ∃ j : Nat, j ≤ 12 ∧ v19 = .int .i64 j ∧ Aside0 (Kd.bool.R 4 wr w.heap.size (fun _ => True) (.slice (some ⟨ga, 0, none⟩) 12 ca) ag) ∧ Aside0 (rowsK.R 29 wr w.heap.size (fun _ => True) (.slice (some ⟨gw, 0, none⟩) 12 cw) rs) ∧ Aside0 (DiskAt w.heap.size wr g s4) ∧ Aside0 (Below w.heap.size w wr)) (fun v19 _ => 12 - (intOf v19).toNat)
                  case atStart => exact ⟨0, Nat.zero_le _, rfl, HA8, HW8, HD8, HB8⟩
                  case round =>
                    clear HA8 HW8 HD8 HB8
                    obtain ⟨j, hj12, rfl, FA, FW, FD, FB⟩ := hrel
                    by_cases hj : j < 12
                    · have hjb : (j : Int) < 12 := by omega
                      have hj0 : (0 : Int) ≤ (j : Int) := by omega
                      go_wp2_with fail
                      refine (read_any w.heap.size g s4 _ _ FD.out).mono ?_
                      rintro e w9 ⟨v9, rfl, hR9, hB9⟩
                      obtain ⟨A9, c9, hv9⟩ := Kd.R_slice hR9
                      subst hv9
                      have FA9 := Aside0.mk (Kd.R_below FA.out hB9)
                      have FW9 := Aside0.mk (Kd.R_below FW.out hB9)
                      have FD9 := Aside0.mk (disk_below FD.out hB9)
                      have FB9 := Aside0.mk (below_step FB.out hB9)
                      have hC9 := (Kd.R_reads' hR9).2.2
                      have hbj := bools_at FA9.out j (by rw [HAL.out]; exact hj)
                      obtain ⟨gw', cw', Aq, cq, hvq, hcq, hCq⟩ := rows_at FW9.out j (by rw [hrl]; exact hj)
                      injection hvq with hvq h12_ hcw_
                      clear h12_ hcw_
                      injection hvq with hvq
                      injection hvq with hvq
                      subst hvq
                      rw [HROW.out j hj] at hcq hCq
                      clear FA FW FD FB hR9 hB9
                      cases hag : ag.getD j false with
                      | true =>
                        rw [hag] at hbj
                        clear hcq hCq hC9 hag
                        go_wp2
                        go_quiet (fail)
                        go_wp2
                        go_roundw
                        case rel => exact ⟨j + 1, by omega, by go_num, ⟨Kd.R_drewN FA9.out _⟩, ⟨Kd.R_drewN FW9.out _⟩, ⟨disk_drewN FD9.out _⟩, ⟨pw_below_drewN FB9.out _⟩⟩
                        case measure => simp [intOf]; omega
                      | false =>
                        rw [hag] at hbj
                        have hsame := HQ.out j hj hag
                        have hcv1 := fun m => Kd.C_string (P := Try.prog) (A := A9) (c := c9) Try.underlying29 Try.underlying5 Try.underlying9 (Kd.C_drewN hC9 m)
                        have hcv2 := fun m => Kd.C_string (P := Try.prog) (A := Aq) (c := cq) Try.underlying29 Try.underlying5 Try.underlying9 (Kd.C_drewN hCq m)
                        rw [hsame] at hcv1 ⊢
                        clear hCq hC9 hsame hag
                        go_wp2
                        go_quiet (fail)
                        go_wp2
                        go_roundw
                        case rel => exact ⟨j + 1, by omega, by go_num, ⟨Kd.R_drewN FA9.out _⟩, ⟨Kd.R_drewN FW9.out _⟩, ⟨disk_drewN FD9.out _⟩, ⟨pw_below_drewN FB9.out _⟩⟩
                        case measure => simp [intOf]; omega
                    · obtain rfl : j = 12 := by omega
                      clear FA FW
                      go_wp2_with fail
                      refine (awake_walk _).mono ?_
                      rintro e w9 ⟨rfl, hB9⟩
                      have FD9 := Aside0.mk (disk_below FD.out hB9)
                      have FB9 := Aside0.mk (below_step FB.out hB9)
                      clear FD FB hB9
                      go_wp2_with fail
                      refine (cached_walk w.heap.size g s4 _ FD9.out).mono ?_
                      rintro e w9' ⟨rfl, rfl⟩
                      rw [HC8.out]
                      go_wp2
                      go_ret
                      exact ⟨rfl, FB9.out⟩
end Go.Proofs.Ytmpiljfpgfhljaa.XDisk
