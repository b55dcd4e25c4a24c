/-
  The fixed fact of the disk's laws, by its walk: it comes to true, and nothing that there was is touched.
-/
import Derived.Laws.CopyOwn
import Derived.ArgAppend
import Derived.Below
import Derived.BigQuiet
import Derived.Deep.AppendLies
import Derived.Deep.CutBlock
import Derived.Deep.DeepCutAuto
import Derived.Deep.Draws
import Derived.Deep.LoopGhost
import Derived.Deep.OwnRows
import Derived.Deep.QuietTactic
import Derived.Deep.RegionHeld3
import Derived.Deep.WholeRow
import Derived.KernelRfl
import Derived.Laws.BitsLemmas
import Derived.Laws.BytesArg
import Derived.Laws.IdiomCopy
import Derived.Laws.MakeOwn
import Derived.Laws.OwnMore
import Derived.Laws.Rows
import Derived.Laws.Slices
import Derived.Lib.AppendStr
import Derived.Lib.ConvBytes
import Derived.Lib.Hide
import Derived.Maps.AppendAt
import Derived.OrdersHeld
import Derived.Outline
import Derived.OwnWalk
import Derived.RowKit
import Derived.RowKit3
import Derived.Tactics
import Derived.WalkKit
import Derived.WideLaws
import Derived.Test.YtmpiljfpgfhljaaProg
import Derived.Test.YtmpiljfpgfhljaaWApart
import Derived.Test.YtmpiljfpgfhljaaWArr
import Derived.Test.YtmpiljfpgfhljaaWAt
import Derived.Test.YtmpiljfpgfhljaaWEqStruct
import Derived.Test.YtmpiljfpgfhljaaWFoot
import Derived.Test.YtmpiljfpgfhljaaWFootNe
import Derived.Test.YtmpiljfpgfhljaaWFour
import Derived.Test.YtmpiljfpgfhljaaWGuard
import Derived.Test.YtmpiljfpgfhljaaWInv
import Derived.Test.YtmpiljfpgfhljaaWInvWords
import Derived.Test.YtmpiljfpgfhljaaWKept
import Derived.Test.YtmpiljfpgfhljaaWLast
import Derived.Test.YtmpiljfpgfhljaaWMore
import Derived.Test.YtmpiljfpgfhljaaWN
import Derived.Test.YtmpiljfpgfhljaaWNEv
import Derived.Test.YtmpiljfpgfhljaaWQPut
import Derived.Test.YtmpiljfpgfhljaaWRepsOne
import Derived.Test.YtmpiljfpgfhljaaWShare
import Derived.Test.YtmpiljfpgfhljaaWTab
import Derived.Test.YtmpiljfpgfhljaaWWords
import Derived.Test.YtmpiljfpgfhljaaWZeros
import Derived.Test.YtmpiljfpgfhljaaXSlices

import Derived.StillTailTactics
import Derived.Deep.RegionWith
import Derived.Test.YtmpiljfpgfhljaaXDisk4
import Derived.Test.YtmpiljfpgfhljaaQDiskTornx1
namespace Go.Proofs.Ytmpiljfpgfhljaa.XDisk
open Go.RowKit Go.Proofs.YtmpiljfpgfhljaaW.PrintWords Go.Proofs.YtmpiljfpgfhljaaW.PrintLast Go.Proofs.YtmpiljfpgfhljaaW.PrintMore
set_option linter.unusedVariables false
set_option linter.unusedSimpArgs false
open QDiskTorn (prebendlaw05_sector.f prebendlaw05_sector.calls)
def s7 : List Int := List.replicate 32 7
def s9 : List Int := List.replicate 32 9
def s0 : List Int := List.replicate 32 0
def d0 : St := fresh 4
def d1 : St := (Write d0 3 s7).2
def d2 : St := (Write d1 1 s9).2
def d3 : St := { good := crashed 2 5 0 d2.good d2.cache d2.cache.length, cache := [], fuse := -1 }
theorem awake_facts : prebendlaw05_sector.f 40 7 = some s7 ∧ prebendlaw05_sector.f 40 9 = some s9 ∧ prebendlaw05_sector.f 40 0 = some s0 ∧ (Write d0 3 s7).1 = 0 ∧ (Write d1 1 s9).1 = 0 ∧ d2.cache.length = 2 ∧ nowAt d3 ((1 : Nat) : Int) = s9 ∧ nowAt d3 ((3 : Nat) : Int) = s0 ∧ d3.good.length = 4 :=
  ⟨by decide +kernel, by decide +kernel, by decide +kernel, by decide +kernel, by decide +kernel, by decide +kernel, by decide +kernel, by decide +kernel, by decide +kernel⟩
theorem awake_wf : (∀ x ∈ d2.cache, 0 ≤ x.1 ∧ x.1 < (d2.good.length : Nat)) ∧ d0.fuse ≤ 9223372036854775807 ∧ d1.fuse ≤ 9223372036854775807 ∧ (d0.cache.length + 1) * 40 ≤ 140737488355328 ∧ (d1.cache.length + 1) * 40 ≤ 140737488355328 :=
  ⟨by decide +kernel, by decide +kernel, by decide +kernel, by decide +kernel, by decide +kernel⟩
theorem row_src {base : Nat} {w : World} {ok : Nat → Prop} {A : Option Addr} {n c : Nat} {b : List Int} (h : Kd.R (Kd.int .u8) 5 w base ok (.slice A n c) b) (base' : Nat) : ∀ w', KeepD base' w w' → Kd.C (Kd.int .u8) w' A b.length b := fun w' k =>
  (Kd.R_reads' (R_keepD h (by intro q hq; simp [Kd.int, Kd.scalar] at hq; subst hq; unfold dT; decide) k)).2.2
theorem row_keep {base : Nat} {w w' : World} {ok : Nat → Prop} {v : Value} {b : List Int} (h : Kd.R (Kd.int .u8) 5 w base ok v b) {base' : Nat} (k : KeepD base' w w') : Kd.R (Kd.int .u8) 5 w' base ok v b :=
  R_keepD h (by intro q hq; simp [Kd.int, Kd.scalar] at hq; subst hq; unfold dT; decide) k
def awake5r.T8 : Bool × List (List Nat × List Nat) := (true, [([], []), ([0], [0]), ([1], [1]), ([2], [2]), ([3, 2], [2, 3]), ([2, 4], [2, 4]), ([5, 2], [5]), ([6], [6]), ([7, 6], [6, 7]), ([6, 8], [6, 8]), ([9, 6], [9]), ([10], [10]), ([11, 10], [10, 11]), ([10], [10]), ([13, 10], [10, 13]), ([12, 14, 10], [10, 12, 14]), ([10, 15], [10, 15]), ([16, 10], [16]), ([17], [17]), ([18, 17], [17, 18]), ([17, 19], [17, 19]), ([20, 17], [20]), ([21], [21]), ([22, 21], [21, 22]), ([21, 21], [21]), ([24, 21], [21, 24]), ([23, 25, 21], [21, 23, 25]), ([21, 26], [21, 26]), ([27, 24], [27]), ([28], [28]), ([29, 28], [28, 29]), ([28, 30], [28, 30]), ([31, 28], [31]), ([32], [32]), ([33, 32, 32], [32, 33]), ([34, 32], [32, 34]), ([32, 35], [32, 35]), ([36, 34, 0, 1, 2, 3, 4, 5, 6, 7, 8, 9, 10, 11, 12, 13, 14, 15, 16, 17, 18, 19, 20, 21, 22, 23, 24, 25, 26, 27, 28, 29, 30, 31, 32, 33, 34, 35, 36], [36])])
def awake5r.B8 : List Nat := [0, 1, 3, 7, 15, 31, 63, 127, 255, 511, 1023, 2047, 4095, 2047, 10239, 32767, 65535, 131071, 262143, 524287, 1048575, 2097151, 4194303, 8388607, 4194303, 20971519, 67108863, 134217727, 268435455, 536870911, 1073741823, 2147483647, 4294967295, 8589934591, 17179869183, 34359738367, 68719476735, 137438953471]
theorem awake5r.tab8 : rtab .any (opsOf Try.f18 8) = awake5r.T8 := by kernel_rfl
theorem awake5r.bits8 : waitsOk awake5r.T8.2 awake5r.B8 = true := by kernel_rfl
set_option maxRecDepth 100000 in
set_option maxHeartbeats 8000000 in
theorem awake_walk (w : World) : Calls Try.prog 18 #[] w fun e w' => e = .returned (.bool true) ∧ Below w.heap.size w w' := by
  obtain ⟨k7, k9, k0, e1, e2, e3, e4, e5, e6⟩ := awake_facts
  obtain ⟨wf, f0, f1, l0, l1⟩ := awake_wf
  have K7 := Aside0.mk k7
  have K9 := Aside0.mk k9
  have K0 := Aside0.mk k0
  have E1 := Aside0.mk e1
  have E2 := Aside0.mk e2
  have E3 := Aside0.mk e3
  have E4 := Aside0.mk e4
  have E5 := Aside0.mk e5
  have E6 := Aside0.mk e6
  have WF := Aside0.mk wf
  have F0 := Aside0.mk f0
  have F1 := Aside0.mk f1
  have L0 := Aside0.mk l0
  have L1 := Aside0.mk l1
  clear k7 k9 k0 e1 e2 e3 e4 e5 e6 wf f0 f1 l0 l1
  go_enter Try.func18, Try.ntmps18
  go_wp2_with fail
  refine (new_in 4 4 (by decide) _).mono ?_
  rintro e w1 ⟨g, rfl, hD1, hB1⟩
  have HD1 := Aside0.mk hD1
  have HB1 := Aside0.mk hB1
  clear hD1 hB1
  go_wp2_with fail
  refine (prebendlaw05_sector.calls 40 7 s7 _ K7.out).mono ?_
  rintro e w2 ⟨v2, rfl, hR2, hB2⟩
  have HD2 := Aside0.mk (disk_below HD1.out hB2)
  have HB2 := Aside0.mk (below_step HB1.out hB2)
  have HR2 := Aside0.mk hR2
  clear HD1 HB1 hB2 hR2
  go_wp2_with fail
  refine (prebendlaw05_sector.calls 40 9 s9 _ K9.out).mono ?_
  rintro e w3 ⟨v3, rfl, hR3, hB3⟩
  have HD3 := Aside0.mk (disk_below HD2.out hB3)
  have HB3 := Aside0.mk (below_step HB2.out hB3)
  obtain ⟨A2, c2, hv2⟩ := Kd.R_slice HR2.out
  subst hv2
  have HR3 := Aside0.mk (Kd.R_below HR2.out hB3)
  obtain ⟨A3, c3, hv3⟩ := Kd.R_slice hR3
  subst hv3
  have HS3 := Aside0.mk hR3
  clear HD2 HB2 HR2 hB3 hR3
  go_wp2_with fail
  refine (write_walk w.heap.size g d0 3 A2 c2 s7 _ HD3.out F0.out L0.out HB3.out.size (row_src HR3.out _)).mono ?_
  rintro e w4 ⟨rfl, hD4, hK4⟩
  have HD4 := Aside0.mk hD4
  have HB4 := Aside0.mk (below_keep HB3.out HB3.out.size hK4)
  have HS4 := Aside0.mk (row_keep HS3.out hK4)
  clear HD3 HB3 HR3 HS3 hD4 hK4
  rw [E1.out]
  go_wp2_with fail
  refine (write_walk w.heap.size g d1 1 A3 c3 s9 _ HD4.out F1.out L1.out HB4.out.size (row_src HS4.out _)).mono ?_
  rintro e w5 ⟨rfl, hD5, hK5⟩
  have HD5 := Aside0.mk hD5
  have HB5 := Aside0.mk (below_keep HB4.out HB4.out.size hK5)
  have HS5 := Aside0.mk (row_keep HS4.out hK5)
  clear HD4 HB4 HS4 hD5 hK5
  rw [E2.out]
  go_wp2_with fail
  refine (cached_walk w.heap.size g d2 _ HD5.out).mono ?_
  rintro e w6 ⟨rfl, rfl⟩
  rw [E3.out]
  go_wp2_with fail
  refine (crash_walk w.heap.size g d2 2 5 0 _ HD5.out WF.out).mono ?_
  rintro e w7 ⟨rfl, hD7, hK7⟩
  have HD7 := Aside0.mk (show DiskAt w.heap.size w7 g d3 from hD7)
  have HB7 := Aside0.mk (below_keep HB5.out HB5.out.size hK7)
  have HS7 := Aside0.mk (row_keep HS5.out hK7)
  clear HD5 HB5 HS5 hD7 hK7
  go_wp2_with fail
  refine (read_walk w.heap.size g d3 1 _ HD7.out (by rw [E6.out]; decide)).mono ?_
  rintro e w8 ⟨v8, rfl, hR8, hB8⟩
  have HD8 := Aside0.mk (disk_below HD7.out hB8)
  have HB8 := Aside0.mk (below_step HB7.out hB8)
  have HS8 := Aside0.mk (Kd.R_below HS7.out hB8)
  rw [E4.out] at hR8
  have HT8 := Aside0.mk hR8
  clear HD7 HB7 HS7 hB8 hR8
  go_wp2_with fail
  refine (read_walk w.heap.size g d3 3 _ HD8.out (by rw [E6.out]; decide)).mono ?_
  rintro e w9 ⟨v9, rfl, hR9, hB9⟩
  have HD9 := Aside0.mk (disk_below HD8.out hB9)
  have HB9 := Aside0.mk (below_step HB8.out hB9)
  have HS9 := Aside0.mk (Kd.R_below HS8.out hB9)
  have HT9 := Aside0.mk (Kd.R_below HT8.out hB9)
  rw [E5.out] at hR9
  have HU9 := Aside0.mk hR9
  clear HD8 HB8 HS8 HT8 hB9 hR9
  go_wp2_with fail
  obtain ⟨A8, c8, hv8⟩ := Kd.R_slice HT9.out
  subst hv8
  obtain ⟨A9, c9, hv9⟩ := Kd.R_slice HU9.out
  subst hv9
  have hT := HT9.out
  have hU := HU9.out
  have hS := HS9.out
  have FT := Aside0.mk (show Kd.C (Kd.int .u8) w9.drew A8 s9.length s9 from Kd.C_drewN (Kd.R_reads' hT).2.2 1)
  have FS := Aside0.mk (show Kd.C (Kd.int .u8) w9.drew A3 s9.length s9 from Kd.C_drewN (Kd.R_reads' hS).2.2 1)
  have FU := Aside0.mk (show Kd.C (Kd.int .u8) w9.drew A9 s0.length s0 from Kd.C_drewN (Kd.R_reads' hU).2.2 1)
  have FD := Aside0.mk (disk_drew HD9.out)
  have FB := Aside0.mk (below_drew HB9.out)
  clear HD9 HB9 HS9 HT9 HU9 hT hU hS
  refine start_ (n := 38) (S := fun w' => True) (ds := []) #[false, false, false, false, false, false, false, false, false, false, false, false, false, false, false, false, false, false, false, false, false, false, false, false, false, false, false, false, false, false, false, false, false, false, false, false, false, false] (by kernel_rfl) rfl rfl trivial (fun hHeld => ?_)
  refine with_tabW awake5r.tab8 awake5r.bits8 (fun HT_ HW_ => ?_)
  refine inv_at [0, 1, 2, 3, 4, 5, 6, 7, 8, 9, 10, 11, 12, 13, 14, 15, 16, 17, 18, 19, 20, 21, 22, 23, 24, 25, 26, 27, 28, 29, 30, 31, 32, 33, 34, 35, 36, 37] (fun a0_ b a w' => ∃ (vs : Value), a = putSel a0_ b [(0, 34, .int .i64 0), (1, 35, .bool true), (2, 36, .bool true), (3, 37, .int .i64 0), (4, 38, .bool true), (5, 39, .bool true), (6, 40, .bool true), (7, 41, .int .i64 2), (8, 42, .bool true), (9, 43, .bool true), (10, 44, .bool true), (11, 45, .slice A8 s9.length c8), (12, 46, .string (strOfNums s9)), (13, 47, .slice A3 s9.length c3), (14, 48, .string (strOfNums s9)), (15, 49, .bool true), (16, 50, .bool true), (17, 51, .bool true), (18, 52, .int .i64 0), (19, 53, .bool true), (20, 54, .bool true), (21, 55, .bool true), (22, 56, .slice A9 s0.length c9), (23, 57, .string (strOfNums s0)), (24, 58, vs), (25, 59, .string (strOfNums s0)), (26, 60, .bool true), (27, 61, .bool true), (28, 62, .bool true), (29, 63, .int .i64 0), (30, 64, .bool true), (31, 65, .bool true), (32, 66, .bool true), (33, 67, .pointer (some ⟨g, 0, none⟩)), (34, 68, .int .i64 4), (35, 69, .bool true), (36, 70, .bool true), (37, 0, .bool true)] ∧ (Kd.C (Kd.int .u8) w' A8 s9.length s9) ∧ (Kd.C (Kd.int .u8) w' A3 s9.length s9) ∧ (Kd.C (Kd.int .u8) w' A9 s0.length s0) ∧ (DiskAt w.heap.size w' g d3) ∧ (Below w.heap.size w w') ∧ (b 24 = true → ∃ b_ : Nat, Kd.R (Kd.int .u8) 5 w' b_ (fun _ => True) vs s0)) HT_.out HW_.out (by kernel_rfl) (by kernel_rfl) ?_ ?_ ?_
  · exact ⟨.bool false, by simp only [putSel, Bool.false_eq_true, if_false], FT.out, FS.out, FU.out, FD.out, FB.out, fun h_ => absurd h_ (by decide)⟩
  · skip
    clear FB FD FS FT FU
    refine steps_cons ?_ ?_
    · rintro b a w' ⟨vs, ha, Q_FT, Q_FS, Q_FU, Q_FD, Q_FB, Q_FV⟩ hb_ hon hoff
      refine ⟨_, rfl, fun K hK => ?_⟩
      have e4 : a.tmps[4]? = some (.int .i64 0) := by rw [ha]; exact (putSel_off rfl).trans rfl
      replace ha := Aside0.mk ha
      have FT := Aside0.mk Q_FT
      have FS := Aside0.mk Q_FS
      have FU := Aside0.mk Q_FU
      have FD := Aside0.mk Q_FD
      have FB := Aside0.mk Q_FB
      refine value_ (w1 := w') (v := .int .i64 0) (by rfl) rfl ?_ ?_
      · go_simp
        (try simp only [i64_w])
        try rfl
      refine hK.out _ _ ⟨vs, (by rw [ha.out]; exact putSel_upk 0 hb_ rfl rfl rfl), Q_FT, Q_FS, Q_FU, Q_FD, Q_FB, fun h0_ => absurd ((hoff 24 (by kernel_rfl)).symm.trans h0_) (by decide)⟩
    refine steps_cons ?_ ?_
    · rintro b a w' ⟨vs, ha, Q_FT, Q_FS, Q_FU, Q_FD, Q_FB, Q_FV⟩ hb_ hon hoff
      refine ⟨_, rfl, fun K hK => ?_⟩
      have e34 : a.tmps[34]? = some (.int .i64 0) := by rw [ha]; exact putSel_on (e := (0, 34, .int .i64 0)) 0 rfl rfl (hon 0 (by kernel_rfl)) rfl
      replace ha := Aside0.mk ha
      have FT := Aside0.mk Q_FT
      have FS := Aside0.mk Q_FS
      have FU := Aside0.mk Q_FU
      have FD := Aside0.mk Q_FD
      have FB := Aside0.mk Q_FB
      refine value_ (w1 := w') (v := .bool true) (by rfl) rfl ?_ ?_
      · go_simp
        (try simp only [i64_w])
        try rfl
      refine hK.out _ _ ⟨vs, (by rw [ha.out]; exact putSel_upk 1 hb_ rfl rfl rfl), Q_FT, Q_FS, Q_FU, Q_FD, Q_FB, fun h0_ => absurd ((hoff 24 (by kernel_rfl)).symm.trans h0_) (by decide)⟩
    refine steps_cons ?_ ?_
    · rintro b a w' ⟨vs, ha, Q_FT, Q_FS, Q_FU, Q_FD, Q_FB, Q_FV⟩ hb_ hon hoff
      refine ⟨_, rfl, fun K hK => ?_⟩
      have e35 : a.tmps[35]? = some (.bool true) := by rw [ha]; exact putSel_on (e := (1, 35, .bool true)) 1 rfl rfl (hon 1 (by kernel_rfl)) rfl
      replace ha := Aside0.mk ha
      have FT := Aside0.mk Q_FT
      have FS := Aside0.mk Q_FS
      have FU := Aside0.mk Q_FU
      have FD := Aside0.mk Q_FD
      have FB := Aside0.mk Q_FB
      refine value_ (w1 := w') (v := .bool true) (by rfl) rfl ?_ ?_
      · go_simp
        (try simp only [i64_w])
        try rfl
      refine hK.out _ _ ⟨vs, (by rw [ha.out]; exact putSel_upk 2 hb_ rfl rfl rfl), Q_FT, Q_FS, Q_FU, Q_FD, Q_FB, fun h0_ => absurd ((hoff 24 (by kernel_rfl)).symm.trans h0_) (by decide)⟩
    refine steps_cons ?_ ?_
    · rintro b a w' ⟨vs, ha, Q_FT, Q_FS, Q_FU, Q_FD, Q_FB, Q_FV⟩ hb_ hon hoff
      refine ⟨_, rfl, fun K hK => ?_⟩
      have e5 : a.tmps[5]? = some (.int .i64 0) := by rw [ha]; exact (putSel_off rfl).trans rfl
      have e36 : a.tmps[36]? = some (.bool true) := by rw [ha]; exact putSel_on (e := (2, 36, .bool true)) 2 rfl rfl (hon 2 (by kernel_rfl)) rfl
      replace ha := Aside0.mk ha
      have FT := Aside0.mk Q_FT
      have FS := Aside0.mk Q_FS
      have FU := Aside0.mk Q_FU
      have FD := Aside0.mk Q_FD
      have FB := Aside0.mk Q_FB
      refine value_ (w1 := w') (v := .int .i64 0) (wanted_on rfl rfl rfl (e36.trans (by first | rfl | (simp [*]; done)))) rfl ?_ ?_
      · go_simp
        (try simp only [i64_w])
        try rfl
      refine hK.out _ _ ⟨vs, (by rw [ha.out]; exact putSel_upk 3 hb_ rfl rfl rfl), Q_FT, Q_FS, Q_FU, Q_FD, Q_FB, fun h0_ => absurd ((hoff 24 (by kernel_rfl)).symm.trans h0_) (by decide)⟩
    refine steps_cons ?_ ?_
    · rintro b a w' ⟨vs, ha, Q_FT, Q_FS, Q_FU, Q_FD, Q_FB, Q_FV⟩ hb_ hon hoff
      refine ⟨_, rfl, fun K hK => ?_⟩
      have e37 : a.tmps[37]? = some (.int .i64 0) := by rw [ha]; exact putSel_on (e := (3, 37, .int .i64 0)) 3 rfl rfl (hon 3 (by kernel_rfl)) rfl
      have e36 : a.tmps[36]? = some (.bool true) := by rw [ha]; exact putSel_on (e := (2, 36, .bool true)) 2 rfl rfl (hon 2 (by kernel_rfl)) rfl
      replace ha := Aside0.mk ha
      have FT := Aside0.mk Q_FT
      have FS := Aside0.mk Q_FS
      have FU := Aside0.mk Q_FU
      have FD := Aside0.mk Q_FD
      have FB := Aside0.mk Q_FB
      refine value_ (w1 := w') (v := .bool true) (wanted_on rfl rfl rfl (e36.trans (by first | rfl | (simp [*]; done)))) rfl ?_ ?_
      · go_simp
        (try simp only [i64_w])
        try rfl
      refine hK.out _ _ ⟨vs, (by rw [ha.out]; exact putSel_upk 4 hb_ rfl rfl rfl), Q_FT, Q_FS, Q_FU, Q_FD, Q_FB, fun h0_ => absurd ((hoff 24 (by kernel_rfl)).symm.trans h0_) (by decide)⟩
    refine steps_cons ?_ ?_
    · rintro b a w' ⟨vs, ha, Q_FT, Q_FS, Q_FU, Q_FD, Q_FB, Q_FV⟩ hb_ hon hoff
      refine ⟨_, rfl, fun K hK => ?_⟩
      have e36 : a.tmps[36]? = some (.bool true) := by rw [ha]; exact putSel_on (e := (2, 36, .bool true)) 2 rfl rfl (hon 2 (by kernel_rfl)) rfl
      have e38 : a.tmps[38]? = some (.bool true) := by rw [ha]; exact putSel_on (e := (4, 38, .bool true)) 4 rfl rfl (hon 4 (by kernel_rfl)) rfl
      replace ha := Aside0.mk ha
      have FT := Aside0.mk Q_FT
      have FS := Aside0.mk Q_FS
      have FU := Aside0.mk Q_FU
      have FD := Aside0.mk Q_FD
      have FB := Aside0.mk Q_FB
      refine value_ (w1 := w') (v := .bool true) (by rfl) rfl ?_ ?_
      · go_simp
        (try simp only [i64_w])
        try rfl
      refine hK.out _ _ ⟨vs, (by rw [ha.out]; exact putSel_upk 5 hb_ rfl rfl rfl), Q_FT, Q_FS, Q_FU, Q_FD, Q_FB, fun h0_ => absurd ((hoff 24 (by kernel_rfl)).symm.trans h0_) (by decide)⟩
    refine steps_cons ?_ ?_
    · rintro b a w' ⟨vs, ha, Q_FT, Q_FS, Q_FU, Q_FD, Q_FB, Q_FV⟩ hb_ hon hoff
      refine ⟨_, rfl, fun K hK => ?_⟩
      have e39 : a.tmps[39]? = some (.bool true) := by rw [ha]; exact putSel_on (e := (5, 39, .bool true)) 5 rfl rfl (hon 5 (by kernel_rfl)) rfl
      replace ha := Aside0.mk ha
      have FT := Aside0.mk Q_FT
      have FS := Aside0.mk Q_FS
      have FU := Aside0.mk Q_FU
      have FD := Aside0.mk Q_FD
      have FB := Aside0.mk Q_FB
      refine value_ (w1 := w') (v := .bool true) (by rfl) rfl ?_ ?_
      · go_simp
        (try simp only [i64_w])
        try rfl
      refine hK.out _ _ ⟨vs, (by rw [ha.out]; exact putSel_upk 6 hb_ rfl rfl rfl), Q_FT, Q_FS, Q_FU, Q_FD, Q_FB, fun h0_ => absurd ((hoff 24 (by kernel_rfl)).symm.trans h0_) (by decide)⟩
    refine steps_cons ?_ ?_
    · rintro b a w' ⟨vs, ha, Q_FT, Q_FS, Q_FU, Q_FD, Q_FB, Q_FV⟩ hb_ hon hoff
      refine ⟨_, rfl, fun K hK => ?_⟩
      have e6 : a.tmps[6]? = some (.int .i64 2) := by rw [ha]; exact (putSel_off rfl).trans rfl
      have e40 : a.tmps[40]? = some (.bool true) := by rw [ha]; exact putSel_on (e := (6, 40, .bool true)) 6 rfl rfl (hon 6 (by kernel_rfl)) rfl
      replace ha := Aside0.mk ha
      have FT := Aside0.mk Q_FT
      have FS := Aside0.mk Q_FS
      have FU := Aside0.mk Q_FU
      have FD := Aside0.mk Q_FD
      have FB := Aside0.mk Q_FB
      refine value_ (w1 := w') (v := .int .i64 2) (wanted_on rfl rfl rfl (e40.trans (by first | rfl | (simp [*]; done)))) rfl ?_ ?_
      · go_simp
        (try simp only [i64_w])
        try rfl
      refine hK.out _ _ ⟨vs, (by rw [ha.out]; exact putSel_upk 7 hb_ rfl rfl rfl), Q_FT, Q_FS, Q_FU, Q_FD, Q_FB, fun h0_ => absurd ((hoff 24 (by kernel_rfl)).symm.trans h0_) (by decide)⟩
    refine steps_cons ?_ ?_
    · rintro b a w' ⟨vs, ha, Q_FT, Q_FS, Q_FU, Q_FD, Q_FB, Q_FV⟩ hb_ hon hoff
      refine ⟨_, rfl, fun K hK => ?_⟩
      have e41 : a.tmps[41]? = some (.int .i64 2) := by rw [ha]; exact putSel_on (e := (7, 41, .int .i64 2)) 7 rfl rfl (hon 7 (by kernel_rfl)) rfl
      have e40 : a.tmps[40]? = some (.bool true) := by rw [ha]; exact putSel_on (e := (6, 40, .bool true)) 6 rfl rfl (hon 6 (by kernel_rfl)) rfl
      replace ha := Aside0.mk ha
      have FT := Aside0.mk Q_FT
      have FS := Aside0.mk Q_FS
      have FU := Aside0.mk Q_FU
      have FD := Aside0.mk Q_FD
      have FB := Aside0.mk Q_FB
      refine value_ (w1 := w') (v := .bool true) (wanted_on rfl rfl rfl (e40.trans (by first | rfl | (simp [*]; done)))) rfl ?_ ?_
      · go_simp
        (try simp only [i64_w])
        try rfl
      refine hK.out _ _ ⟨vs, (by rw [ha.out]; exact putSel_upk 8 hb_ rfl rfl rfl), Q_FT, Q_FS, Q_FU, Q_FD, Q_FB, fun h0_ => absurd ((hoff 24 (by kernel_rfl)).symm.trans h0_) (by decide)⟩
    refine steps_cons ?_ ?_
    · rintro b a w' ⟨vs, ha, Q_FT, Q_FS, Q_FU, Q_FD, Q_FB, Q_FV⟩ hb_ hon hoff
      refine ⟨_, rfl, fun K hK => ?_⟩
      have e40 : a.tmps[40]? = some (.bool true) := by rw [ha]; exact putSel_on (e := (6, 40, .bool true)) 6 rfl rfl (hon 6 (by kernel_rfl)) rfl
      have e42 : a.tmps[42]? = some (.bool true) := by rw [ha]; exact putSel_on (e := (8, 42, .bool true)) 8 rfl rfl (hon 8 (by kernel_rfl)) rfl
      replace ha := Aside0.mk ha
      have FT := Aside0.mk Q_FT
      have FS := Aside0.mk Q_FS
      have FU := Aside0.mk Q_FU
      have FD := Aside0.mk Q_FD
      have FB := Aside0.mk Q_FB
      refine value_ (w1 := w') (v := .bool true) (by rfl) rfl ?_ ?_
      · go_simp
        (try simp only [i64_w])
        try rfl
      refine hK.out _ _ ⟨vs, (by rw [ha.out]; exact putSel_upk 9 hb_ rfl rfl rfl), Q_FT, Q_FS, Q_FU, Q_FD, Q_FB, fun h0_ => absurd ((hoff 24 (by kernel_rfl)).symm.trans h0_) (by decide)⟩
    refine steps_cons ?_ ?_
    · rintro b a w' ⟨vs, ha, Q_FT, Q_FS, Q_FU, Q_FD, Q_FB, Q_FV⟩ hb_ hon hoff
      refine ⟨_, rfl, fun K hK => ?_⟩
      have e43 : a.tmps[43]? = some (.bool true) := by rw [ha]; exact putSel_on (e := (9, 43, .bool true)) 9 rfl rfl (hon 9 (by kernel_rfl)) rfl
      replace ha := Aside0.mk ha
      have FT := Aside0.mk Q_FT
      have FS := Aside0.mk Q_FS
      have FU := Aside0.mk Q_FU
      have FD := Aside0.mk Q_FD
      have FB := Aside0.mk Q_FB
      refine value_ (w1 := w') (v := .bool true) (by rfl) rfl ?_ ?_
      · go_simp
        (try simp only [i64_w])
        try rfl
      refine hK.out _ _ ⟨vs, (by rw [ha.out]; exact putSel_upk 10 hb_ rfl rfl rfl), Q_FT, Q_FS, Q_FU, Q_FD, Q_FB, fun h0_ => absurd ((hoff 24 (by kernel_rfl)).symm.trans h0_) (by decide)⟩
    refine steps_cons ?_ ?_
    · rintro b a w' ⟨vs, ha, Q_FT, Q_FS, Q_FU, Q_FD, Q_FB, Q_FV⟩ hb_ hon hoff
      refine ⟨_, rfl, fun K hK => ?_⟩
      have e7 : a.tmps[7]? = some (.slice A8 s9.length c8) := by rw [ha]; exact (putSel_off rfl).trans rfl
      have e44 : a.tmps[44]? = some (.bool true) := by rw [ha]; exact putSel_on (e := (10, 44, .bool true)) 10 rfl rfl (hon 10 (by kernel_rfl)) rfl
      replace ha := Aside0.mk ha
      have FT := Aside0.mk Q_FT
      have FS := Aside0.mk Q_FS
      have FU := Aside0.mk Q_FU
      have FD := Aside0.mk Q_FD
      have FB := Aside0.mk Q_FB
      refine value_ (w1 := w') (v := .slice A8 s9.length c8) (wanted_on rfl rfl rfl (e44.trans (by first | rfl | (simp [*]; done)))) rfl ?_ ?_
      · go_simp
        (try simp only [i64_w])
        try rfl
      refine hK.out _ _ ⟨vs, (by rw [ha.out]; exact putSel_upk 11 hb_ rfl rfl rfl), Q_FT, Q_FS, Q_FU, Q_FD, Q_FB, fun h0_ => absurd ((hoff 24 (by kernel_rfl)).symm.trans h0_) (by decide)⟩
    refine steps_cons ?_ ?_
    · rintro b a w' ⟨vs, ha, Q_FT, Q_FS, Q_FU, Q_FD, Q_FB, Q_FV⟩ hb_ hon hoff
      refine ⟨_, rfl, fun K hK => ?_⟩
      have e45 : a.tmps[45]? = some (.slice A8 s9.length c8) := by rw [ha]; exact putSel_on (e := (11, 45, .slice A8 s9.length c8)) 11 rfl rfl (hon 11 (by kernel_rfl)) rfl
      have e44 : a.tmps[44]? = some (.bool true) := by rw [ha]; exact putSel_on (e := (10, 44, .bool true)) 10 rfl rfl (hon 10 (by kernel_rfl)) rfl
      replace ha := Aside0.mk ha
      have FT := Aside0.mk Q_FT
      have FS := Aside0.mk Q_FS
      have FU := Aside0.mk Q_FU
      have FD := Aside0.mk Q_FD
      have FB := Aside0.mk Q_FB
      have hcv := Kd.C_string (P := Try.prog) (A := A8) (c := c8) Try.underlying29 Try.underlying5 Try.underlying9 FT.out
      refine value_ (w1 := w') (v := .string (strOfNums s9)) (wanted_on rfl rfl rfl (e44.trans (by first | rfl | (simp [*]; done)))) rfl ?_ ?_
      · go_simp
        (try simp only [i64_w])
        try rfl
      refine hK.out _ _ ⟨vs, (by rw [ha.out]; exact putSel_upk 12 hb_ rfl rfl rfl), Q_FT, Q_FS, Q_FU, Q_FD, Q_FB, fun h0_ => absurd ((hoff 24 (by kernel_rfl)).symm.trans h0_) (by decide)⟩
    refine steps_cons ?_ ?_
    · rintro b a w' ⟨vs, ha, Q_FT, Q_FS, Q_FU, Q_FD, Q_FB, Q_FV⟩ hb_ hon hoff
      refine ⟨_, rfl, fun K hK => ?_⟩
      have e3 : a.tmps[3]? = some (.slice A3 s9.length c3) := by rw [ha]; exact (putSel_off rfl).trans rfl
      have e44 : a.tmps[44]? = some (.bool true) := by rw [ha]; exact putSel_on (e := (10, 44, .bool true)) 10 rfl rfl (hon 10 (by kernel_rfl)) rfl
      replace ha := Aside0.mk ha
      have FT := Aside0.mk Q_FT
      have FS := Aside0.mk Q_FS
      have FU := Aside0.mk Q_FU
      have FD := Aside0.mk Q_FD
      have FB := Aside0.mk Q_FB
      refine value_ (w1 := w') (v := .slice A3 s9.length c3) (wanted_on rfl rfl rfl (e44.trans (by first | rfl | (simp [*]; done)))) rfl ?_ ?_
      · go_simp
        (try simp only [i64_w])
        try rfl
      refine hK.out _ _ ⟨vs, (by rw [ha.out]; exact putSel_upk 13 hb_ rfl rfl rfl), Q_FT, Q_FS, Q_FU, Q_FD, Q_FB, fun h0_ => absurd ((hoff 24 (by kernel_rfl)).symm.trans h0_) (by decide)⟩
    refine steps_cons ?_ ?_
    · rintro b a w' ⟨vs, ha, Q_FT, Q_FS, Q_FU, Q_FD, Q_FB, Q_FV⟩ hb_ hon hoff
      refine ⟨_, rfl, fun K hK => ?_⟩
      have e47 : a.tmps[47]? = some (.slice A3 s9.length c3) := by rw [ha]; exact putSel_on (e := (13, 47, .slice A3 s9.length c3)) 13 rfl rfl (hon 13 (by kernel_rfl)) rfl
      have e44 : a.tmps[44]? = some (.bool true) := by rw [ha]; exact putSel_on (e := (10, 44, .bool true)) 10 rfl rfl (hon 10 (by kernel_rfl)) rfl
      replace ha := Aside0.mk ha
      have FT := Aside0.mk Q_FT
      have FS := Aside0.mk Q_FS
      have FU := Aside0.mk Q_FU
      have FD := Aside0.mk Q_FD
      have FB := Aside0.mk Q_FB
      have hcv := Kd.C_string (P := Try.prog) (A := A3) (c := c3) Try.underlying29 Try.underlying5 Try.underlying9 FS.out
      refine value_ (w1 := w') (v := .string (strOfNums s9)) (wanted_on rfl rfl rfl (e44.trans (by first | rfl | (simp [*]; done)))) rfl ?_ ?_
      · go_simp
        (try simp only [i64_w])
        try rfl
      refine hK.out _ _ ⟨vs, (by rw [ha.out]; exact putSel_upk 14 hb_ rfl rfl rfl), Q_FT, Q_FS, Q_FU, Q_FD, Q_FB, fun h0_ => absurd ((hoff 24 (by kernel_rfl)).symm.trans h0_) (by decide)⟩
    refine steps_cons ?_ ?_
    · rintro b a w' ⟨vs, ha, Q_FT, Q_FS, Q_FU, Q_FD, Q_FB, Q_FV⟩ hb_ hon hoff
      refine ⟨_, rfl, fun K hK => ?_⟩
      have e46 : a.tmps[46]? = some (.string (strOfNums s9)) := by rw [ha]; exact putSel_on (e := (12, 46, .string (strOfNums s9))) 12 rfl rfl (hon 12 (by kernel_rfl)) rfl
      have e48 : a.tmps[48]? = some (.string (strOfNums s9)) := by rw [ha]; exact putSel_on (e := (14, 48, .string (strOfNums s9))) 14 rfl rfl (hon 14 (by kernel_rfl)) rfl
      have e44 : a.tmps[44]? = some (.bool true) := by rw [ha]; exact putSel_on (e := (10, 44, .bool true)) 10 rfl rfl (hon 10 (by kernel_rfl)) rfl
      replace ha := Aside0.mk ha
      have FT := Aside0.mk Q_FT
      have FS := Aside0.mk Q_FS
      have FU := Aside0.mk Q_FU
      have FD := Aside0.mk Q_FD
      have FB := Aside0.mk Q_FB
      refine value_ (w1 := w') (v := .bool true) (wanted_on rfl rfl rfl (e44.trans (by first | rfl | (simp [*]; done)))) rfl ?_ ?_
      · go_simp
        (try simp only [i64_w])
        try rfl
      refine hK.out _ _ ⟨vs, (by rw [ha.out]; exact putSel_upk 15 hb_ rfl rfl rfl), Q_FT, Q_FS, Q_FU, Q_FD, Q_FB, fun h0_ => absurd ((hoff 24 (by kernel_rfl)).symm.trans h0_) (by decide)⟩
    refine steps_cons ?_ ?_
    · rintro b a w' ⟨vs, ha, Q_FT, Q_FS, Q_FU, Q_FD, Q_FB, Q_FV⟩ hb_ hon hoff
      refine ⟨_, rfl, fun K hK => ?_⟩
      have e44 : a.tmps[44]? = some (.bool true) := by rw [ha]; exact putSel_on (e := (10, 44, .bool true)) 10 rfl rfl (hon 10 (by kernel_rfl)) rfl
      have e49 : a.tmps[49]? = some (.bool true) := by rw [ha]; exact putSel_on (e := (15, 49, .bool true)) 15 rfl rfl (hon 15 (by kernel_rfl)) rfl
      replace ha := Aside0.mk ha
      have FT := Aside0.mk Q_FT
      have FS := Aside0.mk Q_FS
      have FU := Aside0.mk Q_FU
      have FD := Aside0.mk Q_FD
      have FB := Aside0.mk Q_FB
      refine value_ (w1 := w') (v := .bool true) (by rfl) rfl ?_ ?_
      · go_simp
        (try simp only [i64_w])
        try rfl
      refine hK.out _ _ ⟨vs, (by rw [ha.out]; exact putSel_upk 16 hb_ rfl rfl rfl), Q_FT, Q_FS, Q_FU, Q_FD, Q_FB, fun h0_ => absurd ((hoff 24 (by kernel_rfl)).symm.trans h0_) (by decide)⟩
    refine steps_cons ?_ ?_
    · rintro b a w' ⟨vs, ha, Q_FT, Q_FS, Q_FU, Q_FD, Q_FB, Q_FV⟩ hb_ hon hoff
      refine ⟨_, rfl, fun K hK => ?_⟩
      have e50 : a.tmps[50]? = some (.bool true) := by rw [ha]; exact putSel_on (e := (16, 50, .bool true)) 16 rfl rfl (hon 16 (by kernel_rfl)) rfl
      replace ha := Aside0.mk ha
      have FT := Aside0.mk Q_FT
      have FS := Aside0.mk Q_FS
      have FU := Aside0.mk Q_FU
      have FD := Aside0.mk Q_FD
      have FB := Aside0.mk Q_FB
      refine value_ (w1 := w') (v := .bool true) (by rfl) rfl ?_ ?_
      · go_simp
        (try simp only [i64_w])
        try rfl
      refine hK.out _ _ ⟨vs, (by rw [ha.out]; exact putSel_upk 17 hb_ rfl rfl rfl), Q_FT, Q_FS, Q_FU, Q_FD, Q_FB, fun h0_ => absurd ((hoff 24 (by kernel_rfl)).symm.trans h0_) (by decide)⟩
    refine steps_cons ?_ ?_
    · rintro b a w' ⟨vs, ha, Q_FT, Q_FS, Q_FU, Q_FD, Q_FB, Q_FV⟩ hb_ hon hoff
      refine ⟨_, rfl, fun K hK => ?_⟩
      have e8 : a.tmps[8]? = some (.int .i64 0) := by rw [ha]; exact (putSel_off rfl).trans rfl
      have e51 : a.tmps[51]? = some (.bool true) := by rw [ha]; exact putSel_on (e := (17, 51, .bool true)) 17 rfl rfl (hon 17 (by kernel_rfl)) rfl
      replace ha := Aside0.mk ha
      have FT := Aside0.mk Q_FT
      have FS := Aside0.mk Q_FS
      have FU := Aside0.mk Q_FU
      have FD := Aside0.mk Q_FD
      have FB := Aside0.mk Q_FB
      refine value_ (w1 := w') (v := .int .i64 0) (wanted_on rfl rfl rfl (e51.trans (by first | rfl | (simp [*]; done)))) rfl ?_ ?_
      · go_simp
        (try simp only [i64_w])
        try rfl
      refine hK.out _ _ ⟨vs, (by rw [ha.out]; exact putSel_upk 18 hb_ rfl rfl rfl), Q_FT, Q_FS, Q_FU, Q_FD, Q_FB, fun h0_ => absurd ((hoff 24 (by kernel_rfl)).symm.trans h0_) (by decide)⟩
    refine steps_cons ?_ ?_
    · rintro b a w' ⟨vs, ha, Q_FT, Q_FS, Q_FU, Q_FD, Q_FB, Q_FV⟩ hb_ hon hoff
      refine ⟨_, rfl, fun K hK => ?_⟩
      have e52 : a.tmps[52]? = some (.int .i64 0) := by rw [ha]; exact putSel_on (e := (18, 52, .int .i64 0)) 18 rfl rfl (hon 18 (by kernel_rfl)) rfl
      have e51 : a.tmps[51]? = some (.bool true) := by rw [ha]; exact putSel_on (e := (17, 51, .bool true)) 17 rfl rfl (hon 17 (by kernel_rfl)) rfl
      replace ha := Aside0.mk ha
      have FT := Aside0.mk Q_FT
      have FS := Aside0.mk Q_FS
      have FU := Aside0.mk Q_FU
      have FD := Aside0.mk Q_FD
      have FB := Aside0.mk Q_FB
      refine value_ (w1 := w') (v := .bool true) (wanted_on rfl rfl rfl (e51.trans (by first | rfl | (simp [*]; done)))) rfl ?_ ?_
      · go_simp
        (try simp only [i64_w])
        try rfl
      refine hK.out _ _ ⟨vs, (by rw [ha.out]; exact putSel_upk 19 hb_ rfl rfl rfl), Q_FT, Q_FS, Q_FU, Q_FD, Q_FB, fun h0_ => absurd ((hoff 24 (by kernel_rfl)).symm.trans h0_) (by decide)⟩
    refine steps_cons ?_ ?_
    · rintro b a w' ⟨vs, ha, Q_FT, Q_FS, Q_FU, Q_FD, Q_FB, Q_FV⟩ hb_ hon hoff
      refine ⟨_, rfl, fun K hK => ?_⟩
      have e51 : a.tmps[51]? = some (.bool true) := by rw [ha]; exact putSel_on (e := (17, 51, .bool true)) 17 rfl rfl (hon 17 (by kernel_rfl)) rfl
      have e53 : a.tmps[53]? = some (.bool true) := by rw [ha]; exact putSel_on (e := (19, 53, .bool true)) 19 rfl rfl (hon 19 (by kernel_rfl)) rfl
      replace ha := Aside0.mk ha
      have FT := Aside0.mk Q_FT
      have FS := Aside0.mk Q_FS
      have FU := Aside0.mk Q_FU
      have FD := Aside0.mk Q_FD
      have FB := Aside0.mk Q_FB
      refine value_ (w1 := w') (v := .bool true) (by rfl) rfl ?_ ?_
      · go_simp
        (try simp only [i64_w])
        try rfl
      refine hK.out _ _ ⟨vs, (by rw [ha.out]; exact putSel_upk 20 hb_ rfl rfl rfl), Q_FT, Q_FS, Q_FU, Q_FD, Q_FB, fun h0_ => absurd ((hoff 24 (by kernel_rfl)).symm.trans h0_) (by decide)⟩
    refine steps_cons ?_ ?_
    · rintro b a w' ⟨vs, ha, Q_FT, Q_FS, Q_FU, Q_FD, Q_FB, Q_FV⟩ hb_ hon hoff
      refine ⟨_, rfl, fun K hK => ?_⟩
      have e54 : a.tmps[54]? = some (.bool true) := by rw [ha]; exact putSel_on (e := (20, 54, .bool true)) 20 rfl rfl (hon 20 (by kernel_rfl)) rfl
      replace ha := Aside0.mk ha
      have FT := Aside0.mk Q_FT
      have FS := Aside0.mk Q_FS
      have FU := Aside0.mk Q_FU
      have FD := Aside0.mk Q_FD
      have FB := Aside0.mk Q_FB
      refine value_ (w1 := w') (v := .bool true) (by rfl) rfl ?_ ?_
      · go_simp
        (try simp only [i64_w])
        try rfl
      refine hK.out _ _ ⟨vs, (by rw [ha.out]; exact putSel_upk 21 hb_ rfl rfl rfl), Q_FT, Q_FS, Q_FU, Q_FD, Q_FB, fun h0_ => absurd ((hoff 24 (by kernel_rfl)).symm.trans h0_) (by decide)⟩
    refine steps_cons ?_ ?_
    · rintro b a w' ⟨vs, ha, Q_FT, Q_FS, Q_FU, Q_FD, Q_FB, Q_FV⟩ hb_ hon hoff
      refine ⟨_, rfl, fun K hK => ?_⟩
      have e9 : a.tmps[9]? = some (.slice A9 s0.length c9) := by rw [ha]; exact (putSel_off rfl).trans rfl
      have e55 : a.tmps[55]? = some (.bool true) := by rw [ha]; exact putSel_on (e := (21, 55, .bool true)) 21 rfl rfl (hon 21 (by kernel_rfl)) rfl
      replace ha := Aside0.mk ha
      have FT := Aside0.mk Q_FT
      have FS := Aside0.mk Q_FS
      have FU := Aside0.mk Q_FU
      have FD := Aside0.mk Q_FD
      have FB := Aside0.mk Q_FB
      refine value_ (w1 := w') (v := .slice A9 s0.length c9) (wanted_on rfl rfl rfl (e55.trans (by first | rfl | (simp [*]; done)))) rfl ?_ ?_
      · go_simp
        (try simp only [i64_w])
        try rfl
      refine hK.out _ _ ⟨vs, (by rw [ha.out]; exact putSel_upk 22 hb_ rfl rfl rfl), Q_FT, Q_FS, Q_FU, Q_FD, Q_FB, Q_FV⟩
    refine steps_cons ?_ ?_
    · rintro b a w' ⟨vs, ha, Q_FT, Q_FS, Q_FU, Q_FD, Q_FB, Q_FV⟩ hb_ hon hoff
      refine ⟨_, rfl, fun K hK => ?_⟩
      have e56 : a.tmps[56]? = some (.slice A9 s0.length c9) := by rw [ha]; exact putSel_on (e := (22, 56, .slice A9 s0.length c9)) 22 rfl rfl (hon 22 (by kernel_rfl)) rfl
      have e55 : a.tmps[55]? = some (.bool true) := by rw [ha]; exact putSel_on (e := (21, 55, .bool true)) 21 rfl rfl (hon 21 (by kernel_rfl)) rfl
      replace ha := Aside0.mk ha
      have FT := Aside0.mk Q_FT
      have FS := Aside0.mk Q_FS
      have FU := Aside0.mk Q_FU
      have FD := Aside0.mk Q_FD
      have FB := Aside0.mk Q_FB
      have hcv := Kd.C_string (P := Try.prog) (A := A9) (c := c9) Try.underlying29 Try.underlying5 Try.underlying9 FU.out
      refine value_ (w1 := w') (v := .string (strOfNums s0)) (wanted_on rfl rfl rfl (e55.trans (by first | rfl | (simp [*]; done)))) rfl ?_ ?_
      · go_simp
        (try simp only [i64_w])
        try rfl
      refine hK.out _ _ ⟨vs, (by rw [ha.out]; exact putSel_upk 23 hb_ rfl rfl rfl), Q_FT, Q_FS, Q_FU, Q_FD, Q_FB, Q_FV⟩
    refine steps_cons ?_ ?_
    · rintro b a w' ⟨vs, ha, Q_FT, Q_FS, Q_FU, Q_FD, Q_FB, Q_FV⟩ hb_ hon hoff
      refine ⟨_, rfl, fun K hK => ?_⟩
      have e55 : a.tmps[55]? = some (.bool true) := by rw [ha]; exact putSel_on (e := (21, 55, .bool true)) 21 rfl rfl (hon 21 (by kernel_rfl)) rfl
      replace ha := Aside0.mk ha
      have FT := Aside0.mk Q_FT
      have FS := Aside0.mk Q_FS
      have FU := Aside0.mk Q_FU
      have FD := Aside0.mk Q_FD
      have FB := Aside0.mk Q_FB
      refine goes_ Try.func23 (by kernel_rfl) rfl #[.int .u8 0] (wanted_on rfl rfl rfl (e55.trans (by first | rfl | (simp [*]; done)))) rfl rfl (by first | (simp only [List.map_toArray, List.map_cons, List.map_nil, Act.eval, Array.getD_eq_getD_getElem?, Option.getD_some, e55]; done) | (simp only [List.map_toArray, List.map_cons, List.map_nil, Act.eval, Array.getD_eq_getD_getElem?, Option.getD_some, e55]; rfl)) ?_
      refine (prebendlaw05_sector.calls 40 0 s0 _ K0.out).mono ?_
      rintro e w10 ⟨v10, rfl, hR10, hB10⟩
      refine ⟨v10, rfl, ?_⟩
      refine hK.out _ _ ⟨v10, (by rw [ha.out]; exact putSel_upk 24 hb_ rfl rfl rfl), Kd.C_below FT.out hB10, Kd.C_below FS.out hB10, Kd.C_below FU.out hB10, disk_below FD.out hB10, below_step FB.out hB10, fun _ => ⟨_, hR10⟩⟩
    refine steps_cons ?_ ?_
    · rintro b a w' ⟨vs, ha, Q_FT, Q_FS, Q_FU, Q_FD, Q_FB, Q_FV⟩ hb_ hon hoff
      refine ⟨_, rfl, fun K hK => ?_⟩
      have e58 : a.tmps[58]? = some (vs) := by rw [ha]; exact putSel_on (e := (24, 58, vs)) 24 rfl rfl (hon 24 (by kernel_rfl)) rfl
      have e55 : a.tmps[55]? = some (.bool true) := by rw [ha]; exact putSel_on (e := (21, 55, .bool true)) 21 rfl rfl (hon 21 (by kernel_rfl)) rfl
      replace ha := Aside0.mk ha
      have FT := Aside0.mk Q_FT
      have FS := Aside0.mk Q_FS
      have FU := Aside0.mk Q_FU
      have FD := Aside0.mk Q_FD
      have FB := Aside0.mk Q_FB
      have FV := Aside0.mk (Q_FV (hon 24 (by kernel_rfl)))
      obtain ⟨b_, hR_⟩ := FV.out
      have hcv := own_string (P := Try.prog) Try.underlying29 Try.underlying5 Try.underlying9 (Kd.own_of_R hR_)
      refine value_ (w1 := w') (v := .string (strOfNums s0)) (wanted_on rfl rfl rfl (e55.trans (by first | rfl | (simp [*]; done)))) rfl ?_ ?_
      · go_simp
        (try simp only [i64_w])
        try rfl
      refine hK.out _ _ ⟨vs, (by rw [ha.out]; exact putSel_upk 25 hb_ rfl rfl rfl), Q_FT, Q_FS, Q_FU, Q_FD, Q_FB, Q_FV⟩
    refine steps_cons ?_ ?_
    · rintro b a w' ⟨vs, ha, Q_FT, Q_FS, Q_FU, Q_FD, Q_FB, Q_FV⟩ hb_ hon hoff
      refine ⟨_, rfl, fun K hK => ?_⟩
      have e57 : a.tmps[57]? = some (.string (strOfNums s0)) := by rw [ha]; exact putSel_on (e := (23, 57, .string (strOfNums s0))) 23 rfl rfl (hon 23 (by kernel_rfl)) rfl
      have e59 : a.tmps[59]? = some (.string (strOfNums s0)) := by rw [ha]; exact putSel_on (e := (25, 59, .string (strOfNums s0))) 25 rfl rfl (hon 25 (by kernel_rfl)) rfl
      have e55 : a.tmps[55]? = some (.bool true) := by rw [ha]; exact putSel_on (e := (21, 55, .bool true)) 21 rfl rfl (hon 21 (by kernel_rfl)) rfl
      replace ha := Aside0.mk ha
      have FT := Aside0.mk Q_FT
      have FS := Aside0.mk Q_FS
      have FU := Aside0.mk Q_FU
      have FD := Aside0.mk Q_FD
      have FB := Aside0.mk Q_FB
      have FV := Aside0.mk (Q_FV (hon 24 (by kernel_rfl)))
      refine value_ (w1 := w') (v := .bool true) (wanted_on rfl rfl rfl (e55.trans (by first | rfl | (simp [*]; done)))) rfl ?_ ?_
      · go_simp
        (try simp only [i64_w])
        try rfl
      refine hK.out _ _ ⟨vs, (by rw [ha.out]; exact putSel_upk 26 hb_ rfl rfl rfl), Q_FT, Q_FS, Q_FU, Q_FD, Q_FB, Q_FV⟩
    refine steps_cons ?_ ?_
    · rintro b a w' ⟨vs, ha, Q_FT, Q_FS, Q_FU, Q_FD, Q_FB, Q_FV⟩ hb_ hon hoff
      refine ⟨_, rfl, fun K hK => ?_⟩
      have e55 : a.tmps[55]? = some (.bool true) := by rw [ha]; exact putSel_on (e := (21, 55, .bool true)) 21 rfl rfl (hon 21 (by kernel_rfl)) rfl
      have e60 : a.tmps[60]? = some (.bool true) := by rw [ha]; exact putSel_on (e := (26, 60, .bool true)) 26 rfl rfl (hon 26 (by kernel_rfl)) rfl
      replace ha := Aside0.mk ha
      have FT := Aside0.mk Q_FT
      have FS := Aside0.mk Q_FS
      have FU := Aside0.mk Q_FU
      have FD := Aside0.mk Q_FD
      have FB := Aside0.mk Q_FB
      have FV := Aside0.mk (Q_FV (hon 24 (by kernel_rfl)))
      refine value_ (w1 := w') (v := .bool true) (by rfl) rfl ?_ ?_
      · go_simp
        (try simp only [i64_w])
        try rfl
      refine hK.out _ _ ⟨vs, (by rw [ha.out]; exact putSel_upk 27 hb_ rfl rfl rfl), Q_FT, Q_FS, Q_FU, Q_FD, Q_FB, Q_FV⟩
    refine steps_cons ?_ ?_
    · rintro b a w' ⟨vs, ha, Q_FT, Q_FS, Q_FU, Q_FD, Q_FB, Q_FV⟩ hb_ hon hoff
      refine ⟨_, rfl, fun K hK => ?_⟩
      have e61 : a.tmps[61]? = some (.bool true) := by rw [ha]; exact putSel_on (e := (27, 61, .bool true)) 27 rfl rfl (hon 27 (by kernel_rfl)) rfl
      replace ha := Aside0.mk ha
      have FT := Aside0.mk Q_FT
      have FS := Aside0.mk Q_FS
      have FU := Aside0.mk Q_FU
      have FD := Aside0.mk Q_FD
      have FB := Aside0.mk Q_FB
      have FV := Aside0.mk (Q_FV (hon 24 (by kernel_rfl)))
      refine value_ (w1 := w') (v := .bool true) (by rfl) rfl ?_ ?_
      · go_simp
        (try simp only [i64_w])
        try rfl
      refine hK.out _ _ ⟨vs, (by rw [ha.out]; exact putSel_upk 28 hb_ rfl rfl rfl), Q_FT, Q_FS, Q_FU, Q_FD, Q_FB, Q_FV⟩
    refine steps_cons ?_ ?_
    · rintro b a w' ⟨vs, ha, Q_FT, Q_FS, Q_FU, Q_FD, Q_FB, Q_FV⟩ hb_ hon hoff
      refine ⟨_, rfl, fun K hK => ?_⟩
      have e10 : a.tmps[10]? = some (.int .i64 0) := by rw [ha]; exact (putSel_off rfl).trans rfl
      have e62 : a.tmps[62]? = some (.bool true) := by rw [ha]; exact putSel_on (e := (28, 62, .bool true)) 28 rfl rfl (hon 28 (by kernel_rfl)) rfl
      replace ha := Aside0.mk ha
      have FT := Aside0.mk Q_FT
      have FS := Aside0.mk Q_FS
      have FU := Aside0.mk Q_FU
      have FD := Aside0.mk Q_FD
      have FB := Aside0.mk Q_FB
      have FV := Aside0.mk (Q_FV (hon 24 (by kernel_rfl)))
      refine value_ (w1 := w') (v := .int .i64 0) (wanted_on rfl rfl rfl (e62.trans (by first | rfl | (simp [*]; done)))) rfl ?_ ?_
      · go_simp
        (try simp only [i64_w])
        try rfl
      refine hK.out _ _ ⟨vs, (by rw [ha.out]; exact putSel_upk 29 hb_ rfl rfl rfl), Q_FT, Q_FS, Q_FU, Q_FD, Q_FB, Q_FV⟩
    refine steps_cons ?_ ?_
    · rintro b a w' ⟨vs, ha, Q_FT, Q_FS, Q_FU, Q_FD, Q_FB, Q_FV⟩ hb_ hon hoff
      refine ⟨_, rfl, fun K hK => ?_⟩
      have e63 : a.tmps[63]? = some (.int .i64 0) := by rw [ha]; exact putSel_on (e := (29, 63, .int .i64 0)) 29 rfl rfl (hon 29 (by kernel_rfl)) rfl
      have e62 : a.tmps[62]? = some (.bool true) := by rw [ha]; exact putSel_on (e := (28, 62, .bool true)) 28 rfl rfl (hon 28 (by kernel_rfl)) rfl
      replace ha := Aside0.mk ha
      have FT := Aside0.mk Q_FT
      have FS := Aside0.mk Q_FS
      have FU := Aside0.mk Q_FU
      have FD := Aside0.mk Q_FD
      have FB := Aside0.mk Q_FB
      have FV := Aside0.mk (Q_FV (hon 24 (by kernel_rfl)))
      refine value_ (w1 := w') (v := .bool true) (wanted_on rfl rfl rfl (e62.trans (by first | rfl | (simp [*]; done)))) rfl ?_ ?_
      · go_simp
        (try simp only [i64_w])
        try rfl
      refine hK.out _ _ ⟨vs, (by rw [ha.out]; exact putSel_upk 30 hb_ rfl rfl rfl), Q_FT, Q_FS, Q_FU, Q_FD, Q_FB, Q_FV⟩
    refine steps_cons ?_ ?_
    · rintro b a w' ⟨vs, ha, Q_FT, Q_FS, Q_FU, Q_FD, Q_FB, Q_FV⟩ hb_ hon hoff
      refine ⟨_, rfl, fun K hK => ?_⟩
      have e62 : a.tmps[62]? = some (.bool true) := by rw [ha]; exact putSel_on (e := (28, 62, .bool true)) 28 rfl rfl (hon 28 (by kernel_rfl)) rfl
      have e64 : a.tmps[64]? = some (.bool true) := by rw [ha]; exact putSel_on (e := (30, 64, .bool true)) 30 rfl rfl (hon 30 (by kernel_rfl)) rfl
      replace ha := Aside0.mk ha
      have FT := Aside0.mk Q_FT
      have FS := Aside0.mk Q_FS
      have FU := Aside0.mk Q_FU
      have FD := Aside0.mk Q_FD
      have FB := Aside0.mk Q_FB
      have FV := Aside0.mk (Q_FV (hon 24 (by kernel_rfl)))
      refine value_ (w1 := w') (v := .bool true) (by rfl) rfl ?_ ?_
      · go_simp
        (try simp only [i64_w])
        try rfl
      refine hK.out _ _ ⟨vs, (by rw [ha.out]; exact putSel_upk 31 hb_ rfl rfl rfl), Q_FT, Q_FS, Q_FU, Q_FD, Q_FB, Q_FV⟩
    refine steps_cons ?_ ?_
    · rintro b a w' ⟨vs, ha, Q_FT, Q_FS, Q_FU, Q_FD, Q_FB, Q_FV⟩ hb_ hon hoff
      refine ⟨_, rfl, fun K hK => ?_⟩
      have e65 : a.tmps[65]? = some (.bool true) := by rw [ha]; exact putSel_on (e := (31, 65, .bool true)) 31 rfl rfl (hon 31 (by kernel_rfl)) rfl
      replace ha := Aside0.mk ha
      have FT := Aside0.mk Q_FT
      have FS := Aside0.mk Q_FS
      have FU := Aside0.mk Q_FU
      have FD := Aside0.mk Q_FD
      have FB := Aside0.mk Q_FB
      have FV := Aside0.mk (Q_FV (hon 24 (by kernel_rfl)))
      refine value_ (w1 := w') (v := .bool true) (by rfl) rfl ?_ ?_
      · go_simp
        (try simp only [i64_w])
        try rfl
      refine hK.out _ _ ⟨vs, (by rw [ha.out]; exact putSel_upk 32 hb_ rfl rfl rfl), Q_FT, Q_FS, Q_FU, Q_FD, Q_FB, Q_FV⟩
    refine steps_cons ?_ ?_
    · rintro b a w' ⟨vs, ha, Q_FT, Q_FS, Q_FU, Q_FD, Q_FB, Q_FV⟩ hb_ hon hoff
      refine ⟨_, rfl, fun K hK => ?_⟩
      have e1 : a.tmps[1]? = some (.pointer (some ⟨g, 0, none⟩)) := by rw [ha]; exact (putSel_off rfl).trans rfl
      have e66 : a.tmps[66]? = some (.bool true) := by rw [ha]; exact putSel_on (e := (32, 66, .bool true)) 32 rfl rfl (hon 32 (by kernel_rfl)) rfl
      replace ha := Aside0.mk ha
      have FT := Aside0.mk Q_FT
      have FS := Aside0.mk Q_FS
      have FU := Aside0.mk Q_FU
      have FD := Aside0.mk Q_FD
      have FB := Aside0.mk Q_FB
      have FV := Aside0.mk (Q_FV (hon 24 (by kernel_rfl)))
      refine value_ (w1 := w') (v := .pointer (some ⟨g, 0, none⟩)) (wanted_on rfl rfl rfl (e66.trans (by first | rfl | (simp [*]; done)))) rfl ?_ ?_
      · go_simp
        (try simp only [i64_w])
        try rfl
      refine hK.out _ _ ⟨vs, (by rw [ha.out]; exact putSel_upk 33 hb_ rfl rfl rfl), Q_FT, Q_FS, Q_FU, Q_FD, Q_FB, Q_FV⟩
    refine steps_cons ?_ ?_
    · rintro b a w' ⟨vs, ha, Q_FT, Q_FS, Q_FU, Q_FD, Q_FB, Q_FV⟩ hb_ hon hoff
      refine ⟨_, rfl, fun K hK => ?_⟩
      have e67 : a.tmps[67]? = some (.pointer (some ⟨g, 0, none⟩)) := by rw [ha]; exact putSel_on (e := (33, 67, .pointer (some ⟨g, 0, none⟩))) 33 rfl rfl (hon 33 (by kernel_rfl)) rfl
      have e66 : a.tmps[66]? = some (.bool true) := by rw [ha]; exact putSel_on (e := (32, 66, .bool true)) 32 rfl rfl (hon 32 (by kernel_rfl)) rfl
      replace ha := Aside0.mk ha
      have FT := Aside0.mk Q_FT
      have FS := Aside0.mk Q_FS
      have FU := Aside0.mk Q_FU
      have FD := Aside0.mk Q_FD
      have FB := Aside0.mk Q_FB
      have FV := Aside0.mk (Q_FV (hon 24 (by kernel_rfl)))
      refine goes_ Try.func24 (by kernel_rfl) rfl #[.pointer (some ⟨g, 0, none⟩)] (wanted_on rfl rfl rfl (e66.trans (by first | rfl | (simp [*]; done)))) rfl rfl (by first | (simp only [List.map_toArray, List.map_cons, List.map_nil, Act.eval, Array.getD_eq_getD_getElem?, Option.getD_some, e67, e66]; done) | (simp only [List.map_toArray, List.map_cons, List.map_nil, Act.eval, Array.getD_eq_getD_getElem?, Option.getD_some, e67, e66]; rfl)) ?_
      refine (size_walk w.heap.size g d3 _ FD.out).mono ?_
      rintro e w11 ⟨rfl, rfl⟩
      rw [E6.out]
      refine ⟨_, rfl, ?_⟩
      refine hK.out _ _ ⟨vs, (by rw [ha.out]; exact putSel_upk 34 hb_ rfl rfl rfl), FT.out, FS.out, FU.out, FD.out, FB.out, fun _ => FV.out⟩
    refine steps_cons ?_ ?_
    · rintro b a w' ⟨vs, ha, Q_FT, Q_FS, Q_FU, Q_FD, Q_FB, Q_FV⟩ hb_ hon hoff
      refine ⟨_, rfl, fun K hK => ?_⟩
      have e68 : a.tmps[68]? = some (.int .i64 4) := by rw [ha]; exact putSel_on (e := (34, 68, .int .i64 4)) 34 rfl rfl (hon 34 (by kernel_rfl)) rfl
      have e66 : a.tmps[66]? = some (.bool true) := by rw [ha]; exact putSel_on (e := (32, 66, .bool true)) 32 rfl rfl (hon 32 (by kernel_rfl)) rfl
      replace ha := Aside0.mk ha
      have FT := Aside0.mk Q_FT
      have FS := Aside0.mk Q_FS
      have FU := Aside0.mk Q_FU
      have FD := Aside0.mk Q_FD
      have FB := Aside0.mk Q_FB
      have FV := Aside0.mk (Q_FV (hon 24 (by kernel_rfl)))
      refine value_ (w1 := w') (v := .bool true) (wanted_on rfl rfl rfl (e66.trans (by first | rfl | (simp [*]; done)))) rfl ?_ ?_
      · go_simp
        (try simp only [i64_w])
        try rfl
      refine hK.out _ _ ⟨vs, (by rw [ha.out]; exact putSel_upk 35 hb_ rfl rfl rfl), Q_FT, Q_FS, Q_FU, Q_FD, Q_FB, Q_FV⟩
    refine steps_cons ?_ ?_
    · rintro b a w' ⟨vs, ha, Q_FT, Q_FS, Q_FU, Q_FD, Q_FB, Q_FV⟩ hb_ hon hoff
      refine ⟨_, rfl, fun K hK => ?_⟩
      have e66 : a.tmps[66]? = some (.bool true) := by rw [ha]; exact putSel_on (e := (32, 66, .bool true)) 32 rfl rfl (hon 32 (by kernel_rfl)) rfl
      have e69 : a.tmps[69]? = some (.bool true) := by rw [ha]; exact putSel_on (e := (35, 69, .bool true)) 35 rfl rfl (hon 35 (by kernel_rfl)) rfl
      replace ha := Aside0.mk ha
      have FT := Aside0.mk Q_FT
      have FS := Aside0.mk Q_FS
      have FU := Aside0.mk Q_FU
      have FD := Aside0.mk Q_FD
      have FB := Aside0.mk Q_FB
      have FV := Aside0.mk (Q_FV (hon 24 (by kernel_rfl)))
      refine value_ (w1 := w') (v := .bool true) (by rfl) rfl ?_ ?_
      · go_simp
        (try simp only [i64_w])
        try rfl
      refine hK.out _ _ ⟨vs, (by rw [ha.out]; exact putSel_upk 36 hb_ rfl rfl rfl), Q_FT, Q_FS, Q_FU, Q_FD, Q_FB, Q_FV⟩
    refine steps_cons ?_ ?_
    · rintro b a w' ⟨vs, ha, Q_FT, Q_FS, Q_FU, Q_FD, Q_FB, Q_FV⟩ hb_ hon hoff
      refine ⟨_, rfl, fun K hK => ?_⟩
      have e70 : a.tmps[70]? = some (.bool true) := by rw [ha]; exact putSel_on (e := (36, 70, .bool true)) 36 rfl rfl (hon 36 (by kernel_rfl)) rfl
      replace ha := Aside0.mk ha
      have FT := Aside0.mk Q_FT
      have FS := Aside0.mk Q_FS
      have FU := Aside0.mk Q_FU
      have FD := Aside0.mk Q_FD
      have FB := Aside0.mk Q_FB
      have FV := Aside0.mk (Q_FV (hon 24 (by kernel_rfl)))
      refine value_ (w1 := w') (v := .bool true) (by rfl) rfl ?_ ?_
      · go_simp
        (try simp only [i64_w])
        try rfl
      refine hK.out _ _ ⟨vs, (by rw [ha.out]; exact putSel_upk 37 hb_ rfl rfl rfl), Q_FT, Q_FS, Q_FU, Q_FD, Q_FB, Q_FV⟩
    exact steps_nil
  · rintro b a w' hall ⟨vs, ha, Q_FT, Q_FS, Q_FU, Q_FD, Q_FB, Q_FV⟩
    clear FB FD FS FT FU
    have hb0_ := hall 0 (by kernel_rfl)
    have hb1_ := hall 1 (by kernel_rfl)
    have hb2_ := hall 2 (by kernel_rfl)
    have hb3_ := hall 3 (by kernel_rfl)
    have hb4_ := hall 4 (by kernel_rfl)
    have hb5_ := hall 5 (by kernel_rfl)
    have hb6_ := hall 6 (by kernel_rfl)
    have hb7_ := hall 7 (by kernel_rfl)
    have hb8_ := hall 8 (by kernel_rfl)
    have hb9_ := hall 9 (by kernel_rfl)
    have hb10_ := hall 10 (by kernel_rfl)
    have hb11_ := hall 11 (by kernel_rfl)
    have hb12_ := hall 12 (by kernel_rfl)
    have hb13_ := hall 13 (by kernel_rfl)
    have hb14_ := hall 14 (by kernel_rfl)
    have hb15_ := hall 15 (by kernel_rfl)
    have hb16_ := hall 16 (by kernel_rfl)
    have hb17_ := hall 17 (by kernel_rfl)
    have hb18_ := hall 18 (by kernel_rfl)
    have hb19_ := hall 19 (by kernel_rfl)
    have hb20_ := hall 20 (by kernel_rfl)
    have hb21_ := hall 21 (by kernel_rfl)
    have hb22_ := hall 22 (by kernel_rfl)
    have hb23_ := hall 23 (by kernel_rfl)
    have hb24_ := hall 24 (by kernel_rfl)
    have hb25_ := hall 25 (by kernel_rfl)
    have hb26_ := hall 26 (by kernel_rfl)
    have hb27_ := hall 27 (by kernel_rfl)
    have hb28_ := hall 28 (by kernel_rfl)
    have hb29_ := hall 29 (by kernel_rfl)
    have hb30_ := hall 30 (by kernel_rfl)
    have hb31_ := hall 31 (by kernel_rfl)
    have hb32_ := hall 32 (by kernel_rfl)
    have hb33_ := hall 33 (by kernel_rfl)
    have hb34_ := hall 34 (by kernel_rfl)
    have hb35_ := hall 35 (by kernel_rfl)
    have hb36_ := hall 36 (by kernel_rfl)
    have hb37_ := hall 37 (by kernel_rfl)
    subst ha
    simp only [putSel, hb0_, hb1_, hb2_, hb3_, hb4_, hb5_, hb6_, hb7_, hb8_, hb9_, hb10_, hb11_, hb12_, hb13_, hb14_, hb15_, hb16_, hb17_, hb18_, hb19_, hb20_, hb21_, hb22_, hb23_, hb24_, hb25_, hb26_, hb27_, hb28_, hb29_, hb30_, hb31_, hb32_, hb33_, hb34_, hb35_, hb36_, hb37_, if_true, Act.put, List.setIfInBounds_toArray, List.set_cons_zero, List.set_cons_succ]
    have FT := Aside0.mk Q_FT
    clear Q_FT
    have FS := Aside0.mk Q_FS
    clear Q_FS
    have FU := Aside0.mk Q_FU
    clear Q_FU
    have FD := Aside0.mk Q_FD
    clear Q_FD
    have FB := Aside0.mk Q_FB
    clear Q_FB
    have FV := Aside0.mk (Q_FV hb24_)
    clear Q_FV
    clear hall hb0_ hb1_ hb2_ hb3_ hb4_ hb5_ hb6_ hb7_ hb8_ hb9_ hb10_ hb11_ hb12_ hb13_ hb14_ hb15_ hb16_ hb17_ hb18_ hb19_ hb20_ hb21_ hb22_ hb23_ hb24_ hb25_ hb26_ hb27_ hb28_ hb29_ hb30_ hb31_ hb32_ hb33_ hb34_ hb35_ hb36_ hb37_
    go_wp2
    go_ret
    exact ⟨rfl, FB.out⟩
end Go.Proofs.Ytmpiljfpgfhljaa.XDisk
