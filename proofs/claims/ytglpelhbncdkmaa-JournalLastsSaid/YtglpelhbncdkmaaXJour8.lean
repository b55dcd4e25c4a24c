/-
  package journal by walks, eighth part: which place has the checkpoint.
-/
import Derived.Laws.CopyOwn
import Derived.ArgAppend
import Derived.Below
import Derived.BigQuiet
import Derived.Deep.AppendLies
import Derived.Deep.CutBlock
import Derived.Deep.DeepCutAuto
import Derived.Deep.Draws
import Derived.Deep.LoopGhost
import Derived.Deep.OwnRows
import Derived.Deep.QuietTactic
import Derived.Deep.RegionHeld3
import Derived.Deep.WholeRow
import Derived.KernelRfl
import Derived.Laws.BitsLemmas
import Derived.Laws.BytesArg
import Derived.Laws.IdiomCopy
import Derived.Laws.MakeOwn
import Derived.Laws.OwnMore
import Derived.Laws.Rows
import Derived.Laws.Slices
import Derived.Lib.AppendStr
import Derived.Lib.ConvBytes
import Derived.Lib.Hide
import Derived.Maps.AppendAt
import Derived.OrdersHeld
import Derived.Outline
import Derived.OwnWalk
import Derived.RowKit
import Derived.RowKit3
import Derived.Tactics
import Derived.WalkKit
import Derived.WideLaws
import Derived.Test.YtglpelhbncdkmaaProg
import Derived.Test.YtglpelhbncdkmaaWApart
import Derived.Test.YtglpelhbncdkmaaWArr
import Derived.Test.YtglpelhbncdkmaaWAt
import Derived.Test.YtglpelhbncdkmaaWEqStruct
import Derived.Test.YtglpelhbncdkmaaWFoot
import Derived.Test.YtglpelhbncdkmaaWFootNe
import Derived.Test.YtglpelhbncdkmaaWFour
import Derived.Test.YtglpelhbncdkmaaWGuard
import Derived.Test.YtglpelhbncdkmaaWInv
import Derived.Test.YtglpelhbncdkmaaWInvWords
import Derived.Test.YtglpelhbncdkmaaWKept
import Derived.Test.YtglpelhbncdkmaaWLast
import Derived.Test.YtglpelhbncdkmaaWMore
import Derived.Test.YtglpelhbncdkmaaWN
import Derived.Test.YtglpelhbncdkmaaWNEv
import Derived.Test.YtglpelhbncdkmaaWQPut
import Derived.Test.YtglpelhbncdkmaaWRepsOne
import Derived.Test.YtglpelhbncdkmaaWShare
import Derived.Test.YtglpelhbncdkmaaWTab
import Derived.Test.YtglpelhbncdkmaaWWords
import Derived.Test.YtglpelhbncdkmaaWZeros
import Derived.Test.YtglpelhbncdkmaaXSlices

import Derived.BigRegion
import Derived.Test.YtglpelhbncdkmaaXJour6
namespace Go.Proofs.Ytglpelhbncdkmaa.XJour
open Go.RowKit Go.Proofs.YtglpelhbncdkmaaW.PrintWords Go.Proofs.YtglpelhbncdkmaaW.PrintLast Go.Proofs.YtglpelhbncdkmaaW.PrintMore XDisk XChunk XUnpack
set_option linter.unusedVariables false
set_option linter.unusedSimpArgs false
/-- What one place adds: place, epoch, seq, state. -/
def ckStep (s : St) (sl n : Nat) (r : Int × Int × Int × List Int) : Int × Int × Int × List Int :=
  if (unpackF (readAll s (n * sl) sl)).2.2.2.2 = 0 ∧ (r.1 < 0 ∨ r.2.1 < (unpackF (readAll s (n * sl) sl)).1) then ((n : Int), (unpackF (readAll s (n * sl) sl)).1, (unpackF (readAll s (n * sl) sl)).2.1, (unpackF (readAll s (n * sl) sl)).2.2.1) else r
def ckF (s : St) (sl : Nat) (j : Jr) : Nat → Int × Int × Int × List Int
  | 0 => (-1, j.epoch, j.seq, [])
  | n + 1 => ckStep s sl n (ckF s sl j n)
theorem u8_jT : ∀ q, q ∈ 5 :: (Kd.int .u8).E → ¬ jT q := by intro q hq; simp [Kd.int, Kd.scalar] at hq; subst hq; unfold jT dT; decide
theorem disk_setB {base bd : Nat} {w : World} {gj g : Nat} {j : Jr} {s : St} (h : JrAt base w gj g j) (hd : DiskAt bd w g s) (i : Nat) (u : Value) : DiskAt bd (w.setCell ⟨gj, i, none⟩ u) g s := by
  obtain ⟨vg, vc, h1, h2, h3, h4⟩ := hd
  have hne : g ≠ gj := fun e => by
    subst e
    have := h.1; rw [h1] at this; injection this with this; injection this with _ h5 _; revert h5; decide
  exact ⟨vg, vc, (Below.heap_setCell w _ u g hne).trans h1, h2, Kd.R_set h3 h.1 (by intro q hq; simp [secK, Kd.arr, Kd.int, Kd.scalar] at hq; omega) _ _, Kd.R_set h4 h.1 (by intro q hq; simp [cacK, secK, Kd.pair, Kd.arr, Kd.int, Kd.scalar] at hq; omega) _ _⟩
attribute [local irreducible] unpackF readAll ckF
set_option maxHeartbeats 4000000 in
theorem ck_walk (base bd gj g sl : Nat) (j : Jr) (s : St) (w : World) (hj : JrAt base w gj g j) (h : DiskAt bd w g s) (hS : Fine s) (hsl : j.slot = (sl : Nat)) (h1 : 1 ≤ sl) (h2 : 2 * sl < s.good.length) (hz : s.good.length ≤ 1024) (hbase : base ≤ w.heap.size) :
    Calls Try.prog 27 #[.pointer (some ⟨gj, 0, none⟩)] w fun e w' => ∃ v, e = .returned v ∧ Kd.R (Kd.int .u8) 5 w' w.heap.size (fun _ => True) v (ckF s sl j 2).2.2.2 ∧ JrAt base w' gj g { j with place := (ckF s sl j 2).1, epoch := (ckF s sl j 2).2.1, seq := (ckF s sl j 2).2.2.1 } ∧ DiskAt bd w' g s ∧ KeepJ base w w' := by
  have HJ := Aside0.mk hj
  have HD := Aside0.mk h
  have HS := Aside0.mk hS
  obtain ⟨-, -, hc2, -⟩ := jr_cells hj
  have hf2 := jr_frozen hj 2
  obtain ⟨n, hn⟩ : ∃ n, s.good.length = n := ⟨_, rfl⟩
  have HN := Aside0.mk hn
  rw [hn] at h2 hz
  clear hj h hS hn
  go_enter Try.func27, Try.ntmps27
  go_wp2
  have HJ1 := Aside0.mk (jr_set2 HJ.out (-1))
  have HD1 := Aside0.mk (disk_setB HJ.out HD.out 2 (.int .i64 (-1)))
  have HK1 := Aside0.mk (keepJ_jr HJ.out 2 (.int .i64 (-1)))
  clear hc2 hf2 HJ HD
  generalize w.setCell ⟨gj, 2, none⟩ (.int .i64 (-1)) = w1 at *
  go_loopw [2, 12] (fun v2 v12 wr => ∃ k : Nat, k ≤ 2 ∧ v12 = .int .i64 (k : Nat) ∧ Aside0 (Kd.R (Kd.int .u8) 5 wr w.heap.size (fun _ => True) v2 (ckF s sl j k).2.2.2) ∧ Aside0 (JrAt base wr gj g { j with place := (ckF s sl j k).1, epoch := (ckF s sl j k).2.1, seq := (ckF s sl j k).2.2.1 }) ∧ Aside0 (DiskAt bd wr g s) ∧ Aside0 (KeepJ base w wr)) (fun _ v12 _ => 2 - (intOf v12).toNat)
  case atStart => exact ⟨0, Nat.zero_le _, rfl, ⟨by rw [ckF]; exact Kd.R_nil _ _ _ _ _⟩, ⟨by rw [ckF]; exact HJ1.out⟩, HD1, HK1⟩
  case round =>
    clear HJ1 HD1 HK1
    obtain ⟨k, hk, rfl, HV, HJ, HD, HK⟩ := hrel
    by_cases hlt : k < 2
    · have HCK := Aside0.mk (show ckF s sl j (k + 1) = ckStep s sl k (ckF s sl j k) by rw [ckF])
      obtain ⟨r, hr⟩ : ∃ r, ckF s sl j k = r := ⟨_, rfl⟩
      rw [hr] at HV HJ HCK
      clear hr
      obtain ⟨p0, e0, q0, b0⟩ := r
      simp only at HV HJ
      have hin : k * sl + sl ≤ n := by
        have : k = 0 ∨ k = 1 := by omega
        rcases this with rfl | rfl <;> omega
      have hkz : k * sl ≤ n := by omega
      obtain ⟨z, hzz⟩ : ∃ z, k * sl = z := ⟨_, rfl⟩
      have hz1 : (k : Int) * j.slot = (z : Nat) := by rw [hsl, ← hzz]; exact (Int.natCast_mul k sl).symm
      have hz2 : ((k : Int) + 1) * j.slot = ((z + sl : Nat) : Int) := by rw [Int.add_mul, hz1, hsl]; omega
      rw [hzz] at hin hkz
      have RD := Aside0.mk (fun w1 h1 => rd_walk bd g z sl s w1 h1 HS.out (by rw [HN.out]; exact hin) (by rw [HN.out]; omega))
      have hrf := readAll_fine HS.out z sl (by rw [HN.out]; exact hin)
      unfold ckStep at HCK
      rw [hzz] at HCK
      obtain ⟨l, hl⟩ : ∃ l, readAll s z sl = l := ⟨_, rfl⟩
      rw [hl] at RD hrf HCK
      have UN := Aside0.mk (fun A c w1 h1 h2 => XUnpack.unpack_walk A c l w1 h1 h2 hrf.2 (by rw [hrf.1]; omega))
      obtain ⟨u, hu⟩ : ∃ u, unpackF l = u := ⟨_, rfl⟩
      rw [hu] at UN HCK
      obtain ⟨u1, u2, u3, u4, u5⟩ := u
      have hlz : z + sl ≤ 1024 := by omega
      have hwa : IntKind.i64.wrap (z : Nat) = (z : Nat) := wr64 _ (by omega) (by omega)
      have hwb : IntKind.i64.wrap ((k : Int) + 1) = (k : Int) + 1 := wr64 _ (by omega) (by omega)
      have hwc : IntKind.i64.wrap ((z + sl : Nat) : Int) = ((z + sl : Nat) : Int) := wr64 _ (by omega) (by omega)
      obtain ⟨za, hza⟩ : ∃ a : Int, ((z : Nat) : Int) = a := ⟨_, rfl⟩
      obtain ⟨zb, hzb⟩ : ∃ a : Int, ((z + sl : Nat) : Int) = a := ⟨_, rfl⟩
      rw [hza] at hz1 hwa RD
      rw [hzb] at hz2 hwc RD
      obtain ⟨hc0, hc1, -⟩ := jr_cells HJ.out
      have HJr := Aside0.mk (show KeepJ base w wr ∧ base ≤ wr.heap.size from ⟨HK.out, Nat.le_trans hbase HK.out.size⟩)
      have HSL := Aside0.mk hsl
      clear hu hl hrf hin hkz hzz hza hzb hlz hsl
      by_cases h5 : u5 = 0
      · subst h5
        by_cases h6 : p0 < 0
        · have HC := Aside0.mk (show ckF s sl j (k + 1) = ((k : Int), u1, u2, u3) by rw [HCK.out]; exact if_pos ⟨rfl, .inl h6⟩)
          have b6 : decide (p0 < 0) = true := decide_eq_true h6
          go_wp2_with fail
          have HC0 := hc0
          have HC1 := hc1
          go_region_held3 (fun w' => w'.cell? ⟨gj, 0, none⟩ = some (.pointer (some ⟨g, 0, none⟩)) ∧ w'.cell? ⟨gj, 1, none⟩ = some (.int .i64 j.slot)) (first | exact ⟨hc0, hc1⟩ | exact ⟨HC0, HC1⟩)
            (first
              | (go_at_call 38; refine (RD.out _ (disk_drewN HD.out 1)).mono ?_; rintro e w2 ⟨v, rfl, hR2, hB2⟩; obtain ⟨A3, c3, rfl, hc3, hC3⟩ := Kd.R_reads hR2; have HC3 := Aside0.mk hC3; have HB2 := Aside0.mk (below_step ((Below.refl wr.heap.size wr).drew) hB2); clear hc0 hc1; obtain ⟨hc0, hc1, -⟩ := jr_cells (jr_below HJ.out HB2.out); clear hR2 hB2 hC3 RD)
              | (go_at_call 37; refine (UN.out A3 c3 w2 HC3.out hc3).mono ?_; rintro e w3 ⟨v3, rfl, hR3, hB3⟩; have HR3 := Aside0.mk hR3; have HB3 := Aside0.mk (below_step HB2.out hB3); clear hc0 hc1 HC3; obtain ⟨hc0, hc1, hc2, hc3', hc4, -, -, -⟩ := jr_cells (jr_below HJ.out HB3.out); have hf2 := jr_frozen (jr_below HJ.out HB3.out) 2; have hf3 := jr_frozen (jr_below HJ.out HB3.out) 3; have hf4 := jr_frozen (jr_below HJ.out HB3.out) 4; clear hR3 hB3 UN))
          have HJ3 := Aside0.mk (jr_below HJ.out HB3.out)
          have HD3 := Aside0.mk (disk_below HD.out HB3.out)
          have HK3 := Aside0.mk (HK.out.trans (KeepJ.of_below HB3.out))
          have HV3 := Aside0.mk (Kd.R_below HV.out HB3.out)
          have HR4 := Aside0.mk (Kd.R_lower HR3.out (show w.heap.size ≤ w2.heap.size from Nat.le_trans HK.out.size HB2.out.size))
          clear HJ HD HK HV HB2 HB3 HR3 hwa hwb hwc hz1 hz2
          go_wp2
          go_roundw
          case rel =>
            have a1 := jr_set2 HJ3.out (k : Int)
            have a2 := jr_set3 a1 u1
            have a3 := jr_set4 a2 u2
            have k3 := (keepJ_jr HJ3.out 2 (.int .i64 (k : Int))).trans ((keepJ_jr a1 3 (.int .i64 u1)).trans (keepJ_jr a2 4 (.int .i64 u2)))
            exact ⟨k + 1, hlt, by go_num, ⟨by rw [HC.out]; exact R_keepJ HR4.out u8_jT k3⟩, ⟨by rw [HC.out]; exact a3⟩, ⟨disk_setB a2 (disk_setB a1 (disk_setB HJ3.out HD3.out 2 _) 3 _) 4 _⟩, ⟨HK3.out.trans k3⟩⟩
          case measure => simp [intOf]; omega
        · have b6 : decide (p0 < 0) = false := decide_eq_false h6
          by_cases h7 : e0 < u1
          · have HC := Aside0.mk (show ckF s sl j (k + 1) = ((k : Int), u1, u2, u3) by rw [HCK.out]; exact if_pos ⟨rfl, .inr h7⟩)
            have b7 : decide (e0 < u1) = true := decide_eq_true h7
            go_wp2_with fail
            have HC0 := hc0
            have HC1 := hc1
            go_region_held3 (fun w' => w'.cell? ⟨gj, 0, none⟩ = some (.pointer (some ⟨g, 0, none⟩)) ∧ w'.cell? ⟨gj, 1, none⟩ = some (.int .i64 j.slot)) (first | exact ⟨hc0, hc1⟩ | exact ⟨HC0, HC1⟩)
              (first
                | (go_at_call 38; refine (RD.out _ (disk_drewN HD.out 1)).mono ?_; rintro e w2 ⟨v, rfl, hR2, hB2⟩; obtain ⟨A3, c3, rfl, hc3, hC3⟩ := Kd.R_reads hR2; have HC3 := Aside0.mk hC3; have HB2 := Aside0.mk (below_step ((Below.refl wr.heap.size wr).drew) hB2); clear hc0 hc1; obtain ⟨hc0, hc1, -⟩ := jr_cells (jr_below HJ.out HB2.out); clear hR2 hB2 hC3 RD)
                | (go_at_call 37; refine (UN.out A3 c3 w2 HC3.out hc3).mono ?_; rintro e w3 ⟨v3, rfl, hR3, hB3⟩; have HR3 := Aside0.mk hR3; have HB3 := Aside0.mk (below_step HB2.out hB3); clear hc0 hc1 HC3; obtain ⟨hc0, hc1, hc2, hc3', hc4, -, -, -⟩ := jr_cells (jr_below HJ.out HB3.out); have hf2 := jr_frozen (jr_below HJ.out HB3.out) 2; have hf3 := jr_frozen (jr_below HJ.out HB3.out) 3; have hf4 := jr_frozen (jr_below HJ.out HB3.out) 4; clear hR3 hB3 UN))
            have HJ3 := Aside0.mk (jr_below HJ.out HB3.out)
            have HD3 := Aside0.mk (disk_below HD.out HB3.out)
            have HK3 := Aside0.mk (HK.out.trans (KeepJ.of_below HB3.out))
            have HV3 := Aside0.mk (Kd.R_below HV.out HB3.out)
            have HR4 := Aside0.mk (Kd.R_lower HR3.out (show w.heap.size ≤ w2.heap.size from Nat.le_trans HK.out.size HB2.out.size))
            clear HJ HD HK HV HB2 HB3 HR3 hwa hwb hwc hz1 hz2
            go_wp2
            go_roundw
            case rel =>
              have a1 := jr_set2 HJ3.out (k : Int)
              have a2 := jr_set3 a1 u1
              have a3 := jr_set4 a2 u2
              have k3 := (keepJ_jr HJ3.out 2 (.int .i64 (k : Int))).trans ((keepJ_jr a1 3 (.int .i64 u1)).trans (keepJ_jr a2 4 (.int .i64 u2)))
              exact ⟨k + 1, hlt, by go_num, ⟨by rw [HC.out]; exact R_keepJ HR4.out u8_jT k3⟩, ⟨by rw [HC.out]; exact a3⟩, ⟨disk_setB a2 (disk_setB a1 (disk_setB HJ3.out HD3.out 2 _) 3 _) 4 _⟩, ⟨HK3.out.trans k3⟩⟩
            case measure => simp [intOf]; omega
          · have HC := Aside0.mk (show ckF s sl j (k + 1) = (p0, e0, q0, b0) by rw [HCK.out]; exact if_neg (fun hh => hh.2.elim h6 h7))
            have b7 : decide (e0 < u1) = false := decide_eq_false h7
            go_wp2_with fail
            have HC0 := hc0
            have HC1 := hc1
            go_region_held3 (fun w' => w'.cell? ⟨gj, 0, none⟩ = some (.pointer (some ⟨g, 0, none⟩)) ∧ w'.cell? ⟨gj, 1, none⟩ = some (.int .i64 j.slot)) (first | exact ⟨hc0, hc1⟩ | exact ⟨HC0, HC1⟩)
              (first
                | (go_at_call 38; refine (RD.out _ (disk_drewN HD.out 1)).mono ?_; rintro e w2 ⟨v, rfl, hR2, hB2⟩; obtain ⟨A3, c3, rfl, hc3, hC3⟩ := Kd.R_reads hR2; have HC3 := Aside0.mk hC3; have HB2 := Aside0.mk (below_step ((Below.refl wr.heap.size wr).drew) hB2); clear hc0 hc1; obtain ⟨hc0, hc1, -⟩ := jr_cells (jr_below HJ.out HB2.out); clear hR2 hB2 hC3 RD)
                | (go_at_call 37; refine (UN.out A3 c3 w2 HC3.out hc3).mono ?_; rintro e w3 ⟨v3, rfl, hR3, hB3⟩; have HR3 := Aside0.mk hR3; have HB3 := Aside0.mk (below_step HB2.out hB3); clear hc0 hc1 HC3; obtain ⟨hc0, hc1, hc2, hc3', hc4, -, -, -⟩ := jr_cells (jr_below HJ.out HB3.out); have hf2 := jr_frozen (jr_below HJ.out HB3.out) 2; have hf3 := jr_frozen (jr_below HJ.out HB3.out) 3; have hf4 := jr_frozen (jr_below HJ.out HB3.out) 4; clear hR3 hB3 UN))
            have HJ3 := Aside0.mk (jr_below HJ.out HB3.out)
            have HD3 := Aside0.mk (disk_below HD.out HB3.out)
            have HK3 := Aside0.mk (HK.out.trans (KeepJ.of_below HB3.out))
            have HV3 := Aside0.mk (Kd.R_below HV.out HB3.out)
            have HR4 := Aside0.mk (Kd.R_lower HR3.out (show w.heap.size ≤ w2.heap.size from Nat.le_trans HK.out.size HB2.out.size))
            clear HJ HD HK HV HB2 HB3 HR3 hwa hwb hwc hz1 hz2
            go_wp2
            go_roundw
            case rel => exact ⟨k + 1, hlt, by go_num, ⟨by rw [HC.out]; exact HV3.out⟩, ⟨by rw [HC.out]; exact HJ3.out⟩, HD3, HK3⟩
            case measure => simp [intOf]; omega
      · have HC := Aside0.mk (show ckF s sl j (k + 1) = (p0, e0, q0, b0) by rw [HCK.out]; exact if_neg (fun hh => h5 hh.1))
        have b5 : (u5 == 0) = false := by simpa using h5
        go_wp2_with fail
        have HC0 := hc0
        have HC1 := hc1
        go_region_held3 (fun w' => w'.cell? ⟨gj, 0, none⟩ = some (.pointer (some ⟨g, 0, none⟩)) ∧ w'.cell? ⟨gj, 1, none⟩ = some (.int .i64 j.slot)) (first | exact ⟨hc0, hc1⟩ | exact ⟨HC0, HC1⟩)
          (first
            | (go_at_call 38; refine (RD.out _ (disk_drewN HD.out 1)).mono ?_; rintro e w2 ⟨v, rfl, hR2, hB2⟩; obtain ⟨A3, c3, rfl, hc3, hC3⟩ := Kd.R_reads hR2; have HC3 := Aside0.mk hC3; have HB2 := Aside0.mk (below_step ((Below.refl wr.heap.size wr).drew) hB2); clear hc0 hc1; obtain ⟨hc0, hc1, -⟩ := jr_cells (jr_below HJ.out HB2.out); clear hR2 hB2 hC3 RD)
            | (go_at_call 37; refine (UN.out A3 c3 w2 HC3.out hc3).mono ?_; rintro e w3 ⟨v3, rfl, hR3, hB3⟩; have HR3 := Aside0.mk hR3; have HB3 := Aside0.mk (below_step HB2.out hB3); clear hc0 hc1 HC3; obtain ⟨hc0, hc1, hc2, hc3', hc4, -, -, -⟩ := jr_cells (jr_below HJ.out HB3.out); have hf2 := jr_frozen (jr_below HJ.out HB3.out) 2; have hf3 := jr_frozen (jr_below HJ.out HB3.out) 3; have hf4 := jr_frozen (jr_below HJ.out HB3.out) 4; clear hR3 hB3 UN))
        have HJ3 := Aside0.mk (jr_below HJ.out HB3.out)
        have HD3 := Aside0.mk (disk_below HD.out HB3.out)
        have HK3 := Aside0.mk (HK.out.trans (KeepJ.of_below HB3.out))
        have HV3 := Aside0.mk (Kd.R_below HV.out HB3.out)
        have HR4 := Aside0.mk (Kd.R_lower HR3.out (show w.heap.size ≤ w2.heap.size from Nat.le_trans HK.out.size HB2.out.size))
        clear HJ HD HK HV HB2 HB3 HR3 hwa hwb hwc hz1 hz2
        go_wp2
        go_roundw
        case rel => exact ⟨k + 1, hlt, by go_num, ⟨by rw [HC.out]; exact HV3.out⟩, ⟨by rw [HC.out]; exact HJ3.out⟩, HD3, HK3⟩
        case measure => simp [intOf]; omega
    · obtain rfl : k = 2 := by omega
      go_wp2
      go_ret
      exact ⟨_, rfl, HV.out, HJ.out, HD.out, HK.out⟩
end Go.Proofs.Ytglpelhbncdkmaa.XJour
