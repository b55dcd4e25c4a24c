/-
  The reference's disk by walks: Write.
-/
import Derived.Laws.CopyOwn
import Derived.ArgAppend
import Derived.Below
import Derived.BigQuiet
import Derived.Deep.AppendLies
import Derived.Deep.CutBlock
import Derived.Deep.DeepCutAuto
import Derived.Deep.Draws
import Derived.Deep.LoopGhost
import Derived.Deep.OwnRows
import Derived.Deep.QuietTactic
import Derived.Deep.RegionHeld3
import Derived.Deep.WholeRow
import Derived.KernelRfl
import Derived.Laws.BitsLemmas
import Derived.Laws.BytesArg
import Derived.Laws.IdiomCopy
import Derived.Laws.MakeOwn
import Derived.Laws.OwnMore
import Derived.Laws.Rows
import Derived.Laws.Slices
import Derived.Lib.AppendStr
import Derived.Lib.ConvBytes
import Derived.Lib.Hide
import Derived.Maps.AppendAt
import Derived.OrdersHeld
import Derived.Outline
import Derived.OwnWalk
import Derived.RowKit
import Derived.RowKit3
import Derived.Tactics
import Derived.WalkKit
import Derived.WideLaws
import Derived.Test.YtmpiljfpgfhljaaProg
import Derived.Test.YtmpiljfpgfhljaaWApart
import Derived.Test.YtmpiljfpgfhljaaWArr
import Derived.Test.YtmpiljfpgfhljaaWAt
import Derived.Test.YtmpiljfpgfhljaaWEqStruct
import Derived.Test.YtmpiljfpgfhljaaWFoot
import Derived.Test.YtmpiljfpgfhljaaWFootNe
import Derived.Test.YtmpiljfpgfhljaaWFour
import Derived.Test.YtmpiljfpgfhljaaWGuard
import Derived.Test.YtmpiljfpgfhljaaWInv
import Derived.Test.YtmpiljfpgfhljaaWInvWords
import Derived.Test.YtmpiljfpgfhljaaWKept
import Derived.Test.YtmpiljfpgfhljaaWLast
import Derived.Test.YtmpiljfpgfhljaaWMore
import Derived.Test.YtmpiljfpgfhljaaWN
import Derived.Test.YtmpiljfpgfhljaaWNEv
import Derived.Test.YtmpiljfpgfhljaaWQPut
import Derived.Test.YtmpiljfpgfhljaaWRepsOne
import Derived.Test.YtmpiljfpgfhljaaWShare
import Derived.Test.YtmpiljfpgfhljaaWTab
import Derived.Test.YtmpiljfpgfhljaaWWords
import Derived.Test.YtmpiljfpgfhljaaWZeros
import Derived.Test.YtmpiljfpgfhljaaXSlices

import Derived.StillTailTactics
import Derived.Test.YtmpiljfpgfhljaaXRefD2
namespace Go.Proofs.Ytmpiljfpgfhljaa.XRefD
open Go.RowKit Go.Proofs.YtmpiljfpgfhljaaW.PrintWords Go.Proofs.YtmpiljfpgfhljaaW.PrintLast Go.Proofs.YtmpiljfpgfhljaaW.PrintMore XCm XDisk
set_option linter.unusedVariables false
set_option linter.unusedSimpArgs false
theorem info_one : (Try.prog.info? 94).map (fun i => (i.zero, i.size, i.bytes)) = some (some (.agg #[.int .i64 0, .slice none 0 0]), oneK.sz, 32) := by kernel_rfl
noncomputable def rWriteT := rtab .any (opsOf Try.f39 5)
def rHas (s : Rf) (i : Int) : Bool := decide (0 ≤ i) && decide (i < (s.good.length : Nat))
def rWrite (s : Rf) (i : Int) (b : List Int) : Int × Rf :=
  if (rHas s i && decide (b.length = 32)) = true then (if (rBurn s).1 = true then (0, { (rBurn s).2 with log := s.log ++ [(i, b)] }) else (10, s)) else (1, s)
theorem rburn_same (s : Rf) : (rBurn s).2.good = s.good ∧ (rBurn s).2.log = s.log := by
  unfold rBurn
  split
  · exact ⟨rfl, rfl⟩
  · split <;> exact ⟨rfl, rfl⟩
theorem rburn_no {s : Rf} (h : (rBurn s).1 = false) : (rBurn s).2 = s := by
  unfold rBurn at h ⊢
  split at h
  · rename_i h0; rw [if_pos h0]
  · split at h <;> cases h
/-- One more was written. -/
theorem ref_log {base g : Nat} {s : Rf} {w w1 : World} {vg vc v1 : Value} {x : Int × List Int} (h1 : w.heap[g]? = some (.cells #[vg, vc, .int .i64 s.fuse] 45 (0, 0))) (h2 : base ≤ g) (h3 : rowK.R 29 w base (fun _ => True) vg s.good) (h4 : oneK.R 94 w base (fun _ => True) vc s.log)
    (hR : oneK.R 94 w1 base (fun _ => True) v1 (s.log ++ [x])) (hg : w.grownBy w1 vc.ownBlock) : RefAt base (w1.setCell ⟨g, 1, none⟩ v1) g { s with log := s.log ++ [x] } := by
  have hne : some g ≠ vc.ownBlock := Kd.R_ne h4 h1 (by decide)
  have k1 : w1.heap[g]? = some (.cells #[vg, vc, .int .i64 s.fuse] 45 (0, 0)) := (hg.block g (blk_lt h1) hne).trans h1
  have h3' : rowK.R 29 w1 base (fun _ => True) vg s.good := Kd.R_over h3 h4 (by intro q hq; simp [rowK, Kd.slice, Kd.int, Kd.scalar] at hq; omega) hg
  exact ⟨vg, v1, blk_set k1 1 _, h2, Kd.R_set h3' k1 (by intro q hq; simp [rowK, Kd.slice, Kd.int, Kd.scalar] at hq; omega) _ _, Kd.R_set hR k1 (by intro q hq; simp [oneK, rowK, Kd.pair, Kd.slice, Kd.int, Kd.scalar] at hq; omega) _ _⟩
set_option maxRecDepth 100000 in
set_option maxHeartbeats 1000000 in
theorem rwrite_walk (base g : Nat) (s : Rf) (i : Int) (A : Option Addr) (c : Nat) (b : List Int) (w : World) (h : RefAt base w g s) (hf : s.fuse ≤ 9223372036854775807) (hl : (s.log.length + 1) * 32 ≤ 140737488355328) (hbl : b.length ≤ 140737488355328) (hbase : base ≤ w.heap.size)
    (hsrc : ∀ w', KeepR base w w' → Kd.C (Kd.int .u8) w' A b.length b) :
    Calls Try.prog 39 #[.pointer (some ⟨g, 0, none⟩), .int .i64 i, .slice A b.length c] w fun e w' => e = .returned (.int .i64 (rWrite s i b).1) ∧ RefAt base w' g (rWrite s i b).2 ∧ KeepR base w w' := by
  have HH := Aside0.mk h
  have HS := Aside0.mk hsrc
  have BW := Aside0.mk (rburn_walk base g s w h hf)
  obtain ⟨vg, vc, h1, h2, h3, h4⟩ := h
  obtain ⟨A0, c0, rfl⟩ := Kd.R_slice h3
  have hc0 : w.cell? ⟨g, 0, none⟩ = some (.slice A0 s.good.length c0) := by rw [blk_cell h1]; rfl
  clear h1 h3 h4 hsrc
  have bad : (rHas s i && decide (b.length = 32)) = false → Calls Try.prog 39 #[.pointer (some ⟨g, 0, none⟩), .int .i64 i, .slice A b.length c] w fun e w' => e = .returned (.int .i64 1) ∧ RefAt base w' g s ∧ KeepR base w w' := by
    intro hb
    by_cases h0 : 0 ≤ i
    · have b0 : decide (i < 0) = false := decide_eq_false (by omega)
      by_cases h1 : i < (s.good.length : Int)
      · have b1 : decide ((s.good.length : Int) ≤ i) = false := decide_eq_false (by omega)
        have b2 : ((b.length : Int) != 32) = true := by
          unfold rHas at hb
          rw [decide_eq_true h0, decide_eq_true h1] at hb
          simp at hb
          simpa using by omega
        clear hb
        go_enter Try.func39, Try.ntmps39
        go_wp2
        go_ret
        exact ⟨rfl, HH.out, KeepR.refl _ _⟩
      · have b1 : decide ((s.good.length : Int) ≤ i) = true := decide_eq_true (by omega)
        clear hb
        go_enter Try.func39, Try.ntmps39
        go_wp2
        go_ret
        exact ⟨rfl, HH.out, KeepR.refl _ _⟩
    · have b0 : decide (i < 0) = true := decide_eq_true (by omega)
      clear hb
      go_enter Try.func39, Try.ntmps39
      go_wp2
      go_ret
      exact ⟨rfl, HH.out, KeepR.refl _ _⟩
  unfold rWrite
  by_cases hb : (rHas s i && decide (b.length = 32)) = true
  rotate_left
  · rw [if_neg hb]
    exact bad (by simpa using hb)
  rw [if_pos hb]
  clear bad
  have hb' := hb
  unfold rHas at hb'
  simp only [Bool.and_eq_true, decide_eq_true_eq] at hb'
  obtain ⟨⟨h0, h1⟩, h32⟩ := hb'
  have b0 : decide (i < 0) = false := decide_eq_false (by omega)
  have b1 : decide ((s.good.length : Int) ≤ i) = false := decide_eq_false (by omega)
  have b2 : ((b.length : Int) != 32) = false := by simpa using by omega
  have H32 := Aside0.mk h32
  clear hb h32
  obtain ⟨r, hr⟩ : ∃ r, rBurn s = r := ⟨_, rfl⟩
  have HNO := Aside0.mk (@rburn_no s)
  have HSM := Aside0.mk (rburn_same s)
  rw [hr] at BW HNO HSM ⊢
  obtain ⟨rb, s1⟩ := r
  clear hr
  cases rb with
  | false =>
    rw [if_neg (by simp)]
    obtain rfl : s1 = s := HNO.out rfl
    go_enter Try.func39, Try.ntmps39
    go_wp2_with (go_at_call 55; refine BW.out.mono ?_; rintro e w1 ⟨rfl, hR1, hK1⟩; have HR1 := Aside0.mk hR1; have HK1 := Aside0.mk hK1; clear hR1 hK1)
    go_ret
    exact ⟨rfl, HR1.out, HK1.out⟩
  | true =>
    rw [if_pos rfl]
    go_enter Try.func39, Try.ntmps39
    go_upto_region 5 with (go_at_call 55; refine BW.out.mono ?_; rintro e w1 ⟨rfl, hR1, hK1⟩; have HR1 := Aside0.mk hR1; have HK1 := Aside0.mk hK1; clear hR1 hK1)
    have HC1 := Aside0.mk (Kd.C_drew (HS.out w1 HK1.out))
    clear HS hc0 BW HNO HH
    obtain ⟨vg, vc, k1, k2, k3, k4⟩ := ref_drewN HR1.out 1
    change w1.drew.heap[g]? = _ at k1
    change rowK.R 29 w1.drew _ _ _ _ at k3
    change oneK.R 94 w1.drew _ _ _ _ at k4
    have HK2 := Aside0.mk (HK1.out.drewN 1)
    change Aside0 (KeepR base w w1.drew) at HK2
    refine sta 15 (fun w' => w'.cell? ⟨g, 1, none⟩ = some vc) [14] rWriteT (by show w1.drew.cell? _ = _; rw [blk_cell k1]; rfl) (fun hH HT_ HW_ => ?_)
    generalize w1.drew = w2 at *
    refine pu 0 26 (tb 15 1) HT_ ?_
    refine pu 1 27 (tb 15 3) HT_ ?_
    refine pu 2 28 (tb 15 7) HT_ ?_
    refine pu 3 29 (tb 15 15) HT_ ?_
    refine tk 4 30 (tb 15 31) HT_ HW_ hH ?_
    refine pu 5 31 (tb 15 63) HT_ ?_
    refine pu 7 33 (tb 15 191) HT_ ?_
    refine ev 6 32 (tb 15 255) HT_ ?_ (fun hH3 => ?_)
    · exact (World.cell?_alloc_lt _ _ _ (blk_lt k1)).trans hH
    refine on 8 34 (tb 15 511) HT_ (fun K hK => ?_)
    refine Kd.R_append_rows_step (Kd.int .u8) (Rr := (Kd.int .u8).K (w2.alloc (.cells #[] 5))) w2.heap.size (by rfl) (.tmp 32) (.tmp 33) 29 5 (.int .u8 0) 1 (by rfl) Try.underlying29 info_u8 rfl (by decide) (by decide) (.slice (some ⟨w2.heap.size, 0, none⟩) 0 0) [] b A b.length c (fun _ => True) (fun _ => False) rfl (by rfl) (R_empty _ _ _ _ (Nat.le_refl _)) (Kd.C_alloc HC1.out _) (fun _ _ h => h) (fun _ h => h.elim) (fun _ _ => trivial) (Below.alloc (Below.refl _ _) (Nat.le_refl _) _) (by simp) (by simp; omega) ?_
    intro v3 w3 hR3 hB3 _ _
    rw [List.nil_append] at hR3
    have hB2 : Below w2.heap.size w2 w3 := hB3
    refine nx hK ((hB2.cell (p := ⟨g, 1, none⟩) (blk_lt k1)).trans hH) (fun hH4 => ?_)
    clear hK K hH hH3
    have q1 := (hB2.block _ (blk_lt k1)).trans k1
    have q3 := Kd.R_below k3 hB2
    have q4 := Kd.R_below k4 hB2
    have HK3 := Aside0.mk (HK2.out.trans (KeepR.of_below hB2))
    have hsz : w2.heap.size ≤ w3.heap.size := hB2.size
    have hg2 : g < w2.heap.size := blk_lt k1
    have hbw : base ≤ w2.heap.size := by omega
    have hne3 : ∀ z, vc.ownBlock = some z → z < w2.heap.size := Kd.R_lt k4
    have HM3 := Aside0.mk (show oneK.M w3 base (fun z => w2.heap.size ≤ z) (i, b) [.int .i64 i, v3] from ⟨[.int .i64 i], [v3], rfl, rfl, v3, rfl, Kd.R_lower (Kd.R_mono (Kd.R_bound hR3) (fun z hz => hz.2.1)) hbw⟩)
    obtain ⟨A3, c3, rfl⟩ := Kd.R_slice hR3
    have Q1 := Aside0.mk q1
    have Q3 := Aside0.mk q3
    have Q4 := Aside0.mk q4
    clear k1 k3 k4 hR3 hB3 hB2 q1 q3 q4 HC1
    refine pu 9 35 (tb 15 1023) HT_ ?_
    refine ev 10 36 (tb 15 2047) HT_ ?_ (fun hH5 => ?_)
    · exact (World.cell?_alloc_lt _ _ _ (by show g < w3.heap.size; omega)).trans hH4
    refine on 11 37 (tb 15 4095) HT_ (fun K hK => ?_)
    refine Kd.R_append_step oneK (w0 := w3) base (by rfl) (.tmp 30) (.tmp 36) 43 94 (.agg #[.int .i64 0, .slice none 0 0]) 32 (by rfl) Try.underlying43 info_one rfl (by decide) (by decide) vc s1.log (i, b) [.int .i64 i, .slice A3 b.length c3] (fun _ => True) (fun z => w2.heap.size ≤ z) rfl (by rfl) HM3.out (fun z hz => ⟨trivial, fun e => by have := hne3 z e.symm; omega⟩) (fun _ _ => trivial) Q4.out (Below.refl _ _) (by omega) (by rw [HSM.out.2]; exact hl) ?_
    intro v5 w5 hR5 hB5 hG5 _
    have hne : some g ≠ vc.ownBlock := fun e => by have h_ := Kd.R_ne Q4.out Q1.out (by decide); exact h_ e
    have k5 := (hG5.block _ (by show g < w3.heap.size; omega) hne).trans Q1.out
    have c5 : w5.cell? ⟨g, 1, none⟩ = some vc := by rw [blk_cell k5]; rfl
    have f5 := blk_frozen (w := w5) k5 1
    have HR5 := Aside0.mk (ref_log (s := s1) Q1.out k2 Q3.out Q4.out hR5 hG5)
    have HK5 := Aside0.mk ((HK3.out.trans (KeepR.of_row Q4.out (by unfold rT; decide) hG5)).trans (KeepR.set_ k5 (by unfold rT; decide) k2 1 v5))
    obtain ⟨A5, d5, rfl⟩ := Kd.R_slice hR5
    simp only [List.length_append, List.length_cons, List.length_nil, Nat.zero_add] at HR5 HK5
    clear hR5 hB5 hG5 Q1 Q3 Q4 HM3 HK3 hH4 hH5 hne k5
    refine nx hK c5 (fun hH6 => ?_)
    clear hK K
    refine pu 12 38 (tb 15 8191) HT_ ?_
    refine pu 13 39 (tb 15 16383) HT_ ?_
    refine la 14 (tb 15 32767) HT_ (N := none) (fun K hK => ?_)
    go_simp
    refine hK.out _ _ ?_
    clear hK K HT_ HW_ hH6 c5 f5
    go_wp2
    go_ret
    have e5 : ({ s1 with log := s1.log ++ [(i, b)] } : Rf) = { s1 with log := s.log ++ [(i, b)] } := by rw [show s1.log = s.log from HSM.out.2]
    rw [e5] at HR5
    exact ⟨rfl, HR5.out, HK5.out⟩
end Go.Proofs.Ytmpiljfpgfhljaa.XRefD
