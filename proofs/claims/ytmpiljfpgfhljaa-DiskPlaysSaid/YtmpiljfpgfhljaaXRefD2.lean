/-
  The reference's disk by walks: New.
-/
import Derived.Laws.CopyOwn
import Derived.ArgAppend
import Derived.Below
import Derived.BigQuiet
import Derived.Deep.AppendLies
import Derived.Deep.CutBlock
import Derived.Deep.DeepCutAuto
import Derived.Deep.Draws
import Derived.Deep.LoopGhost
import Derived.Deep.OwnRows
import Derived.Deep.QuietTactic
import Derived.Deep.RegionHeld3
import Derived.Deep.WholeRow
import Derived.KernelRfl
import Derived.Laws.BitsLemmas
import Derived.Laws.BytesArg
import Derived.Laws.IdiomCopy
import Derived.Laws.MakeOwn
import Derived.Laws.OwnMore
import Derived.Laws.Rows
import Derived.Laws.Slices
import Derived.Lib.AppendStr
import Derived.Lib.ConvBytes
import Derived.Lib.Hide
import Derived.Maps.AppendAt
import Derived.OrdersHeld
import Derived.Outline
import Derived.OwnWalk
import Derived.RowKit
import Derived.RowKit3
import Derived.Tactics
import Derived.WalkKit
import Derived.WideLaws
import Derived.Test.YtmpiljfpgfhljaaProg
import Derived.Test.YtmpiljfpgfhljaaWApart
import Derived.Test.YtmpiljfpgfhljaaWArr
import Derived.Test.YtmpiljfpgfhljaaWAt
import Derived.Test.YtmpiljfpgfhljaaWEqStruct
import Derived.Test.YtmpiljfpgfhljaaWFoot
import Derived.Test.YtmpiljfpgfhljaaWFootNe
import Derived.Test.YtmpiljfpgfhljaaWFour
import Derived.Test.YtmpiljfpgfhljaaWGuard
import Derived.Test.YtmpiljfpgfhljaaWInv
import Derived.Test.YtmpiljfpgfhljaaWInvWords
import Derived.Test.YtmpiljfpgfhljaaWKept
import Derived.Test.YtmpiljfpgfhljaaWLast
import Derived.Test.YtmpiljfpgfhljaaWMore
import Derived.Test.YtmpiljfpgfhljaaWN
import Derived.Test.YtmpiljfpgfhljaaWNEv
import Derived.Test.YtmpiljfpgfhljaaWQPut
import Derived.Test.YtmpiljfpgfhljaaWRepsOne
import Derived.Test.YtmpiljfpgfhljaaWShare
import Derived.Test.YtmpiljfpgfhljaaWTab
import Derived.Test.YtmpiljfpgfhljaaWWords
import Derived.Test.YtmpiljfpgfhljaaWZeros
import Derived.Test.YtmpiljfpgfhljaaXSlices

import Derived.StillTailTactics
import Derived.Test.YtmpiljfpgfhljaaXRefD
namespace Go.Proofs.Ytmpiljfpgfhljaa.XRefD
open Go.RowKit Go.Proofs.YtmpiljfpgfhljaaW.PrintWords Go.Proofs.YtmpiljfpgfhljaaW.PrintLast Go.Proofs.YtmpiljfpgfhljaaW.PrintMore XCm XDisk
set_option linter.unusedVariables false
set_option linter.unusedSimpArgs false
def rfresh (n : Nat) : Rf := { good := List.replicate n (List.replicate 32 0), log := [], fuse := -1 }
theorem info_u8 : (Try.prog.info? 5).map (fun i => (i.zero, i.size, i.bytes)) = some (some (.int .u8 0), (Kd.int .u8).sz, 1) := by kernel_rfl
theorem info_row : (Try.prog.info? 29).map (fun i => (i.zero, i.size, i.bytes)) = some (some (.slice none 0 0), rowK.sz, 24) := by kernel_rfl
theorem wr64 (n : Int) (h1 : -9223372036854775808 ≤ n) (h2 : n ≤ 9223372036854775807) : IntKind.i64.wrap n = n := by rw [i64_w]; unfold wrap64; omega
noncomputable def rNewT := rtab .any (opsOf Try.f19 7)
/-- A row more is for good. -/
theorem ref_more {base g : Nat} {s : Rf} {w w1 : World} {vg vc v1 : Value} {x : List Int} (h1 : w.heap[g]? = some (.cells #[vg, vc, .int .i64 s.fuse] 45 (0, 0))) (h2 : base ≤ g) (h3 : rowK.R 29 w base (fun _ => True) vg s.good) (h4 : oneK.R 94 w base (fun _ => True) vc s.log)
    (hR : rowK.R 29 w1 base (fun _ => True) v1 (s.good ++ [x])) (hg : w.grownBy w1 vg.ownBlock) : RefAt base (w1.setCell ⟨g, 0, none⟩ v1) g { s with good := s.good ++ [x] } := by
  have hne : some g ≠ vg.ownBlock := Kd.R_ne h3 h1 (by decide)
  have k1 : w1.heap[g]? = some (.cells #[vg, vc, .int .i64 s.fuse] 45 (0, 0)) := (hg.block g (blk_lt h1) hne).trans h1
  have h4' : oneK.R 94 w1 base (fun _ => True) vc s.log := Kd.R_over h4 h3 (by intro q hq; simp [oneK, rowK, Kd.pair, Kd.slice, Kd.int, Kd.scalar] at hq; omega) hg
  exact ⟨v1, vc, blk_set k1 0 _, h2, Kd.R_set hR k1 (by intro q hq; simp [rowK, Kd.slice, Kd.int, Kd.scalar] at hq; omega) _ _, Kd.R_set h4' k1 (by intro q hq; simp [oneK, rowK, Kd.pair, Kd.slice, Kd.int, Kd.scalar] at hq; omega) _ _⟩
set_option maxRecDepth 100000 in
set_option maxHeartbeats 1000000 in
theorem rnew_walk (s : Int) (n : Nat) (hn : mx 0 (mn s 1024) = (n : Int)) (hs : -9223372036854775808 ≤ s) (w : World) :
    Calls Try.prog 19 #[.int .i64 s] w fun e w' => ∃ g, e = .returned (.pointer (some ⟨g, 0, none⟩)) ∧ RefAt w.heap.size w' g (rfresh n) ∧ Below w.heap.size w w' := by
  obtain ⟨w1, hw1⟩ : ∃ z, w.alloc (.cells #[.slice none 0 0, .slice none 0 0, .int .i64 (-1)] 45) = z := ⟨_, rfl⟩
  have hR0 : RefAt w.heap.size w1 w.heap.size (rfresh 0) := by rw [← hw1]; exact ⟨_, _, blk_new w _, Nat.le_refl _, Kd.R_nil _ _ _ _ _, Kd.R_nil _ _ _ _ _⟩
  have hB0 : Below w.heap.size w w1 := by rw [← hw1]; exact Below.alloc (Below.refl _ _) (Nat.le_refl _) _
  have HR0 := Aside0.mk hR0
  have HB0 := Aside0.mk hB0
  have HZ := Aside0.mk hw1
  clear hR0 hB0 hw1
  have key : ∀ m : Int, mx 0 m = (n : Int) → m ≤ 1024 → -9223372036854775808 ≤ m → (m = s ∧ s ≤ 1024 ∨ m = 1024 ∧ 1024 < s) → Calls Try.prog 19 #[.int .i64 s] w fun e w' => ∃ g, e = .returned (.pointer (some ⟨g, 0, none⟩)) ∧ RefAt w.heap.size w' g (rfresh n) ∧ Below w.heap.size w w' := by
    intro m hmn h1 h2 h3
    have HM := Aside0.mk hmn
    clear hmn hn
    rcases h3 with ⟨rfl, h4⟩ | ⟨rfl, h4⟩
    · have b4 : decide (1024 < m) = false := decide_eq_false (by omega)
      go_enter Try.func19, Try.ntmps19
      go_wp2
      rw [HZ.out]
      go_loopw [4] (fun v4 wr => ∃ k : Nat, (k : Int) ≤ mx 0 m ∧ v4 = .int .i64 k ∧ Aside0 (RefAt w.heap.size wr w.heap.size (rfresh k)) ∧ Aside0 (Below w.heap.size w wr)) (fun v4 _ => n - (intOf v4).toNat)
      case atStart => exact ⟨0, by unfold mx; omega, rfl, HR0, HB0⟩
      case round =>
        clear HR0 HB0 HZ
        obtain ⟨k, hk, rfl, HR, HB⟩ := hrel
        by_cases hlt : (k : Int) < m
        · have b5 : decide ((k : Int) < m) = true := decide_eq_true hlt
          have hk1 : ((k + 1 : Nat) : Int) ≤ mx 0 m := by unfold mx; omega
          have hmm : ((k + 1 : Nat) : Int) ≤ n := by rw [← HM.out]; exact hk1
          have wr1 : IntKind.i64.wrap ((k : Int) + 1) = (k : Int) + 1 := wr64 _ (by omega) (by omega)
          go_upto_region 7 with fail
          obtain ⟨vg, vc, k1, k2, k3, k4⟩ := ref_drewN HR.out 1
          have HB1 := Aside0.mk (below_drew1 HB.out)
          change wr.drew.heap[w.heap.size]? = _ at k1
          change rowK.R 29 wr.drew _ _ _ _ at k3
          change oneK.R 94 wr.drew _ _ _ _ at k4
          refine sta 11 (fun w' => w'.cell? ⟨w.heap.size, 0, none⟩ = some vg) [10] rNewT (by show wr.drew.cell? _ = _; rw [blk_cell k1]; rfl) (fun hH HT_ HW_ => ?_)
          generalize wr.drew = w2 at *
          refine pu 0 14 (tb 11 1) HT_ ?_
          refine pu 1 15 (tb 11 3) HT_ ?_
          refine pu 2 16 (tb 11 7) HT_ ?_
          refine pu 3 17 (tb 11 15) HT_ ?_
          refine tk 4 18 (tb 11 31) HT_ HW_ hH ?_
          refine on 5 19 (tb 11 63) HT_ (fun K hK => ?_)
          refine Kd.R_make_step (Kd.int .u8) w2.heap.size 5 (by rfl) (N := 19) rfl 29 _ _ rfl 32 rfl rfl Try.underlying29 (.int .u8 0) 1 info_u8 rfl (by decide) (by decide) 0 (ok := fun _ => True) (okp := fun _ => False) rfl (fun _ h => h.elim) trivial (by decide) (by decide) (Below.refl _ _) (Nat.le_refl _) ?_
          intro v3 w3 hR3 hB3 _ _
          refine nx hK ((hB3.cell (p := ⟨w.heap.size, 0, none⟩) (blk_lt k1)).trans hH) (fun hH3 => ?_)
          clear hK K hH
          have q1 := (hB3.block _ (blk_lt k1)).trans k1
          have q3 := Kd.R_below k3 hB3
          have q4 := Kd.R_below k4 hB3
          have hf := blk_frozen (w := w3) q1 0
          have HB3 := Aside0.mk (HB1.out.trans (hB3.mono HB1.out.size))
          have hsz : w2.heap.size ≤ w3.heap.size := hB3.size
          have hwz : w.heap.size < w3.heap.size := blk_lt q1
          have HR3 := Aside0.mk (Kd.R_lower hR3 HB1.out.size)
          have hr3 := Kd.R_newB hR3 k1
          have hne3 : ∀ z, vg.ownBlock = some z → z < w2.heap.size := Kd.R_lt k3
          have HM3 := Aside0.mk (show rowK.M w3 w.heap.size (fun z => w2.heap.size ≤ z) (List.replicate 32 0) [v3] from ⟨v3, rfl, Kd.R_lower (Kd.R_mono (Kd.R_bound hR3) (fun z hz => hz.2.1)) HB1.out.size⟩)
          obtain ⟨A3, c3, rfl⟩ := Kd.R_slice hR3
          clear k1 k3 k4 hR3 hB3 HB1 hr3 HR3
          have Q1 := Aside0.mk q1
          have Q3 := Aside0.mk q3
          have Q4 := Aside0.mk q4
          clear q1 q3 q4
          refine ev 6 20 (tb 11 127) HT_ ?_ (fun hH4 => ?_)
          · exact (World.cell?_alloc_lt _ _ _ hwz).trans hH3
          refine on 7 21 (tb 11 255) HT_ (fun K hK => ?_)
          refine Kd.R_append_step rowK w.heap.size (by rfl) (.tmp 18) (.tmp 20) 33 29 (.slice none 0 0) 24 (by rfl) Try.underlying33 info_row rfl (by decide) (by decide) vg (List.replicate k (List.replicate 32 0)) (List.replicate 32 0) [_] (fun _ => True) (fun z => w2.heap.size ≤ z) rfl (by rfl) HM3.out (fun z hz => ⟨trivial, fun e => by have := hne3 z e.symm; omega⟩) (fun _ _ => trivial) Q3.out HB3.out (Nat.le_of_lt hwz) (by rw [List.length_replicate]; omega) ?_
          intro v5 w5 hR5 hB5 hG5 _
          have hne : some w.heap.size ≠ vg.ownBlock := fun e => by have h_ := Kd.R_ne Q3.out Q1.out (by decide); exact h_ e
          have k5 := (hG5.block _ hwz hne).trans Q1.out
          have c5 : w5.cell? ⟨w.heap.size, 0, none⟩ = some vg := by rw [blk_cell k5]; rfl
          have f5 := blk_frozen (w := w5) k5 0
          have HR5 := Aside0.mk (ref_more (s := rfresh k) Q1.out (Nat.le_refl _) Q3.out Q4.out hR5 hG5)
          have HB5 := Aside0.mk (below_set (j := 0) (v := v5) hB5 (Nat.le_refl _))
          have e_ : ({ rfresh k with good := (rfresh k).good ++ [List.replicate 32 0] } : Rf) = rfresh (k + 1) := by unfold rfresh; rw [List.replicate_succ' (n := k)]
          rw [e_] at HR5
          obtain ⟨A5, d5, rfl⟩ := Kd.R_slice hR5
          simp only [List.length_append, List.length_replicate, List.length_cons, List.length_nil, Nat.zero_add] at HR5 HB5
          clear hR5 hB5 hG5 Q1 Q3 Q4 HM3 HB3 hH3 hne k5
          refine nx hK c5 (fun hH5 => ?_)
          clear hK K
          refine pu 8 22 (tb 11 511) HT_ ?_
          refine pu 9 23 (tb 11 1023) HT_ ?_
          refine la 10 (tb 11 2047) HT_ (N := none) (fun K hK => ?_)
          go_simp
          refine hK.out _ _ ?_
          clear hK K HT_ HW_ hH5 c5 f5
          go_wp2
          go_roundw
          case rel => exact ⟨k + 1, hk1, by go_num, HR5, HB5⟩
          case measure => simp [intOf]; omega
        · have b5 : decide ((k : Int) < m) = false := decide_eq_false hlt
          have hkn : k = n := by have := HM.out; unfold mx at *; omega
          subst hkn
          go_wp2
          go_ret
          exact ⟨_, rfl, HR.out, HB.out⟩
    · have b4 : decide (1024 < s) = true := decide_eq_true (by omega)
      clear h1 h2
      go_enter Try.func19, Try.ntmps19
      go_wp2
      rw [HZ.out]
      go_loopw [4] (fun v4 wr => ∃ k : Nat, (k : Int) ≤ mx 0 1024 ∧ v4 = .int .i64 k ∧ Aside0 (RefAt w.heap.size wr w.heap.size (rfresh k)) ∧ Aside0 (Below w.heap.size w wr)) (fun v4 _ => n - (intOf v4).toNat)
      case atStart => exact ⟨0, by unfold mx; omega, rfl, HR0, HB0⟩
      case round =>
        clear HR0 HB0 HZ
        obtain ⟨k, hk, rfl, HR, HB⟩ := hrel
        by_cases hlt : (k : Int) < 1024
        · have b5 : decide ((k : Int) < 1024) = true := decide_eq_true hlt
          have hk1 : ((k + 1 : Nat) : Int) ≤ mx 0 1024 := by unfold mx; omega
          have hmm : ((k + 1 : Nat) : Int) ≤ n := by rw [← HM.out]; exact hk1
          have wr1 : IntKind.i64.wrap ((k : Int) + 1) = (k : Int) + 1 := wr64 _ (by omega) (by omega)
          go_upto_region 7 with fail
          obtain ⟨vg, vc, k1, k2, k3, k4⟩ := ref_drewN HR.out 1
          have HB1 := Aside0.mk (below_drew1 HB.out)
          change wr.drew.heap[w.heap.size]? = _ at k1
          change rowK.R 29 wr.drew _ _ _ _ at k3
          change oneK.R 94 wr.drew _ _ _ _ at k4
          refine sta 11 (fun w' => w'.cell? ⟨w.heap.size, 0, none⟩ = some vg) [10] rNewT (by show wr.drew.cell? _ = _; rw [blk_cell k1]; rfl) (fun hH HT_ HW_ => ?_)
          generalize wr.drew = w2 at *
          refine pu 0 14 (tb 11 1) HT_ ?_
          refine pu 1 15 (tb 11 3) HT_ ?_
          refine pu 2 16 (tb 11 7) HT_ ?_
          refine pu 3 17 (tb 11 15) HT_ ?_
          refine tk 4 18 (tb 11 31) HT_ HW_ hH ?_
          refine on 5 19 (tb 11 63) HT_ (fun K hK => ?_)
          refine Kd.R_make_step (Kd.int .u8) w2.heap.size 5 (by rfl) (N := 19) rfl 29 _ _ rfl 32 rfl rfl Try.underlying29 (.int .u8 0) 1 info_u8 rfl (by decide) (by decide) 0 (ok := fun _ => True) (okp := fun _ => False) rfl (fun _ h => h.elim) trivial (by decide) (by decide) (Below.refl _ _) (Nat.le_refl _) ?_
          intro v3 w3 hR3 hB3 _ _
          refine nx hK ((hB3.cell (p := ⟨w.heap.size, 0, none⟩) (blk_lt k1)).trans hH) (fun hH3 => ?_)
          clear hK K hH
          have q1 := (hB3.block _ (blk_lt k1)).trans k1
          have q3 := Kd.R_below k3 hB3
          have q4 := Kd.R_below k4 hB3
          have hf := blk_frozen (w := w3) q1 0
          have HB3 := Aside0.mk (HB1.out.trans (hB3.mono HB1.out.size))
          have hsz : w2.heap.size ≤ w3.heap.size := hB3.size
          have hwz : w.heap.size < w3.heap.size := blk_lt q1
          have HR3 := Aside0.mk (Kd.R_lower hR3 HB1.out.size)
          have hr3 := Kd.R_newB hR3 k1
          have hne3 : ∀ z, vg.ownBlock = some z → z < w2.heap.size := Kd.R_lt k3
          have HM3 := Aside0.mk (show rowK.M w3 w.heap.size (fun z => w2.heap.size ≤ z) (List.replicate 32 0) [v3] from ⟨v3, rfl, Kd.R_lower (Kd.R_mono (Kd.R_bound hR3) (fun z hz => hz.2.1)) HB1.out.size⟩)
          obtain ⟨A3, c3, rfl⟩ := Kd.R_slice hR3
          clear k1 k3 k4 hR3 hB3 HB1 hr3 HR3
          have Q1 := Aside0.mk q1
          have Q3 := Aside0.mk q3
          have Q4 := Aside0.mk q4
          clear q1 q3 q4
          refine ev 6 20 (tb 11 127) HT_ ?_ (fun hH4 => ?_)
          · exact (World.cell?_alloc_lt _ _ _ hwz).trans hH3
          refine on 7 21 (tb 11 255) HT_ (fun K hK => ?_)
          refine Kd.R_append_step rowK w.heap.size (by rfl) (.tmp 18) (.tmp 20) 33 29 (.slice none 0 0) 24 (by rfl) Try.underlying33 info_row rfl (by decide) (by decide) vg (List.replicate k (List.replicate 32 0)) (List.replicate 32 0) [_] (fun _ => True) (fun z => w2.heap.size ≤ z) rfl (by rfl) HM3.out (fun z hz => ⟨trivial, fun e => by have := hne3 z e.symm; omega⟩) (fun _ _ => trivial) Q3.out HB3.out (Nat.le_of_lt hwz) (by rw [List.length_replicate]; omega) ?_
          intro v5 w5 hR5 hB5 hG5 _
          have hne : some w.heap.size ≠ vg.ownBlock := fun e => by have h_ := Kd.R_ne Q3.out Q1.out (by decide); exact h_ e
          have k5 := (hG5.block _ hwz hne).trans Q1.out
          have c5 : w5.cell? ⟨w.heap.size, 0, none⟩ = some vg := by rw [blk_cell k5]; rfl
          have f5 := blk_frozen (w := w5) k5 0
          have HR5 := Aside0.mk (ref_more (s := rfresh k) Q1.out (Nat.le_refl _) Q3.out Q4.out hR5 hG5)
          have HB5 := Aside0.mk (below_set (j := 0) (v := v5) hB5 (Nat.le_refl _))
          have e_ : ({ rfresh k with good := (rfresh k).good ++ [List.replicate 32 0] } : Rf) = rfresh (k + 1) := by unfold rfresh; rw [List.replicate_succ' (n := k)]
          rw [e_] at HR5
          obtain ⟨A5, d5, rfl⟩ := Kd.R_slice hR5
          simp only [List.length_append, List.length_replicate, List.length_cons, List.length_nil, Nat.zero_add] at HR5 HB5
          clear hR5 hB5 hG5 Q1 Q3 Q4 HM3 HB3 hH3 hne k5
          refine nx hK c5 (fun hH5 => ?_)
          clear hK K
          refine pu 8 22 (tb 11 511) HT_ ?_
          refine pu 9 23 (tb 11 1023) HT_ ?_
          refine la 10 (tb 11 2047) HT_ (N := none) (fun K hK => ?_)
          go_simp
          refine hK.out _ _ ?_
          clear hK K HT_ HW_ hH5 c5 f5
          go_wp2
          go_roundw
          case rel => exact ⟨k + 1, hk1, by go_num, HR5, HB5⟩
          case measure => simp [intOf]; omega
        · have b5 : decide ((k : Int) < 1024) = false := decide_eq_false hlt
          have hkn : k = n := by have := HM.out; unfold mx at *; omega
          subst hkn
          go_wp2
          go_ret
          exact ⟨_, rfl, HR.out, HB.out⟩
  by_cases h4 : 1024 < s
  · exact key 1024 (by rw [← hn]; unfold mx mn; omega) (by decide) (by decide) (.inr ⟨rfl, h4⟩)
  · exact key s (by rw [← hn]; unfold mx mn; omega) (by omega) hs (.inl ⟨rfl, by omega⟩)
end Go.Proofs.Ytmpiljfpgfhljaa.XRefD
