/-
  prebendlaw05.does by its walk: an act on both disks.
-/
import Derived.Laws.CopyOwn
import Derived.ArgAppend
import Derived.Below
import Derived.BigQuiet
import Derived.Deep.AppendLies
import Derived.Deep.CutBlock
import Derived.Deep.DeepCutAuto
import Derived.Deep.Draws
import Derived.Deep.LoopGhost
import Derived.Deep.OwnRows
import Derived.Deep.QuietTactic
import Derived.Deep.RegionHeld3
import Derived.Deep.WholeRow
import Derived.KernelRfl
import Derived.Laws.BitsLemmas
import Derived.Laws.BytesArg
import Derived.Laws.IdiomCopy
import Derived.Laws.MakeOwn
import Derived.Laws.OwnMore
import Derived.Laws.Rows
import Derived.Laws.Slices
import Derived.Lib.AppendStr
import Derived.Lib.ConvBytes
import Derived.Lib.Hide
import Derived.Maps.AppendAt
import Derived.OrdersHeld
import Derived.Outline
import Derived.OwnWalk
import Derived.RowKit
import Derived.RowKit3
import Derived.Tactics
import Derived.WalkKit
import Derived.WideLaws
import Derived.Test.YtmpiljfpgfhljaaProg
import Derived.Test.YtmpiljfpgfhljaaWApart
import Derived.Test.YtmpiljfpgfhljaaWArr
import Derived.Test.YtmpiljfpgfhljaaWAt
import Derived.Test.YtmpiljfpgfhljaaWEqStruct
import Derived.Test.YtmpiljfpgfhljaaWFoot
import Derived.Test.YtmpiljfpgfhljaaWFootNe
import Derived.Test.YtmpiljfpgfhljaaWFour
import Derived.Test.YtmpiljfpgfhljaaWGuard
import Derived.Test.YtmpiljfpgfhljaaWInv
import Derived.Test.YtmpiljfpgfhljaaWInvWords
import Derived.Test.YtmpiljfpgfhljaaWKept
import Derived.Test.YtmpiljfpgfhljaaWLast
import Derived.Test.YtmpiljfpgfhljaaWMore
import Derived.Test.YtmpiljfpgfhljaaWN
import Derived.Test.YtmpiljfpgfhljaaWNEv
import Derived.Test.YtmpiljfpgfhljaaWQPut
import Derived.Test.YtmpiljfpgfhljaaWRepsOne
import Derived.Test.YtmpiljfpgfhljaaWShare
import Derived.Test.YtmpiljfpgfhljaaWTab
import Derived.Test.YtmpiljfpgfhljaaWWords
import Derived.Test.YtmpiljfpgfhljaaWZeros
import Derived.Test.YtmpiljfpgfhljaaXSlices

import Derived.Test.YtmpiljfpgfhljaaXRefP
namespace Go.Proofs.Ytmpiljfpgfhljaa.XRefD
open Go.RowKit Go.Proofs.YtmpiljfpgfhljaaW.PrintWords Go.Proofs.YtmpiljfpgfhljaaW.PrintLast Go.Proofs.YtmpiljfpgfhljaaW.PrintMore XCm XDisk
open QDiskTorn (prebendlaw05_made.f prebendlaw05_made.calls)
set_option linter.unusedVariables false
set_option linter.unusedSimpArgs false
noncomputable def doesT := rtab .any (opsOf Try.f20 12)
/-- What an act leaves. -/
def After (base g g2 n : Nat) (w0 : World) (e : Ending) (w' : World) : Prop := e = .returned (.bool true) ∧ ∃ s r, DiskAt base w' g s ∧ RefAt base w' g2 r ∧ Sim s r (n + 1) ∧ Below base w0 w'
theorem sim_in {s : St} {r : Rf} {n : Nat} (h : Sim s r n) : InR s := by
  intro x hx
  rw [h.cache] at hx
  have := cache_mem (fun x => (0 ≤ x.1 ∧ x.1 < (r.good.length : Nat)) ∧ x.2.length = 32) r.log h.log x hx
  rw [h.good]
  exact this.1
theorem sim_rin {s : St} {r : Rf} {n : Nat} (h : Sim s r n) : rInR r := fun x hx => (h.log x hx).1
theorem sim_fmax {s : St} {r : Rf} {n : Nat} (h : Sim s r n) : s.fuse ≤ 9223372036854775807 := by
  have := h.fmax
  rw [h.fuse]
  unfold mx
  omega
theorem sim_clen {s : St} {r : Rf} {n : Nat} (h : Sim s r n) : s.cache.length ≤ n := by
  rw [sim_count h]
  exact Nat.le_trans (order_len _) h.len
theorem keepD_act {base : Nat} {w w' : World} (k : KeepD base w w') {q : Nat} {cells : Array Value} (h : w.heap[q]? = some (.cells cells 28 (0, 0))) : w'.heap[q]? = some (.cells cells 28 (0, 0)) :=
  (k.block q (blk_lt h) (.inr fun c t ht => by
    rw [h] at ht
    injection ht with ht
    injection ht with _ e _
    rw [← e]
    unfold dT
    decide)).trans h
theorem keepR_act {base : Nat} {w w' : World} (k : KeepR base w w') {q : Nat} {cells : Array Value} (h : w.heap[q]? = some (.cells cells 28 (0, 0))) : w'.heap[q]? = some (.cells cells 28 (0, 0)) :=
  (k.block q (blk_lt h) (.inr fun c t ht => by
    rw [h] at ht
    injection ht with ht
    injection ht with _ e _
    rw [← e]
    unfold rT
    decide)).trans h
theorem ref_cell2 {base g : Nat} {s : Rf} {w : World} (h : RefAt base w g s) : (∃ z, w.cell? ⟨g, 2, none⟩ = some z) ∧ w.frozen? ⟨g, 2, none⟩ = false := by
  obtain ⟨_, _, k1, -, -, -⟩ := h
  exact ⟨⟨_, by rw [blk_cell k1]; rfl⟩, blk_frozen k1 _⟩
theorem act_cells {w : World} {q : Nat} {d a c k u : Int} (h : w.heap[q]? = some (.cells #[.int .u8 d, .int .i64 a, .int .u8 c, .int .i64 k, .int .i64 u] 28 (0, 0))) :
    w.cell? ⟨q, 0, none⟩ = some (.int .u8 d) ∧ w.cell? ⟨q, 1, none⟩ = some (.int .i64 a) ∧ w.cell? ⟨q, 2, none⟩ = some (.int .u8 c) ∧ w.cell? ⟨q, 3, none⟩ = some (.int .i64 k) ∧ w.cell? ⟨q, 4, none⟩ = some (.int .i64 u) := by
  refine ⟨?_, ?_, ?_, ?_, ?_⟩ <;> (rw [blk_cell h]; rfl)
theorem made_f2 (d a c k u : Int) (hc : 0 ≤ c ∧ c < 256) : ∃ r, prebendlaw05_made.f 40 d a c k u = some r ∧ r.length ≤ 140737488355328 := by
  have e1 : Int.tmod c 64 = c % 64 := Int.tmod_eq_emod_of_nonneg hc.1
  have e2 : Int.tmod c 32 = c % 32 := Int.tmod_eq_emod_of_nonneg hc.1
  have h1 : 0 ≤ c % 64 ∧ c % 64 < 64 := by omega
  have h2 : 0 ≤ c % 32 ∧ c % 32 < 32 := by omega
  have w1 : wrap64 (c % 64) = c % 64 := by unfold wrap64; omega
  have w2 : wrap64 (c % 32) = c % 32 := by unfold wrap64; omega
  unfold prebendlaw05_made.f
  rw [e1, e2, w1, w2, sector_rep, Option.bind_some]
  split
  · rw [if_pos h1.1, if_pos (by omega)]; exact ⟨_, rfl, by rw [List.length_replicate]; omega⟩
  · rw [if_pos h2.1, if_pos (by rw [List.length_replicate]; exact h2.2)]; exact ⟨_, rfl, by rw [List.length_set, List.length_replicate]; decide⟩
theorem does_walk (base g g2 n : Nat) (s : St) (r : Rf) (d a c k u : Int) (w0 w : World) (hD : DiskAt base w g s) (hR : RefAt base w g2 r) (hS : Sim s r n) (hn : n ≤ 60) (hB : Below base w0 w) (hd : 0 ≤ d ∧ d < 256) (hc : 0 ≤ c ∧ c < 256) (hk : k ≤ 9223372036854775807) :
    Calls Try.prog 20 #[.pointer (some ⟨g, 0, none⟩), .pointer (some ⟨g2, 0, none⟩), .agg #[.int .u8 d, .int .i64 a, .int .u8 c, .int .i64 k, .int .i64 u]] w (After base g g2 n w0) := by
  obtain ⟨w1, hw1⟩ : ∃ z, w.alloc (.cells #[.int .u8 d, .int .i64 a, .int .u8 c, .int .i64 k, .int .i64 u] 28) = z := ⟨_, rfl⟩
  have k1 : w1.heap[w.heap.size]? = some (.cells #[.int .u8 d, .int .i64 a, .int .u8 c, .int .i64 k, .int .i64 u] 28 (0, 0)) := by rw [← hw1]; exact blk_new w _
  have b1 : Below w.heap.size w w1 := by rw [← hw1]; exact Below.alloc (Below.refl _ _) (Nat.le_refl _) _
  have hbase : base ≤ w1.heap.size := by
    obtain ⟨_, _, h1, h2, _⟩ := hD
    have := blk_lt h1
    have := b1.size
    omega
  have HW := Aside0.mk hw1
  have HK1 := Aside0.mk k1
  have HD1 := Aside0.mk (disk_below hD b1)
  have HR1 := Aside0.mk (ref_below hR b1)
  have HB1 := Aside0.mk (hB.trans (b1.mono (by obtain ⟨_, _, h1, h2, _⟩ := hD; have := blk_lt h1; omega)))
  have HS := Aside0.mk hS
  have c0 : w1.cell? ⟨w.heap.size, 0, none⟩ = some (.int .u8 d) := by rw [blk_cell k1]; rfl
  have c1 : w1.cell? ⟨w.heap.size, 1, none⟩ = some (.int .i64 a) := by rw [blk_cell k1]; rfl
  have c2 : w1.cell? ⟨w.heap.size, 2, none⟩ = some (.int .u8 c) := by rw [blk_cell k1]; rfl
  have c3 : w1.cell? ⟨w.heap.size, 3, none⟩ = some (.int .i64 k) := by rw [blk_cell k1]; rfl
  have c4 : w1.cell? ⟨w.heap.size, 4, none⟩ = some (.int .i64 u) := by rw [blk_cell k1]; rfl
  obtain ⟨b, hb, hbl⟩ := made_f2 d a c k u hc
  have HMADE := Aside0.mk hb
  clear hD hR hS hB hb hw1 k1 b1
  obtain ⟨q, hq⟩ : ∃ q, d % 8 = q := ⟨_, rfl⟩
  have hf := sim_fmax HS.out
  have hrf := HS.out.fmax
  have hcl := sim_clen HS.out
  have hll := HS.out.len
  by_cases q0 : q = 0
  · subst q0
    have SF := sim_flush HS.out
    have FW := Aside0.mk (flush_any base g s w1 HD1.out hf (sim_in HS.out))
    have RW := Aside0.mk (fun w2 (h : RefAt base w2 g2 r) => rflush_walk base g2 r w2 h hrf (sim_rin HS.out))
    rw [SF.1] at FW
    have S2 := Aside0.mk SF.2
    clear SF
    obtain ⟨er, her⟩ : ∃ z, (rFlush r).1 = z := ⟨_, rfl⟩
    rw [her] at FW RW
    clear her
    go_enter Try.func20, Try.ntmps20
    go_upto_region 3 with fail
    rw [HW.out]
    go_wp2_with (first
      | (go_at_call 14; refine FW.out.mono ?_; rintro e w2 ⟨rfl, hD2, hK2⟩; have HD2 := Aside0.mk hD2; have HB2 := Aside0.mk (below_keep HB1.out hbase hK2); have HR2 := Aside0.mk (ref_keepD HR1.out hK2); have HZ2 := Aside0.mk (Nat.le_trans hbase hK2.size); clear hD2 hK2)
      | (go_at_call 37; refine (RW.out _ HR2.out).mono ?_; rintro e w3 ⟨rfl, hR3, hK3⟩; have HR3 := Aside0.mk hR3; have HB3 := Aside0.mk (KeepR.below HB2.out HZ2.out hK3); have HD3 := Aside0.mk (disk_keepR HD2.out hK3); clear hR3 hK3))
    go_ret
    exact ⟨rfl, _, _, HD3.out, HR3.out, S2.out, HB3.out⟩
  by_cases q1 : q = 1
  · subst q1
    have S2 := Aside0.mk (sim_crash HS.out k a u)
    have CW := Aside0.mk (crash_walk base g s k a u w1 HD1.out (sim_in HS.out))
    have RW := Aside0.mk (fun w2 (h : RefAt base w2 g2 r) (hb : base ≤ w2.heap.size) => rcrash_walk base g2 r k a u w2 h (sim_rin HS.out) (by omega) hb HS.out.g32 (fun x hx => (HS.out.log x hx).2))
    go_enter Try.func20, Try.ntmps20
    go_upto_region 5 with fail
    rw [HW.out]
    go_wp2_with (first
      | (go_at_call 17; refine CW.out.mono ?_; rintro e w2 ⟨rfl, hD2, hK2⟩; have k2 := keepD_act hK2 HK1.out; have HD2 := Aside0.mk hD2; have HB2 := Aside0.mk (below_keep HB1.out hbase hK2); have HR2 := Aside0.mk (ref_keepD HR1.out hK2); have HZ2 := Aside0.mk (Nat.le_trans hbase hK2.size); have d1 : w2.cell? ⟨w.heap.size, 1, none⟩ = some (.int .i64 a) := (by rw [blk_cell k2]; rfl); have d3 : w2.cell? ⟨w.heap.size, 3, none⟩ = some (.int .i64 k) := (by rw [blk_cell k2]; rfl); have d4 : w2.cell? ⟨w.heap.size, 4, none⟩ = some (.int .i64 u) := (by rw [blk_cell k2]; rfl); clear hD2 hK2 k2)
      | (go_at_call 38; refine (RW.out _ HR2.out HZ2.out).mono ?_; rintro e w3 ⟨rfl, hR3, hK3⟩; have HR3 := Aside0.mk hR3; have HB3 := Aside0.mk (KeepR.below HB2.out HZ2.out hK3); have HD3 := Aside0.mk (disk_keepR HD2.out hK3); clear hR3 hK3))
    go_ret
    exact ⟨rfl, _, _, HD3.out, HR3.out, S2.out, HB3.out⟩
  by_cases q2 : q = 2
  · subst q2
    have S2 := Aside0.mk (sim_fuse HS.out k hk)
    have CW := Aside0.mk (fuse_walk base g s k w1 HD1.out)
    go_enter Try.func20, Try.ntmps20
    go_upto_region 9 with fail
    rw [HW.out]
    go_wp2_with (first
      | (go_at_call 22; refine CW.out.mono ?_; rintro e w2 ⟨rfl, hD2, hK2⟩; have k2 := keepD_act hK2 HK1.out; have HD2 := Aside0.mk hD2; have HB2 := Aside0.mk (below_keep HB1.out hbase hK2); have HR2 := Aside0.mk (ref_keepD HR1.out hK2); have HZ2 := Aside0.mk (Nat.le_trans hbase hK2.size); have d3 : w2.cell? ⟨w.heap.size, 3, none⟩ = some (.int .i64 k) := (by rw [blk_cell k2]; rfl); have HF := Aside0.mk (ref_fuse HR2.out k); obtain ⟨⟨z1, e1⟩, e2⟩ := ref_cell2 HR2.out; clear hD2 hK2 k2))
    go_ret
    exact ⟨rfl, _, _, disk_keepR HD2.out HF.out.2, HF.out.1, S2.out, KeepR.below HB2.out HZ2.out HF.out.2⟩
  have SW := sim_write HS.out a b
  have S2 := Aside0.mk SW.2
  have b0 : (q == 0) = false := by simpa using q0
  have b1 : (q == 1) = false := by simpa using q1
  have b2 : (q == 2) = false := by simpa using q2
  have WW := Aside0.mk (fun A c' w2 (h : DiskAt base w2 g s) (hz : base ≤ w2.heap.size) hsrc => write_walk base g s a A c' b w2 h hf (by omega) hz hsrc)
  have RW := Aside0.mk (fun A c' w2 (h : RefAt base w2 g2 r) (hz : base ≤ w2.heap.size) hsrc => rwrite_walk base g2 r a A c' b w2 h hrf (by omega) hbl hz hsrc)
  rw [SW.1] at WW
  obtain ⟨er, her⟩ : ∃ z, (rWrite r a b).1 = z := ⟨_, rfl⟩
  rw [her] at WW RW
  obtain ⟨s3, hs3⟩ : ∃ z, (Write s a b).2 = z := ⟨_, rfl⟩
  obtain ⟨r3, hr3⟩ : ∃ z, (rWrite r a b).2 = z := ⟨_, rfl⟩
  rw [hs3] at WW S2
  rw [hr3] at RW S2
  clear her hs3 hr3 SW q0 q1 q2
  go_enter Try.func20, Try.ntmps20
  go_upto_region 12 with fail
  rw [HW.out]
  have HZ1 := Aside0.mk hbase
  clear hbase hcl hll hf hrf hbl HW c0 c2 c3 c4
  have h0 := HK1.out
  refine sta 14 (fun w' => w'.cell? ⟨w.heap.size, 0, none⟩ = some (.int .u8 d) ∧ w'.cell? ⟨w.heap.size, 1, none⟩ = some (.int .i64 a) ∧ w'.cell? ⟨w.heap.size, 2, none⟩ = some (.int .u8 c) ∧ w'.cell? ⟨w.heap.size, 3, none⟩ = some (.int .i64 k) ∧ w'.cell? ⟨w.heap.size, 4, none⟩ = some (.int .i64 u)) [] doesT (act_cells (w := w1.drew) h0) (fun hH HT_ HW_ => ?_)
  have HK1 := Aside0.mk (show w1.drew.heap[w.heap.size]? = _ from h0)
  have HD1 := Aside0.mk (disk_drew HD1.out)
  have HR1 := Aside0.mk (ref_drew HR1.out)
  have HB1 := Aside0.mk (below_drew1 HB1.out)
  have HZ1 := Aside0.mk (show base ≤ w1.drew.heap.size from HZ1.out)
  clear h0
  generalize w1.drew = w2 at *
  refine pu 0 46 (tb 14 1) HT_ ?_
  refine pu 1 47 (tb 14 3) HT_ ?_
  refine tk 2 48 (tb 14 7) HT_ HW_ hH ?_
  refine tk 3 49 (tb 14 15) HT_ HW_ hH ?_
  refine pu 6 52 (tb 14 79) HT_ ?_
  refine pu 7 53 (tb 14 207) HT_ ?_
  refine tk 8 54 (tb 14 463) HT_ HW_ hH ?_
  refine tk 9 55 (tb 14 975) HT_ HW_ hH ?_
  refine cl 4 50 (tb 14 991) HT_ Try.func13 #[.agg #[.int .u8 d, .int .i64 a, .int .u8 c, .int .i64 k, .int .i64 u]] (fun K hK => ?_)
  refine (prebendlaw05_made.calls 40 _ _ _ _ _ b _ HMADE.out).mono ?_
  rintro e w3 ⟨v3, rfl, hR3, hB3⟩
  refine ⟨_, rfl, ?_⟩
  have k3 := (hB3.block _ (blk_lt HK1.out)).trans HK1.out
  refine nx hK (act_cells k3) (fun hH3 => ?_)
  clear hK K hH
  have HK3 := Aside0.mk k3
  have HD3 := Aside0.mk (disk_below HD1.out hB3)
  have HR3 := Aside0.mk (ref_below HR1.out hB3)
  have HZ3 := Aside0.mk (Nat.le_trans HZ1.out hB3.size)
  have HB3 := Aside0.mk (HB1.out.trans (hB3.mono HZ1.out))
  have HV3 := Aside0.mk hR3
  obtain ⟨A3, c3, rfl⟩ := Kd.R_slice hR3
  clear k3 hB3 hR3 HK1 HD1 HR1 HB1 HZ1
  refine cl 5 51 (tb 14 1023) HT_ Try.func12 #[.pointer (some ⟨g, 0, none⟩), .int .i64 a, .slice A3 b.length c3] (fun K hK => ?_)
  refine (WW.out _ _ w3 HD3.out HZ3.out (fun w' k' => (Kd.R_reads' (R_keepD HV3.out (by intro q hq; simp [Kd.int, Kd.scalar] at hq; unfold dT; omega) k')).2.2)).mono ?_
  rintro e w4 ⟨rfl, hD4, hK4⟩
  refine ⟨_, rfl, ?_⟩
  have k4 := keepD_act hK4 HK3.out
  refine nx hK (act_cells k4) (fun hH4 => ?_)
  clear hK K hH3
  have HK4 := Aside0.mk k4
  have HD4 := Aside0.mk hD4
  have HR4 := Aside0.mk (ref_keepD HR3.out hK4)
  have HZ4 := Aside0.mk (Nat.le_trans HZ3.out hK4.size)
  have HB4 := Aside0.mk (below_keep HB3.out HZ3.out hK4)
  clear k4 hD4 hK4 HK3 HD3 HR3 HZ3 HB3 HV3 WW
  refine cl 10 56 (tb 14 2047) HT_ Try.func13 #[.agg #[.int .u8 d, .int .i64 a, .int .u8 c, .int .i64 k, .int .i64 u]] (fun K hK => ?_)
  refine (prebendlaw05_made.calls 40 _ _ _ _ _ b _ HMADE.out).mono ?_
  rintro e w5 ⟨v5, rfl, hR5, hB5⟩
  refine ⟨_, rfl, ?_⟩
  have k5 := (hB5.block _ (blk_lt HK4.out)).trans HK4.out
  refine nx hK (act_cells k5) (fun hH5 => ?_)
  clear hK K hH4
  have HK5 := Aside0.mk k5
  have HD5 := Aside0.mk (disk_below HD4.out hB5)
  have HR5 := Aside0.mk (ref_below HR4.out hB5)
  have HZ5 := Aside0.mk (Nat.le_trans HZ4.out hB5.size)
  have HB5 := Aside0.mk (HB4.out.trans (hB5.mono HZ4.out))
  have HV5 := Aside0.mk hR5
  obtain ⟨A5, c5, rfl⟩ := Kd.R_slice hR5
  clear k5 hB5 hR5 HK4 HD4 HR4 HB4 HZ4
  refine cl 11 57 (tb 14 4095) HT_ Try.func39 #[.pointer (some ⟨g2, 0, none⟩), .int .i64 a, .slice A5 b.length c5] (fun K hK => ?_)
  refine (RW.out _ _ w5 HR5.out HZ5.out (fun w' k' => (Kd.R_reads' (R_keepR HV5.out (by intro q hq; simp [Kd.int, Kd.scalar] at hq; unfold rT; omega) k')).2.2)).mono ?_
  rintro e w6 ⟨rfl, hR6, hK6⟩
  refine ⟨_, rfl, ?_⟩
  have k6 := keepR_act hK6 HK5.out
  refine nx hK (act_cells k6) (fun hH6 => ?_)
  clear hK K hH5
  have HR6 := Aside0.mk hR6
  have HD6 := Aside0.mk (disk_keepR HD5.out hK6)
  have HB6 := Aside0.mk (KeepR.below HB5.out HZ5.out hK6)
  clear k6 hR6 hK6 HK5 HD5 HR5 HZ5 HB5 HV5 RW
  refine pu 12 58 (tb 14 8191) HT_ ?_
  refine pu 13 6 (tb 14 16383) HT_ ?_
  refine dn HT_ ?_
  clear HT_ HW_ hH6
  go_wp2
  go_ret
  exact ⟨by first | rfl | simp, _, _, HD6.out, HR6.out, S2.out, HB6.out⟩
end Go.Proofs.Ytmpiljfpgfhljaa.XRefD
