/-
  package disk by walks, second part: Write where it writes, Flush, Crash, New.
-/
import Derived.Laws.CopyOwn
import Derived.ArgAppend
import Derived.Below
import Derived.BigQuiet
import Derived.Deep.AppendLies
import Derived.Deep.CutBlock
import Derived.Deep.DeepCutAuto
import Derived.Deep.Draws
import Derived.Deep.LoopGhost
import Derived.Deep.OwnRows
import Derived.Deep.QuietTactic
import Derived.Deep.RegionHeld3
import Derived.Deep.WholeRow
import Derived.KernelRfl
import Derived.Laws.BitsLemmas
import Derived.Laws.BytesArg
import Derived.Laws.IdiomCopy
import Derived.Laws.MakeOwn
import Derived.Laws.OwnMore
import Derived.Laws.Rows
import Derived.Laws.Slices
import Derived.Lib.AppendStr
import Derived.Lib.ConvBytes
import Derived.Lib.Hide
import Derived.Maps.AppendAt
import Derived.OrdersHeld
import Derived.Outline
import Derived.OwnWalk
import Derived.RowKit
import Derived.RowKit3
import Derived.Tactics
import Derived.WalkKit
import Derived.WideLaws
import Derived.Test.YtmpiljfpgfhljaaProg
import Derived.Test.YtmpiljfpgfhljaaWApart
import Derived.Test.YtmpiljfpgfhljaaWArr
import Derived.Test.YtmpiljfpgfhljaaWAt
import Derived.Test.YtmpiljfpgfhljaaWEqStruct
import Derived.Test.YtmpiljfpgfhljaaWFoot
import Derived.Test.YtmpiljfpgfhljaaWFootNe
import Derived.Test.YtmpiljfpgfhljaaWFour
import Derived.Test.YtmpiljfpgfhljaaWGuard
import Derived.Test.YtmpiljfpgfhljaaWInv
import Derived.Test.YtmpiljfpgfhljaaWInvWords
import Derived.Test.YtmpiljfpgfhljaaWKept
import Derived.Test.YtmpiljfpgfhljaaWLast
import Derived.Test.YtmpiljfpgfhljaaWMore
import Derived.Test.YtmpiljfpgfhljaaWN
import Derived.Test.YtmpiljfpgfhljaaWNEv
import Derived.Test.YtmpiljfpgfhljaaWQPut
import Derived.Test.YtmpiljfpgfhljaaWRepsOne
import Derived.Test.YtmpiljfpgfhljaaWShare
import Derived.Test.YtmpiljfpgfhljaaWTab
import Derived.Test.YtmpiljfpgfhljaaWWords
import Derived.Test.YtmpiljfpgfhljaaWZeros
import Derived.Test.YtmpiljfpgfhljaaXSlices

import Derived.Test.YtmpiljfpgfhljaaXDisk
namespace Go.Proofs.Ytmpiljfpgfhljaa.XDisk
open Go.RowKit Go.Proofs.YtmpiljfpgfhljaaW.PrintWords Go.Proofs.YtmpiljfpgfhljaaW.PrintLast Go.Proofs.YtmpiljfpgfhljaaW.PrintMore
set_option linter.unusedVariables false
set_option linter.unusedSimpArgs false
attribute [local irreducible] locF cacCells
theorem burn_same (s : St) : (Burn s).2.good = s.good ∧ (Burn s).2.cache = s.cache := by
  unfold Burn; split
  · exact ⟨rfl, rfl⟩
  · split <;> exact ⟨rfl, rfl⟩
theorem c_cells {w : World} {ad : Addr} {n : Nat} {b : List Int} (h : Kd.C (Kd.int .u8) w (some ad) n b) : ∀ j v, (nums .u8 b)[j]? = some v → w.cell? (ad.add j) = some v := by
  intro j v hj
  obtain ⟨hn, -, hc⟩ := h
  have hjb : j < b.length := by have := (List.getElem?_eq_some_iff.1 hj).1; rwa [nums_length] at this
  obtain ⟨ad', e, hcc⟩ := hc (by omega)
  injection e with e
  subst e
  obtain ⟨c, hcl, hK, hcell⟩ := hcc j _ (List.getElem?_eq_getElem hjb)
  have hc1 : c = [.int .u8 b[j]] := hK
  have hv : v = .int .u8 b[j] := by
    rw [nums, List.getElem?_map, List.getElem?_eq_getElem hjb] at hj
    exact (Option.some.inj hj).symm
  have := hcell 0 v (by rw [hc1, hv]; rfl)
  rw [show j * (Kd.int .u8).sz + 0 = j from Nat.mul_one j] at this
  exact this
theorem nums_one (b : List Int) : ∀ v ∈ nums .u8 b, v.oneCell' = true := by
  intro v hv
  obtain ⟨y, -, rfl⟩ := List.mem_map.1 hv
  rfl
set_option maxHeartbeats 1000000 in
theorem write_found (base g : Nat) (s s1 : St) (i : Int) (A : Option Addr) (c : Nat) (b : List Int) (hbl : b.length = 32) (w : World) (h : DiskAt base w g s) (hb : (decide (0 ≤ i) && decide (i < (s.good.length : Nat))) = true) (hf : s.fuse ≤ 9223372036854775807) (hB : (Burn s).1 = true) (hs1 : (Burn s).2 = s1)
    (hsrc : ∀ w', KeepD base w w' → Kd.C (Kd.int .u8) w' A 32 b) (j : Nat) (hj : j < s1.cache.length) (hl : locF i s1.cache 0 = ((j : Nat) : Int)) (hi : (s1.cache[j]).1 = i) :
    Calls Try.prog 12 #[.pointer (some ⟨g, 0, none⟩), .int .i64 i, .slice A 32 c] w fun e w' => e = .returned (.int .i64 0) ∧ DiskAt base w' g { s1 with cache := s1.cache.set j (i, b) } ∧ KeepD base w w' := by
  have H := Aside0.mk h
  have HQ := Aside0.mk hb
  have HBB := Aside0.mk hB
  have HS := Aside0.mk hsrc
  have HI := Aside0.mk hi
  have HLL := Aside0.mk hl
  have HS1 := Aside0.mk hs1
  have hn32 : (nums .u8 b).length = Nat.min 32 32 := by rw [nums_length, hbl]; rfl
  obtain ⟨ad, rfl, -⟩ := (hsrc w (KeepD.refl _ _)).2.2 (by decide)
  clear h hb hB hsrc hi hl hs1
  go_enter Try.func12, Try.ntmps12
  go_wp2_with (first
    | (go_at_call 33; refine (has_walk base g s i _ H.out).mono ?_; rintro e w' ⟨rfl, rfl⟩; rw [HQ.out])
    | (go_at_call 34; refine (burn_walk base g s _ H.out hf).mono ?_; rintro e w1 ⟨rfl, hD, hK⟩; rw [HBB.out]; rw [HS1.out] at hD; have HD := Aside0.mk hD; have HK := Aside0.mk hK; clear hD hK)
    | (go_at_call 35; refine (find_walk base g s1 i _ HD.out).mono ?_; rintro e w2 ⟨rfl, hB2⟩; rw [HLL.out]; have hp := disk_put base g s1 w2 (disk_below HD.out hB2) j hj b hbl; rw [HI.out] at hp; obtain ⟨gc, cc, hc1, hcs, hfr, hDn, hKn⟩ := hp; have HC := Aside0.mk (c_cells (HS.out w2 (HK.out.trans (KeepD.of_below hB2)))); have HK2 := Aside0.mk ((HK.out.trans (KeepD.of_below hB2)).trans hKn); have HCS := Aside0.mk hcs; have HFR := Aside0.mk hfr; have HDN := Aside0.mk hDn; clear hB2 HD HK hcs hfr hDn hKn)
    | ((with_reducible refine wpList_copy_seg rfl (.tmp 48) (.tmp 49) 29 29 rfl 5 Try.underlying29 sizes' gc (j * 33 + 1) 32 32 ad 32 c rfl rfl (nums .u8 b) hn32 HC.out HCS.out HFR.out (nums_one b) ?_)))
  go_ret
  exact ⟨rfl, HDN.out, HK2.out⟩
theorem disk_push (base g : Nat) (s : St) (vg vc v1 : Value) (p : Int × List Int) (w w3 : World) (h1 : w.heap[g]? = some (.cells #[vg, vc, .int .i64 s.fuse] 69 (0, 0))) (h2 : base ≤ g) (h3 : secK.R 72 w base (fun _ => True) vg s.good) (h4 : cacK.R 74 w base (fun _ => True) vc s.cache)
    (hR : cacK.R 74 w3 base (fun _ => True) v1 (s.cache ++ [p])) (hG : w.grownBy w3 vc.ownBlock) :
    DiskAt base (w3.setCell ⟨g, 1, none⟩ v1) g { s with cache := s.cache ++ [p] } ∧ KeepD base w (w3.setCell ⟨g, 1, none⟩ v1) ∧ w3.cell? ⟨g, 1, none⟩ = some vc ∧ w3.frozen? ⟨g, 1, none⟩ = false ∧ (w3.setCell ⟨g, 1, none⟩ v1).cell? ⟨g, 1, none⟩ = some v1 := by
  have hne : some g ≠ vc.ownBlock := fun e => by
    obtain ⟨cells, hc⟩ := own_typed h4.2.choose_spec.1 g e.symm
    exact absurd rfl (blk_ne h1 hc (by decide))
  have h1' : w3.heap[g]? = some (.cells #[vg, vc, .int .i64 s.fuse] 69 (0, 0)) := (hG.block g (blk_lt h1) hne).trans h1
  have h3' : secK.R 72 w3 base (fun _ => True) vg s.good := by
    refine Kd.R_mono (Kd.R_move (Kd.R_bound h3) (fun i hi => ?_)) (fun _ hk => hk.1)
    obtain ⟨-, -, hlt, q, hq, cells', hc'⟩ := hi
    refine hG.block i hlt (fun e' => ?_)
    obtain ⟨cells, hc⟩ := own_typed h4.2.choose_spec.1 i e'.symm
    rw [hc] at hc'
    injection hc' with hc'
    injection hc' with _ h5 _
    rw [← h5] at hq
    simp [secK, Kd.arr, Kd.int, Kd.scalar] at hq
  have hK : KeepD base w w3 := KeepD.of_row h4 (.inr (.inr rfl)) hG
  refine ⟨⟨vg, v1, blk_set h1' 1 _, h2, Kd.R_set h3' h1' (by intro q hq; simp [secK, Kd.arr, Kd.int, Kd.scalar] at hq; omega) _ _, Kd.R_set hR h1' (by intro q hq; simp [cacK, secK, Kd.pair, Kd.arr, Kd.int, Kd.scalar] at hq; omega) _ _⟩, hK.trans (KeepD.set_ h1' (.inl rfl) h2 _ _), by rw [blk_cell h1']; rfl, blk_frozen h1' _, by rw [blk_cell (blk_set h1' 1 _)]; rfl⟩
def Z33 : Value := .agg (Value.int .i64 0 :: List.replicate 32 (Value.int .u8 0)).toArray
theorem info_cac : (Try.prog.info? 74).map (fun i => (i.zero, i.size, i.bytes)) = some (some Z33, cacK.sz, 40) := by kernel_rfl
theorem z33 : Z33.cells.size = cacK.sz := by kernel_rfl
theorem new_M (w : World) (base : Nat) (i : Int) : cacK.M w base (fun _ => False) (i, List.replicate 32 0) [.int .i64 i, Value.int .u8 0, Value.int .u8 0, Value.int .u8 0, Value.int .u8 0, Value.int .u8 0, Value.int .u8 0, Value.int .u8 0, Value.int .u8 0, Value.int .u8 0, Value.int .u8 0, Value.int .u8 0, Value.int .u8 0, Value.int .u8 0, Value.int .u8 0, Value.int .u8 0, Value.int .u8 0, Value.int .u8 0, Value.int .u8 0, Value.int .u8 0, Value.int .u8 0, Value.int .u8 0, Value.int .u8 0, Value.int .u8 0, Value.int .u8 0, Value.int .u8 0, Value.int .u8 0, Value.int .u8 0, Value.int .u8 0, Value.int .u8 0, Value.int .u8 0, Value.int .u8 0, Value.int .u8 0] := by
  have := cacK_M (w := w) (base := base) (ok := fun _ => False) (x := (i, List.replicate 32 0)) rfl
  unfold cacCells at this
  exact this
theorem set_last (l : List (Int × List Int)) (i : Int) (z b : List Int) (h : l.length < (l ++ [(i, z)]).length) : (l ++ [(i, z)]).set l.length (((l ++ [(i, z)])[l.length]'h).1, b) = l ++ [(i, b)] := by simp
theorem put_new (base g : Nat) (s : St) (i : Int) (z b : List Int) (hb : b.length = 32) (w w2 w3 : World) (v1 vc : Value)
    (h : DiskAt base (w3.setCell ⟨g, 1, none⟩ v1) g { s with cache := s.cache ++ [(i, z)] } ∧ KeepD base w2 (w3.setCell ⟨g, 1, none⟩ v1) ∧ w3.cell? ⟨g, 1, none⟩ = some vc ∧ w3.frozen? ⟨g, 1, none⟩ = false ∧ (w3.setCell ⟨g, 1, none⟩ v1).cell? ⟨g, 1, none⟩ = some v1) :
    ∃ gc cc, v1 = .slice (some ⟨gc, 0, none⟩) (s.cache.length + 1) cc ∧ (∀ j, j < (nums .u8 b).length → ((w3.setCell ⟨g, 1, none⟩ v1).cell? ⟨gc, s.cache.length * 33 + 1 + j, none⟩).isSome = true) ∧ (∀ j, j < (nums .u8 b).length → (w3.setCell ⟨g, 1, none⟩ v1).frozen? ⟨gc, s.cache.length * 33 + 1 + j, none⟩ = false) ∧
      DiskAt base ((w3.setCell ⟨g, 1, none⟩ v1).setCells gc (s.cache.length * 33 + 1) (nums .u8 b)) g { s with cache := s.cache ++ [(i, b)] } ∧ KeepD base (w3.setCell ⟨g, 1, none⟩ v1) ((w3.setCell ⟨g, 1, none⟩ v1).setCells gc (s.cache.length * 33 + 1) (nums .u8 b)) := by
  obtain ⟨hD, -, -, -, hs⟩ := h
  have hlt : s.cache.length < (s.cache ++ [(i, z)]).length := by simp
  obtain ⟨gc, cc, hc1, hcs, hfr, hDn, hKn⟩ := disk_put base g _ _ hD s.cache.length hlt b hb
  rw [hs] at hc1
  injection hc1 with hc1
  refine ⟨gc, cc, by rw [hc1]; simp, hcs, hfr, ?_, hKn⟩
  have e := set_last s.cache i z b hlt
  simp only [e] at hDn
  exact hDn
set_option maxHeartbeats 1000000 in
theorem write_new (base g : Nat) (s s1 : St) (i : Int) (A : Option Addr) (c : Nat) (b : List Int) (hbl : b.length = 32) (w : World) (h : DiskAt base w g s) (hb : (decide (0 ≤ i) && decide (i < (s.good.length : Nat))) = true) (hf : s.fuse ≤ 9223372036854775807) (hB : (Burn s).1 = true) (hs1 : (Burn s).2 = s1)
    (hsrc : ∀ w', KeepD base w w' → Kd.C (Kd.int .u8) w' A 32 b) (hl : locF i s1.cache 0 = -1) (hl1 : (s1.cache.length + 1) * 40 ≤ 140737488355328) (hbase : base ≤ w.heap.size) :
    Calls Try.prog 12 #[.pointer (some ⟨g, 0, none⟩), .int .i64 i, .slice A 32 c] w fun e w' => e = .returned (.int .i64 0) ∧ DiskAt base w' g { s1 with cache := s1.cache ++ [(i, b)] } ∧ KeepD base w w' := by
  have H := Aside0.mk h
  have HQ := Aside0.mk hb
  have HBB := Aside0.mk hB
  have HS := Aside0.mk hsrc
  have HLL := Aside0.mk hl
  have HS1 := Aside0.mk hs1
  have hn32 : (nums .u8 b).length = Nat.min 32 32 := by rw [nums_length, hbl]; rfl
  have HL1 := Aside0.mk hl1
  obtain ⟨ad, rfl, -⟩ := (hsrc w (KeepD.refl _ _)).2.2 (by decide)
  clear h hb hB hsrc hl hs1 hl1
  go_enter Try.func12, Try.ntmps12
  go_wp2_with (first
    | (go_at_call 33; refine (has_walk base g s i _ H.out).mono ?_; rintro e w' ⟨rfl, rfl⟩; rw [HQ.out])
    | (go_at_call 34; refine (burn_walk base g s _ H.out hf).mono ?_; rintro e w1 ⟨rfl, hD, hK⟩; rw [HBB.out]; rw [HS1.out] at hD; have HD := Aside0.mk hD; have HK := Aside0.mk hK; clear hD hK)
    | (go_at_call 35; refine (find_walk base g s1 i _ HD.out).mono ?_; rintro e w2 ⟨rfl, hB2⟩; rw [HLL.out]; have HD2 := Aside0.mk (disk_below HD.out hB2); have HK2 := Aside0.mk (HK.out.trans (KeepD.of_below hB2)); have hb2 := Nat.le_trans hbase (HK2.out).size; clear hB2 HD HK; obtain ⟨vg, vc, h1, h2, h3, h4⟩ := HD2.out; obtain ⟨A4, c4, rfl⟩ := Kd.R_slice h4; have hc1 : w2.cell? ⟨g, 1, none⟩ = some (.slice A4 s1.cache.length c4) := by { rw [blk_cell h1]; rfl }; have H1 := Aside0.mk h1; have H3 := Aside0.mk h3; have H4 := Aside0.mk h4; clear h1 h3 h4)
    | (at_builtin; refine Kd.R_append cacK (w0 := w2) (W := w2) base rfl (.tmp 34) (.tmp 37) 67 74 Z33 40 rfl Try.underlying67 info_cac z33 (by decide) (by decide) (.slice A4 s1.cache.length c4) s1.cache (i, List.replicate 32 0) [.int .i64 i, Value.int .u8 0, Value.int .u8 0, Value.int .u8 0, Value.int .u8 0, Value.int .u8 0, Value.int .u8 0, Value.int .u8 0, Value.int .u8 0, Value.int .u8 0, Value.int .u8 0, Value.int .u8 0, Value.int .u8 0, Value.int .u8 0, Value.int .u8 0, Value.int .u8 0, Value.int .u8 0, Value.int .u8 0, Value.int .u8 0, Value.int .u8 0, Value.int .u8 0, Value.int .u8 0, Value.int .u8 0, Value.int .u8 0, Value.int .u8 0, Value.int .u8 0, Value.int .u8 0, Value.int .u8 0, Value.int .u8 0, Value.int .u8 0, Value.int .u8 0, Value.int .u8 0, Value.int .u8 0] (fun _ => True) (fun _ => False) rfl rfl (new_M _ _ _) (fun _ hk => hk.elim) (fun _ _ => trivial) H4.out (Below.refl _ _) hb2 HL1.out ?_; intro v3 w3 hR3 hB3 hG3 hat3; have hp := disk_push base g s1 vg _ v3 _ w2 w3 H1.out h2 H3.out H4.out hR3 hG3; obtain ⟨gc, cc, rfl, hcs, hfr, hDn, hKn⟩ := put_new base g s1 i _ b hbl w2 w2 w3 v3 _ hp; obtain ⟨-, hK3, hc3, hf3, hs3⟩ := hp; have HC := Aside0.mk (c_cells (HS.out _ (HK2.out.trans hK3))); have HK3 := Aside0.mk ((HK2.out.trans hK3).trans hKn); have HDN := Aside0.mk hDn; have HCS := Aside0.mk hcs; have HFR := Aside0.mk hfr; clear hR3 hB3 hG3 hat3 hDn hKn hcs hfr hK3 HD2 HK2 H1 H3 H4)
    | ((with_reducible refine wpList_copy_seg rfl (.tmp 48) (.tmp 49) 29 29 rfl 5 Try.underlying29 sizes' gc (s1.cache.length * 33 + 1) 32 32 ad 32 c rfl rfl (nums .u8 b) hn32 HC.out HCS.out HFR.out (nums_one b) ?_)))
  go_ret
  exact ⟨rfl, HDN.out, HK3.out⟩
/-- Write, whatever it is given. -/
theorem write_walk (base g : Nat) (s : St) (i : Int) (A : Option Addr) (c : Nat) (b : List Int) (w : World) (h : DiskAt base w g s) (hf : s.fuse ≤ 9223372036854775807) (hl1 : (s.cache.length + 1) * 40 ≤ 140737488355328) (hbase : base ≤ w.heap.size)
    (hsrc : ∀ w', KeepD base w w' → Kd.C (Kd.int .u8) w' A b.length b) :
    Calls Try.prog 12 #[.pointer (some ⟨g, 0, none⟩), .int .i64 i, .slice A b.length c] w fun e w' => e = .returned (.int .i64 (Write s i b).1) ∧ DiskAt base w' g (Write s i b).2 ∧ KeepD base w w' := by
  by_cases hg : (decide (0 ≤ i) && decide (i < (s.good.length : Nat))) = true ∧ b.length = 32
  · cases hB : (Burn s).1 with
    | false =>
      have hW : Write s i b = (10, s) := by unfold Write; rw [if_pos hg, hB, if_neg (by decide)]
      have hB2 : (Burn s).2 = s := by
        unfold Burn at hB ⊢
        split
        · rfl
        · rw [if_neg (by assumption)] at hB; split at hB <;> cases hB
      rw [hW, hg.2]
      have := write_down base g s i A c w h hg.1 hf hB
      rw [hB2] at this
      exact this
    | true =>
      have hW : Write s i b = (0, { (Burn s).2 with cache := put s.cache i b }) := by unfold Write; rw [if_pos hg, hB, if_pos rfl]
      rw [hW, hg.2]
      rw [hg.2] at hsrc
      have hc := (burn_same s).2
      rw [← hc]
      rw [← hc] at hl1
      rcases locF_range i (Burn s).2.cache 0 with hl | ⟨j, hj, hl, hi⟩
      · have := write_new base g s _ i A c b hg.2 w h hg.1 hf hB rfl hsrc hl hl1 hbase
        have hp : put (Burn s).2.cache i b = (Burn s).2.cache ++ [(i, b)] := by unfold put; rw [hl, if_neg (by decide)]
        rw [hp]; exact this
      · rw [Nat.zero_add] at hl
        have := write_found base g s _ i A c b hg.2 w h hg.1 hf hB rfl hsrc j hj hl hi
        have hp : put (Burn s).2.cache i b = (Burn s).2.cache.set j (i, b) := by unfold put; rw [hl, if_pos (by omega), Int.toNat_natCast]
        rw [hp]; exact this
  · have hW : Write s i b = (1, s) := by unfold Write; rw [if_neg hg]
    rw [hW]
    refine (write_arg base g s i A b.length c w h hg).mono ?_
    rintro e w' ⟨rfl, rfl⟩
    exact ⟨rfl, h, KeepD.refl _ _⟩
end Go.Proofs.Ytmpiljfpgfhljaa.XDisk
