/-
  package journal by walks, fourth part: Format, last.
-/
import Derived.Laws.CopyOwn
import Derived.ArgAppend
import Derived.Below
import Derived.BigQuiet
import Derived.Deep.AppendLies
import Derived.Deep.CutBlock
import Derived.Deep.DeepCutAuto
import Derived.Deep.Draws
import Derived.Deep.LoopGhost
import Derived.Deep.OwnRows
import Derived.Deep.QuietTactic
import Derived.Deep.RegionHeld3
import Derived.Deep.WholeRow
import Derived.KernelRfl
import Derived.Laws.BitsLemmas
import Derived.Laws.BytesArg
import Derived.Laws.IdiomCopy
import Derived.Laws.MakeOwn
import Derived.Laws.OwnMore
import Derived.Laws.Rows
import Derived.Laws.Slices
import Derived.Lib.AppendStr
import Derived.Lib.ConvBytes
import Derived.Lib.Hide
import Derived.Maps.AppendAt
import Derived.OrdersHeld
import Derived.Outline
import Derived.OwnWalk
import Derived.RowKit
import Derived.RowKit3
import Derived.Tactics
import Derived.WalkKit
import Derived.WideLaws
import Derived.Test.YtglpelhbncdkmaaProg
import Derived.Test.YtglpelhbncdkmaaWApart
import Derived.Test.YtglpelhbncdkmaaWArr
import Derived.Test.YtglpelhbncdkmaaWAt
import Derived.Test.YtglpelhbncdkmaaWEqStruct
import Derived.Test.YtglpelhbncdkmaaWFoot
import Derived.Test.YtglpelhbncdkmaaWFootNe
import Derived.Test.YtglpelhbncdkmaaWFour
import Derived.Test.YtglpelhbncdkmaaWGuard
import Derived.Test.YtglpelhbncdkmaaWInv
import Derived.Test.YtglpelhbncdkmaaWInvWords
import Derived.Test.YtglpelhbncdkmaaWKept
import Derived.Test.YtglpelhbncdkmaaWLast
import Derived.Test.YtglpelhbncdkmaaWMore
import Derived.Test.YtglpelhbncdkmaaWN
import Derived.Test.YtglpelhbncdkmaaWNEv
import Derived.Test.YtglpelhbncdkmaaWQPut
import Derived.Test.YtglpelhbncdkmaaWRepsOne
import Derived.Test.YtglpelhbncdkmaaWShare
import Derived.Test.YtglpelhbncdkmaaWTab
import Derived.Test.YtglpelhbncdkmaaWWords
import Derived.Test.YtglpelhbncdkmaaWZeros
import Derived.Test.YtglpelhbncdkmaaXSlices

import Derived.Test.YtglpelhbncdkmaaXJour3
namespace Go.Proofs.Ytglpelhbncdkmaa.XJour
open Go.RowKit Go.Proofs.YtglpelhbncdkmaaW.PrintWords Go.Proofs.YtglpelhbncdkmaaW.PrintLast Go.Proofs.YtglpelhbncdkmaaW.PrintMore XDisk XChunk
set_option linter.unusedVariables false
set_option linter.unusedSimpArgs false
theorem packed_bytes (a s : Int) (l : List Int) (hl : Bytes l) : Bytes (packed a s l) := by
  unfold packed cut
  refine cut_bytes _ _ _ ?_ ?_
  · intro c hc
    unfold filled body at hc
    rcases List.mem_append.1 hc with hc | hc
    · rcases List.mem_append.1 hc with hc | hc
      · exact be2_bytes _ c hc
      · rcases List.mem_append.1 hc with hc | hc
        · exact be4_bytes _ c hc
        · exact hl c hc
    · rw [List.eq_of_mem_replicate hc]; decide
  · intro c hc
    unfold stampOf at hc
    rcases List.mem_append.1 hc with hc | hc
    · exact be4_bytes _ c hc
    · exact be4_bytes _ c hc
theorem packF_bytes (e s p : Int) (l : List Int) (hl : Bytes l) : Bytes (packF e s p l).2 := by
  unfold packF
  split
  · intro c hc; cases hc
  · split
    · intro c hc; cases hc
    · exact packed_bytes e s l hl
attribute [local irreducible] packed packF putAll Flush
set_option maxHeartbeats 1000000 in
theorem format_walk (base g c : Nat) (s : St) (slot : Int) (A : Option Addr) (l : List Int) (w : World) (h : DiskAt base w g s) (hS : Fine s) (hr : Kd.C (Kd.int .u8) w A l.length l) (hc : l.length ≤ c) (hb : Bytes l) (hf : s.fuse ≤ 9223372036854775807) (hl : s.cache.length ≤ 900000) (hbase : base ≤ w.heap.size) :
    Calls Try.prog 8 #[.pointer (some ⟨g, 0, none⟩), .int .i64 slot, .slice A l.length c] w fun e w' => e = .returned (.int .i64 (formatF s slot l).1) ∧ DiskAt base w' g (formatF s slot l).2 ∧ KeepD base w w' := by
  have MW := Aside0.mk (may_walk base g s slot w h)
  have HD := Aside0.mk h
  cases hm : mayF s slot with
  | false =>
    have e1 : formatF s slot l = (1, s) := by unfold formatF; rw [if_pos hm]
    rw [e1]
    rw [hm] at MW
    clear hr h hS
    go_enter Try.func8, Try.ntmps8
    go_wp2_with (go_at_call 23; refine MW.out.mono ?_; rintro e w1 ⟨rfl, rfl⟩)
    go_ret
    exact ⟨rfl, HD.out, KeepD.refl _ _⟩
  | true =>
    rw [hm] at MW
    have hsl : 1 ≤ slot ∧ slot ≤ 1024 := by
      unfold mayF at hm
      rw [Bool.and_eq_true, Bool.and_eq_true, decide_eq_true_eq, decide_eq_true_eq] at hm
      exact ⟨hm.1, hm.2.1⟩
    have PW := Aside0.mk (pack_walk 1 0 slot A c l w hr hc (by decide) (by decide) ⟨by omega, hsl.2⟩ hb)
    have hpl := packF_len 1 0 slot l
    have hpb := packF_bytes 1 0 slot l hb
    obtain ⟨p, hp⟩ : ∃ p, packF 1 0 slot l = p := ⟨_, rfl⟩
    have e0 : formatF s slot l = if p.1 ≠ 0 then (p.1, s) else if (putAll (p.2.length / 32) s 0 p.2).1 ≠ 0 then putAll (p.2.length / 32) s 0 p.2 else Flush (putAll (p.2.length / 32) s 0 p.2).2 := by
      unfold formatF; rw [if_neg (by rw [hm]; decide), hp]
    rw [e0]
    rw [hp] at PW hpl hpb
    clear hp e0
    obtain ⟨ep, bp⟩ := p
    have hpl1 : bp.length = 32 * (bp.length / 32) := hpl.1
    have hpl2 : bp.length / 32 ≤ 4000 := hpl.2.1
    have hf2 := putAll_fine (bp.length / 32) s 0 bp hS hpl1 hpb
    clear hr h hpl
    by_cases hz : ep = 0
    rotate_left
    · rw [if_pos hz]
      have hz' : (ep == 0) = false := by simpa using hz
      clear hf2 hpl1 hpl2 hpb hS
      go_enter Try.func8, Try.ntmps8
      go_wp2_with (first | (go_at_call 23; refine MW.out.mono ?_; rintro e w1 ⟨rfl, rfl⟩) | (go_at_call 24; refine PW.out.mono ?_; rintro e w1 ⟨v, rfl, -, hB⟩; have HB := Aside0.mk hB; clear hB))
      go_ret
      exact ⟨rfl, disk_below HD.out HB.out, KeepD.of_below HB.out⟩
    subst hz
    rw [if_neg (by simp)]
    have WW := Aside0.mk (fun (A' : Option Addr) (c' : Nat) (w1 : World) (h1 : DiskAt base w1 g s) (h2 : base ≤ w1.heap.size) (h3 : bp.length ≤ c') (h4 : ∀ w', KeepD base w1 w' → Kd.C (Kd.int .u8) w' A' bp.length bp) => wr_walk base g (bp.length / 32) c' s 0 A' bp w1 h1 (by decide) hpl2 hpl1 h3 hf (by omega) h2 h4)
    obtain ⟨r, hr⟩ : ∃ r, putAll (bp.length / 32) s 0 bp = r := ⟨_, rfl⟩
    rw [hr] at WW hf2 ⊢
    clear hr hpl1 hpl2 hpb
    obtain ⟨er, sr⟩ := r
    have FW := Aside0.mk (fun (w1 : World) (h1 : DiskAt base w1 g sr) => flush_any base g sr w1 h1 (Int.le_trans hf2.2.2.2 hf) hf2.1.inr)
    clear hf2 hS
    by_cases hz : er = 0
    · subst hz
      rw [if_neg (by simp)]
      obtain ⟨q, hq⟩ : ∃ q, Flush sr = q := ⟨_, rfl⟩
      rw [hq] at FW ⊢
      clear hq
      obtain ⟨eq, sq⟩ := q
      go_enter Try.func8, Try.ntmps8
      go_wp2_with (first
        | (go_at_call 23; refine MW.out.mono ?_; rintro e w1 ⟨rfl, rfl⟩)
        | (go_at_call 24; refine PW.out.mono ?_; rintro e w1 ⟨v, rfl, hV, hB⟩; obtain ⟨Av, cv, rfl⟩ := Kd.V_slice hV; obtain ⟨-, hcv, hsrc⟩ := V_srcD (base := base) hV; have W2 := Aside0.mk (WW.out Av cv w1 (disk_below HD.out hB) (Nat.le_trans hbase hB.size) hcv hsrc); have HB := Aside0.mk hB; clear hB hV hsrc hcv WW)
        | (go_at_call 25; refine W2.out.mono ?_; rintro e w2 ⟨rfl, hD, hK⟩; have HD2 := Aside0.mk hD; have HK2 := Aside0.mk hK; clear hD hK W2)
        | (go_at_call 26; refine (FW.out _ HD2.out).mono ?_; rintro e w3 ⟨rfl, hD, hK⟩; have HD3 := Aside0.mk hD; have HK3 := Aside0.mk hK; clear hD hK FW))
      go_ret
      exact ⟨rfl, HD3.out, (KeepD.of_below HB.out).trans (HK2.out.trans HK3.out)⟩
    · rw [if_pos hz]
      have hz' : (er == 0) = false := by simpa using hz
      go_enter Try.func8, Try.ntmps8
      go_wp2_with (first
        | (go_at_call 23; refine MW.out.mono ?_; rintro e w1 ⟨rfl, rfl⟩)
        | (go_at_call 24; refine PW.out.mono ?_; rintro e w1 ⟨v, rfl, hV, hB⟩; obtain ⟨Av, cv, rfl⟩ := Kd.V_slice hV; obtain ⟨-, hcv, hsrc⟩ := V_srcD (base := base) hV; have W2 := Aside0.mk (WW.out Av cv w1 (disk_below HD.out hB) (Nat.le_trans hbase hB.size) hcv hsrc); have HB := Aside0.mk hB; clear hB hV hsrc hcv WW)
        | (go_at_call 25; refine W2.out.mono ?_; rintro e w2 ⟨rfl, hD, hK⟩; have HD2 := Aside0.mk hD; have HK2 := Aside0.mk hK; clear hD hK W2))
      go_ret
      exact ⟨rfl, HD2.out, (KeepD.of_below HB.out).trans HK2.out⟩
end Go.Proofs.Ytglpelhbncdkmaa.XJour
