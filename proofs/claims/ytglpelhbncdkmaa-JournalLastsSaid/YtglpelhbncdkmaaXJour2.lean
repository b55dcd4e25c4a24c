/-
  package journal by walks, second part: write, read.
-/
import Derived.Laws.CopyOwn
import Derived.ArgAppend
import Derived.Below
import Derived.BigQuiet
import Derived.Deep.AppendLies
import Derived.Deep.CutBlock
import Derived.Deep.DeepCutAuto
import Derived.Deep.Draws
import Derived.Deep.LoopGhost
import Derived.Deep.OwnRows
import Derived.Deep.QuietTactic
import Derived.Deep.RegionHeld3
import Derived.Deep.WholeRow
import Derived.KernelRfl
import Derived.Laws.BitsLemmas
import Derived.Laws.BytesArg
import Derived.Laws.IdiomCopy
import Derived.Laws.MakeOwn
import Derived.Laws.OwnMore
import Derived.Laws.Rows
import Derived.Laws.Slices
import Derived.Lib.AppendStr
import Derived.Lib.ConvBytes
import Derived.Lib.Hide
import Derived.Maps.AppendAt
import Derived.OrdersHeld
import Derived.Outline
import Derived.OwnWalk
import Derived.RowKit
import Derived.RowKit3
import Derived.Tactics
import Derived.WalkKit
import Derived.WideLaws
import Derived.Test.YtglpelhbncdkmaaProg
import Derived.Test.YtglpelhbncdkmaaWApart
import Derived.Test.YtglpelhbncdkmaaWArr
import Derived.Test.YtglpelhbncdkmaaWAt
import Derived.Test.YtglpelhbncdkmaaWEqStruct
import Derived.Test.YtglpelhbncdkmaaWFoot
import Derived.Test.YtglpelhbncdkmaaWFootNe
import Derived.Test.YtglpelhbncdkmaaWFour
import Derived.Test.YtglpelhbncdkmaaWGuard
import Derived.Test.YtglpelhbncdkmaaWInv
import Derived.Test.YtglpelhbncdkmaaWInvWords
import Derived.Test.YtglpelhbncdkmaaWKept
import Derived.Test.YtglpelhbncdkmaaWLast
import Derived.Test.YtglpelhbncdkmaaWMore
import Derived.Test.YtglpelhbncdkmaaWN
import Derived.Test.YtglpelhbncdkmaaWNEv
import Derived.Test.YtglpelhbncdkmaaWQPut
import Derived.Test.YtglpelhbncdkmaaWRepsOne
import Derived.Test.YtglpelhbncdkmaaWShare
import Derived.Test.YtglpelhbncdkmaaWTab
import Derived.Test.YtglpelhbncdkmaaWWords
import Derived.Test.YtglpelhbncdkmaaWZeros
import Derived.Test.YtglpelhbncdkmaaXSlices

import Derived.Test.YtglpelhbncdkmaaXJour
namespace Go.Proofs.Ytglpelhbncdkmaa.XJour
open Go.RowKit Go.Proofs.YtglpelhbncdkmaaW.PrintWords Go.Proofs.YtglpelhbncdkmaaW.PrintLast Go.Proofs.YtglpelhbncdkmaaW.PrintMore XDisk
set_option linter.unusedVariables false
set_option linter.unusedSimpArgs false
/-! ### write -/
def putAll : Nat → St → Int → List Int → Int × St
  | 0, s, _, _ => (0, s)
  | m + 1, s, a, b => if (Write s a (b.take 32)).1 = 0 then putAll m (Write s a (b.take 32)).2 (a + 1) (b.drop 32) else Write s a (b.take 32)
theorem burn_fuse (s : St) : (Burn s).2.fuse ≤ s.fuse := by
  unfold Burn
  split
  · exact Int.le_refl _
  · split
    · show s.fuse - 1 ≤ s.fuse; omega
    · exact Int.le_refl _
theorem write_fuse_le (s : St) (i : Int) (b : List Int) : (Write s i b).2.fuse ≤ s.fuse := by
  unfold Write
  split
  · split
    · exact burn_fuse s
    · exact Int.le_refl _
  · exact Int.le_refl _
theorem write_len (s : St) (i : Int) (b : List Int) : (Write s i b).2.cache.length ≤ s.cache.length + 1 := by
  unfold Write
  split
  · split
    · show (put s.cache i b).length ≤ _
      unfold put
      split
      · rw [List.length_set]; omega
      · rw [List.length_append]; exact Nat.le_refl _
    · exact Nat.le_succ _
  · exact Nat.le_succ _
theorem info_u8' : (Try.prog.info? 5).map (fun i => (i.zero, i.size, i.bytes)) = some (some (.int .u8 0), 1, 1) := XSlices.info_u8
attribute [local irreducible] putAll Write
set_option maxHeartbeats 1000000 in
theorem wr_walk (base g m c : Nat) (s : St) (a : Int) (A : Option Addr) (b : List Int) (w : World) (h : DiskAt base w g s) (ha : 0 ≤ a ∧ a ≤ 4000) (hm : m ≤ 4000) (hb : b.length = 32 * m) (hc : b.length ≤ c) (hf : s.fuse ≤ 9223372036854775807) (hl : s.cache.length + m ≤ 1000000) (hbase : base ≤ w.heap.size)
    (hsrc : ∀ w', KeepD base w w' → Kd.C (Kd.int .u8) w' A b.length b) :
    Calls Try.prog 25 #[.pointer (some ⟨g, 0, none⟩), .int .i64 a, .slice A b.length c] w fun e w' => e = .returned (.int .i64 (putAll m s a b).1) ∧ DiskAt base w' g (putAll m s a b).2 ∧ KeepD base w w' := by
  obtain ⟨R, hR⟩ : ∃ R, putAll m s a b = R := ⟨_, rfl⟩
  rw [hR]
  have HR := Aside0.mk hR
  have H := Aside0.mk h
  have HS := Aside0.mk hsrc
  have HB := Aside0.mk hb
  obtain ⟨i5, hi5, _, hsz, _⟩ := info_parts info_u8'
  clear hR h hsrc
  go_enter Try.func25, Try.ntmps25
  go_wp2
  go_loopw [1, 2] (fun v1 v2 wr => ∃ (k : Nat) (sk : St) (bk : List Int) (Ak : Option Addr) (ck : Nat), k ≤ m ∧ v1 = .int .i64 (a + k) ∧ v2 = .slice Ak bk.length ck ∧ bk.length ≤ ck ∧ Aside0 (bk.length = 32 * (m - k)) ∧ Aside0 (DiskAt base wr g sk) ∧ Aside0 (KeepD base w wr) ∧ Aside0 (∀ w', KeepD base wr w' → Kd.C (Kd.int .u8) w' Ak bk.length bk) ∧ Aside0 (putAll (m - k) sk (a + k) bk = R) ∧ Aside0 (sk.fuse ≤ 9223372036854775807) ∧ Aside0 (sk.cache.length + (m - k) ≤ 1000000)) (fun v1 _ _ => (a + m - intOf v1).toNat)
  case atStart => exact ⟨0, s, b, A, c, Nat.zero_le _, by rw [Int.natCast_zero, Int.add_zero], rfl, hc, ⟨hb⟩, H, ⟨KeepD.refl _ _⟩, HS, ⟨by rw [Int.natCast_zero, Int.add_zero]; exact HR.out⟩, ⟨hf⟩, ⟨by omega⟩⟩
  case round =>
    clear HR H HS HB hb hf hl hc
    obtain ⟨k, sk, bk, Ak, ck, hk, rfl, rfl, hck, HB, H, HK, HS, HR, HF, HL⟩ := hrel
    by_cases hlt : k < m
    · have hbk := HB.out
      have g1 : (32 : Int) ≤ (bk.length : Int) := by omega
      have g0 : (0 : Int) < (bk.length : Int) := by omega
      have hL := HL.out
      obtain ⟨hcut1, hA1, hC1⟩ := print_take_of (P := Try.prog) (Value.int .u8) 0 23 5 .i64 Try.underlying23 hi5 hsz Ak ck bk 32 (by decide) g1 hck
      obtain ⟨A2, hcut2, hA2, hC2⟩ := print_drop_of (P := Try.prog) (Value.int .u8) 0 23 5 .i64 Try.underlying23 hi5 hsz Ak ck bk 32 (by decide) g1 hck
      have S1 := Aside0.mk (show ∀ w', KeepD base wr w' → Kd.C (Kd.int .u8) w' Ak (bk.take 32).length (bk.take 32) from fun w' hk => Kd.C_of_reads (h1 := fun _ => rfl) (hA1 _ (Kd.reads_of_C (HS.out w' hk))))
      have S2 := Aside0.mk (show ∀ w', KeepD base wr w' → Kd.C (Kd.int .u8) w' A2 (bk.drop 32).length (bk.drop 32) from fun w' hk => Kd.C_of_reads (h1 := fun _ => rfl) (hA2 _ (Kd.reads_of_C (HS.out w' hk))))
      clear hA1 hA2 HS
      have q3 : (32 : Int).toNat = 32 := rfl
      simp only [q3] at hcut1 hcut2 hC1 hC2
      have hbz := Nat.le_trans hbase HK.out.size
      have hst : putAll (m - k) sk (a + k) bk = if (Write sk (a + k) (bk.take 32)).1 = 0 then putAll (m - (k + 1)) (Write sk (a + k) (bk.take 32)).2 (a + k + 1) (bk.drop 32) else Write sk (a + k) (bk.take 32) := by
        rw [show m - k = (m - (k + 1)) + 1 from by omega, putAll]
      rw [HR.out] at hst
      have hfu := write_fuse_le sk (a + k) (bk.take 32)
      have hln := write_len sk (a + k) (bk.take 32)
      have hww := XDisk.write_walk base g sk (a + k) Ak ck (bk.take 32) wr H.out HF.out (by omega) hbz S1.out
      have hdl : (bk.drop 32).length = 32 * (m - (k + 1)) := by rw [List.length_drop]; omega
      obtain ⟨ew, hew⟩ : ∃ z, (Write sk (a + k) (bk.take 32)).1 = z := ⟨_, rfl⟩
      obtain ⟨sw, hsw⟩ : ∃ z, (Write sk (a + k) (bk.take 32)).2 = z := ⟨_, rfl⟩
      have hpair : Write sk (a + k) (bk.take 32) = (ew, sw) := by rw [← hew, ← hsw]
      rw [hpair] at hst hfu hln hww
      have hF' := HF.out
      have HF2 := Aside0.mk (show sw.fuse ≤ 9223372036854775807 from Int.le_trans hfu hF')
      have HL2 := Aside0.mk (show sw.cache.length + (m - (k + 1)) ≤ 1000000 by have : sw.cache.length ≤ sk.cache.length + 1 := hln; omega)
      have HD2 := Aside0.mk hdl
      have WW := Aside0.mk hww
      have ST := Aside0.mk hst
      generalize bk.take 32 = b1 at *
      generalize bk.drop 32 = b2 at *
      generalize bk.length = n at *
      clear hst hfu hln hww hdl hew hsw hpair hF' HR HB HF HL hL H hbk S1
      by_cases hz : ew = 0
      · subst hz
        have hr := ST.out
        rw [if_pos rfl] at hr
        have HR2 := Aside0.mk hr.symm
        clear hr ST
        go_wp2_with (go_at_call 35; refine WW.out.mono ?_; rintro e w1 ⟨rfl, hD, hK⟩; have HD := Aside0.mk hD; have HK2 := Aside0.mk hK; clear hD hK WW)
        go_quiet (fail)
        go_wp2
        go_roundw
        case rel => exact ⟨k + 1, sw, b2, A2, _, hlt, by go_num, rfl, hC2, HD2, ⟨disk_drewN HD.out _⟩, ⟨(HK.out.trans HK2.out).drewN _⟩, ⟨fun w' hk => S2.out w' ((HK2.out.drewN _).trans hk)⟩, ⟨by rw [← HR2.out]; congr 1; omega⟩, HF2, HL2⟩
        case measure => simp [intOf]; omega
      · have hr := ST.out
        rw [if_neg hz] at hr
        subst hr
        have hz' : (ew == 0) = false := by simpa using hz
        go_wp2_with (go_at_call 35; refine WW.out.mono ?_; rintro e w1 ⟨rfl, hD, hK⟩; have HD := Aside0.mk hD; have HK2 := Aside0.mk hK; clear hD hK WW)
        go_ret
        exact ⟨rfl, HD.out, HK.out.trans HK2.out⟩
    · obtain rfl : k = m := by omega
      have hbk := HB.out
      have hr := HR.out
      rw [Nat.sub_self, putAll] at hr
      subst hr
      have hz : bk.length = 0 := by omega
      rw [hz]
      go_wp2
      go_ret
      exact ⟨rfl, H.out, HK.out⟩
/-! ### what stands in sectors -/
def Bytes (l : List Int) : Prop := ∀ c ∈ l, 0 ≤ c ∧ c < 256
structure Fine (s : St) : Prop where
  good : ∀ x ∈ s.good, x.length = 32 ∧ Bytes x
  cache : ∀ x ∈ s.cache, x.2.length = 32 ∧ Bytes x.2
  inr : InR s
  once : Once s.cache
theorem now_fine {s : St} (h : Fine s) (i : Nat) (hi : i < s.good.length) : (nowAt s i).length = 32 ∧ Bytes (nowAt s i) := by
  unfold nowAt
  rcases locF_range (i : Int) s.cache 0 with hl | ⟨j, hj, hl, -⟩
  · rw [hl, if_neg (by decide), Int.toNat_natCast, List.getD_eq_getElem?_getD, List.getElem?_eq_getElem hi]
    exact h.good _ (List.getElem_mem hi)
  · rw [hl, if_pos (by omega), show ((0 + j : Nat) : Int).toNat = j from by omega, List.getD_eq_getElem?_getD, List.getElem?_eq_getElem hj]
    exact h.cache _ (List.getElem_mem hj)
def readAll (s : St) (a : Nat) : Nat → List Int
  | 0 => []
  | n + 1 => readAll s a n ++ nowAt s ((a + n : Nat) : Int)
theorem readAll_fine {s : St} (h : Fine s) (a : Nat) : ∀ n, a + n ≤ s.good.length → (readAll s a n).length = 32 * n ∧ Bytes (readAll s a n)
  | 0, _ => ⟨rfl, fun c hc => by cases hc⟩
  | n + 1, hn => by
    obtain ⟨h1, h2⟩ := readAll_fine h a n (by omega)
    obtain ⟨h3, h4⟩ := now_fine h (a + n) (by omega)
    refine ⟨by rw [readAll, List.length_append, h1, h3]; omega, fun c hc => ?_⟩
    rcases List.mem_append.1 hc with hc | hc
    · exact h2 c hc
    · exact h4 c hc
attribute [local irreducible] readAll nowAt
set_option maxHeartbeats 1000000 in
theorem rd_walk (base g a n : Nat) (s : St) (w : World) (h : DiskAt base w g s) (hS : Fine s) (hn : a + n ≤ s.good.length) (hg : s.good.length ≤ 4000) :
    Calls Try.prog 38 #[.pointer (some ⟨g, 0, none⟩), .int .i64 (a : Nat), .int .i64 ((a + n : Nat) : Int)] w fun e w' => ∃ v, e = .returned v ∧ Kd.R (Kd.int .u8) 5 w' w.heap.size (fun _ => True) v (readAll s a n) ∧ Below w.heap.size w w' := by
  have H := Aside0.mk h
  have HS := Aside0.mk hS
  have HN := Aside0.mk hn
  have ha : a + n ≤ 4000 := Nat.le_trans hn hg
  clear h hS hn hg
  go_enter Try.func38, Try.ntmps38
  go_wp2
  go_loopw [1, 7] (fun v1 v7 wr => ∃ k : Nat, k ≤ n ∧ v1 = .int .i64 ((a + k : Nat) : Int) ∧ Aside0 (Kd.R (Kd.int .u8) 5 wr w.heap.size (fun _ => True) v7 (readAll s a k)) ∧ Aside0 (Below w.heap.size w wr)) (fun v1 _ _ => (((a + n : Nat) : Int) - intOf v1).toNat)
  case atStart => exact ⟨0, Nat.zero_le _, by rw [Nat.add_zero], ⟨by unfold readAll; exact Kd.R_nil _ _ _ _ _⟩, ⟨Below.refl _ _⟩⟩
  case round =>
    obtain ⟨k, hk, rfl, HR, HB⟩ := hrel
    by_cases hlt : k < n
    · have hl1 := readAll_fine HS.out a k (by have := HN.out; omega)
      have hl2 := now_fine HS.out (a + k) (by have := HN.out; omega)
      have hlim : ((readAll s a k).length + (nowAt s ((a + k : Nat) : Int)).length) * 1 ≤ 140737488355328 := by rw [hl1.1, hl2.1]; omega
      have g1 : ((a + k : Nat) : Int) < ((a + n : Nat) : Int) := by omega
      have HE := Aside0.mk (show readAll s a (k + 1) = readAll s a k ++ nowAt s ((a + k : Nat) : Int) by rw [readAll])
      have hrd := XDisk.read_walk base g s (a + k) wr (disk_below H.out HB.out) (by have := HN.out; omega)
      have RD := Aside0.mk hrd
      clear hrd hl1 hl2
      generalize readAll s a k = done at *
      generalize nowAt s ((a + k : Nat) : Int) = l at *
      have b1 : ((a + k : Nat) : Int) + 1 = ((a + (k + 1) : Nat) : Int) := by omega
      go_wp2_with (first
        | (go_at_call 39; refine RD.out.mono ?_; rintro e w1 ⟨v, rfl, hRv, hB1⟩; obtain ⟨Av, cv, rfl, hcv, hCv⟩ := Kd.R_reads hRv; have HB1 := Aside0.mk hB1; have HC := Aside0.mk hCv; clear hRv hB1 hCv)
        | (at_builtin; refine Kd.R_append_row (Value.int .u8) (0 : Int) (h1 := fun _ => rfl) (w0 := w) w.heap.size rfl (.tmp 21) (.tmp 22) 23 5 (.int .u8 0) 1 rfl Try.underlying23 info_u8' rfl (by decide) u7 done l Av _ cv (fun _ => True) rfl rfl (fun _ _ => trivial) (Kd.R_below HR.out HB1.out) HC.out (below_step HB.out HB1.out) (below_step HB.out HB1.out).size hlim ?_; intro v1 w2 hR1 hB2 _ _))
      go_roundw
      case rel => exact ⟨_, _, _, _, _, _, _, _, _, _, _, _, _, _, _, _, _, _, ⟨k + 1, by omega, by go_num, ⟨by rw [HE.out]; exact hR1⟩, ⟨hB2⟩⟩, rfl⟩
      case measure => simp [intOf]; omega
    · obtain rfl : k = n := by omega
      go_wp2
      go_ret
      exact ⟨_, rfl, HR.out, HB.out⟩
end Go.Proofs.Ytglpelhbncdkmaa.XJour
