/-
  chapter 7's laws: short, Texts; a journal without a fuse; what a crash leaves of sectors that are not cached.
-/
import Derived.Laws.CopyOwn
import Derived.ArgAppend
import Derived.Below
import Derived.BigQuiet
import Derived.Deep.AppendLies
import Derived.Deep.CutBlock
import Derived.Deep.DeepCutAuto
import Derived.Deep.Draws
import Derived.Deep.LoopGhost
import Derived.Deep.OwnRows
import Derived.Deep.QuietTactic
import Derived.Deep.RegionHeld3
import Derived.Deep.WholeRow
import Derived.KernelRfl
import Derived.Laws.BitsLemmas
import Derived.Laws.BytesArg
import Derived.Laws.IdiomCopy
import Derived.Laws.MakeOwn
import Derived.Laws.OwnMore
import Derived.Laws.Rows
import Derived.Laws.Slices
import Derived.Lib.AppendStr
import Derived.Lib.ConvBytes
import Derived.Lib.Hide
import Derived.Maps.AppendAt
import Derived.OrdersHeld
import Derived.Outline
import Derived.OwnWalk
import Derived.RowKit
import Derived.RowKit3
import Derived.Tactics
import Derived.WalkKit
import Derived.WideLaws
import Derived.Test.YtglpelhbncdkmaaProg
import Derived.Test.YtglpelhbncdkmaaWApart
import Derived.Test.YtglpelhbncdkmaaWArr
import Derived.Test.YtglpelhbncdkmaaWAt
import Derived.Test.YtglpelhbncdkmaaWEqStruct
import Derived.Test.YtglpelhbncdkmaaWFoot
import Derived.Test.YtglpelhbncdkmaaWFootNe
import Derived.Test.YtglpelhbncdkmaaWFour
import Derived.Test.YtglpelhbncdkmaaWGuard
import Derived.Test.YtglpelhbncdkmaaWInv
import Derived.Test.YtglpelhbncdkmaaWInvWords
import Derived.Test.YtglpelhbncdkmaaWKept
import Derived.Test.YtglpelhbncdkmaaWLast
import Derived.Test.YtglpelhbncdkmaaWMore
import Derived.Test.YtglpelhbncdkmaaWN
import Derived.Test.YtglpelhbncdkmaaWNEv
import Derived.Test.YtglpelhbncdkmaaWQPut
import Derived.Test.YtglpelhbncdkmaaWRepsOne
import Derived.Test.YtglpelhbncdkmaaWShare
import Derived.Test.YtglpelhbncdkmaaWTab
import Derived.Test.YtglpelhbncdkmaaWWords
import Derived.Test.YtglpelhbncdkmaaWZeros
import Derived.Test.YtglpelhbncdkmaaXSlices

import Derived.Test.YtglpelhbncdkmaaXJour12
namespace Go.Proofs.Ytglpelhbncdkmaa.XJour
open Go.RowKit Go.Proofs.YtglpelhbncdkmaaW.PrintWords Go.Proofs.YtglpelhbncdkmaaW.PrintLast Go.Proofs.YtglpelhbncdkmaaW.PrintMore XDisk XChunk XUnpack XData
set_option linter.unusedVariables false
set_option linter.unusedSimpArgs false
theorem short_walk (A : Option Addr) (c m : Nat) (l : List Int) (w : World) (hc : l.length ≤ c) (hm : m ≤ 1000) (hl : l.length ≤ 9223372036854775807) : Calls Try.prog 13 #[.slice A l.length c, .int .i64 (m : Nat)] w fun e w' => e = .returned (.slice A (l.take m).length c) ∧ w = w' := by
  obtain ⟨i5, hi5, _, hsz, _⟩ := info_parts info_u8'
  by_cases h : (m : Int) < (l.length : Int)
  · obtain ⟨hcut, -, -⟩ := print_take_of (P := Try.prog) (Value.int .u8) 0 23 5 .i64 Try.underlying23 hi5 hsz A c l (m : Int) (by omega) (by omega) hc
    rw [Int.toNat_natCast] at hcut
    generalize l.take m = t at *
    have b1 : decide ((m : Int) < (l.length : Int)) = true := decide_eq_true h
    go_enter Try.func13, Try.ntmps13
    go_wp2
    go_ret
    exact ⟨rfl, rfl⟩
  · rw [List.take_of_length_le (by omega)]
    have b1 : decide ((m : Int) < (l.length : Int)) = false := decide_eq_false h
    go_enter Try.func13, Try.ntmps13
    go_wp2
    go_ret
    exact ⟨rfl, rfl⟩
theorem C_short {w : World} {A : Option Addr} {l : List Int} (h : Kd.C (Kd.int .u8) w A l.length l) (m : Nat) : Kd.C (Kd.int .u8) w A (l.take m).length (l.take m) := by
  by_cases hm : m ≤ l.length
  · exact Kd.C_take h hm
  · rw [List.take_of_length_le (by omega)]; exact h
set_option maxHeartbeats 2000000 in
theorem texts_walk (A B : Option Addr) (ca cb : Nat) (ls : List (List Int)) (w : World) (hA : Kd.C (Kd.slice 5 (Kd.int .u8)) w A ls.length ls) (hB : Kd.C (Kd.slice 5 (Kd.int .u8)) w B ls.length ls) :
    Calls Try.prog 16 #[.slice A ls.length ca, .slice B ls.length cb] w fun e w' => e = .returned (.bool true) ∧ ∃ m, w' = w.drewN m := by
  have HA := Aside0.mk hA
  have HB := Aside0.mk hB
  have hm := hA.2.1
  clear hA hB
  go_enter Try.func16, Try.ntmps16
  go_wp2
  go_loopw [5] (fun v5 wr => ∃ i m : Nat, i ≤ ls.length ∧ v5 = .int .i64 (i : Nat) ∧ wr = w.drewN m) (fun v5 _ => ls.length - (intOf v5).toNat)
  case atStart => exact ⟨0, 0, Nat.zero_le _, rfl, rfl⟩
  case round =>
    obtain ⟨i, m, hi, rfl, rfl⟩ := hrel
    by_cases hlt : i < ls.length
    · have HA1 := Kd.C_drewN HA.out m
      have HB1 := Kd.C_drewN HB.out m
      obtain ⟨w1, hw1⟩ : ∃ z, w.drewN m = z := ⟨_, rfl⟩
      rw [hw1] at HA1 HB1 ⊢
      have HW := Aside0.mk hw1
      clear hw1
      obtain ⟨ad, Ai, ci, rfl, hcell, hli, hri⟩ := XSlices.at_rows HA1 i hlt
      obtain ⟨bd, Bi, di, rfl, hcell2, hli2, hri2⟩ := XSlices.at_rows HB1 i hlt
      have v1 := fun n => Kd.C_string (P := Try.prog) (A := Ai) (c := ci) Try.underlying23 Try.underlying5 Try.underlying9 (Kd.C_drewN hri n)
      have v2 := fun n => Kd.C_string (P := Try.prog) (A := Bi) (c := di) Try.underlying23 Try.underlying5 Try.underlying9 (Kd.C_drewN hri2 n)
      generalize ls[i] = x at *
      have g0 : (0 : Int) ≤ (i : Int) := by omega
      have g1 : (i : Int) < (ls.length : Int) := by omega
      clear hri hri2 HA HB HA1 HB1
      go_wp2_with fail
      go_quiet (fail)
      go_wp2
      go_roundw
      case rel => exact ⟨i + 1, m + nq, hlt, by go_num, by rw [← HW.out]; exact World.drewN_drewN _ _ _⟩
      case measure => simp [intOf]; omega
    · obtain rfl : i = ls.length := by omega
      go_wp2
      go_ret
      exact ⟨rfl, _, rfl⟩
/-! ### sectors below 4 that nobody writes -/
structure Low (G : List (List Int)) (s : St) : Prop where
  good : s.good.take 4 = G
  cache : ∀ x ∈ s.cache, 4 ≤ x.1
theorem low_now {G : List (List Int)} {s : St} (h : Low G s) (i : Nat) (hi : i < 4) : nowAt s (i : Nat) = G.getD i [] := by
  unfold nowAt
  have e : locF ((i : Nat) : Int) s.cache 0 = -1 := by
    rcases locF_range (i : Int) s.cache 0 with hl | ⟨j, hj, -, hx⟩
    · exact hl
    · have := h.cache _ (List.getElem_mem hj); omega
  rw [e, if_neg (by decide), Int.toNat_natCast, ← h.good, List.getD_eq_getElem?_getD, List.getD_eq_getElem?_getD, List.getElem?_take_of_lt hi]
theorem low_read {G : List (List Int)} {s s' : St} (h : Low G s) (h' : Low G s') (a : Nat) : ∀ n, a + n ≤ 4 → readAll s a n = readAll s' a n
  | 0, _ => rfl
  | n + 1, hn => by rw [readAll, readAll, low_read h h' a n (by omega), low_now h (a + n) (by omega), low_now h' (a + n) (by omega)]
theorem low_open {G : List (List Int)} {s s' : St} (h : Low G s) (h' : Low G s') : openCk s 2 = openCk s' 2 := by
  have e : (2 : Int).toNat = 2 := rfl
  unfold openCk
  rw [e, ckF, ckF, ckF, ckF, ckF, ckF]
  unfold ckStep
  rw [low_read h h' (1 * 2) 2 (by decide), low_read h h' (0 * 2) 2 (by decide)]
theorem low_write {G : List (List Int)} {s : St} (h : Low G s) (a : Int) (b : List Int) (ha : 4 ≤ a) : Low G (Write s a b).2 := by
  unfold Write
  split
  · split
    · refine ⟨by rw [(burn_same s).1]; exact h.good, fun x hx => ?_⟩
      have hx : x ∈ put s.cache a b := hx
      unfold put at hx
      split at hx
      · rcases List.mem_or_eq_of_mem_set hx with hx | rfl
        · exact h.cache x hx
        · exact ha
      · rcases List.mem_append.1 hx with hx | hx
        · exact h.cache x hx
        · rw [List.mem_singleton.1 hx]; exact ha
    · exact h
  · exact h
theorem low_put {G : List (List Int)} : ∀ (m : Nat) (s : St) (a : Int) (b : List Int), Low G s → 4 ≤ a → Low G (putAll m s a b).2
  | 0, s, a, b, h, _ => h
  | m + 1, s, a, b, h, ha => by
    rw [putAll]
    split
    · exact low_put m _ (a + 1) _ (low_write h a _ ha) (by omega)
    · exact low_write h a _ ha
theorem take_set (l : List (List Int)) (i : Nat) (x : List Int) (h : 4 ≤ i) : (l.set i x).take 4 = l.take 4 := by
  refine List.ext_getElem? (fun k => ?_)
  by_cases hk : k < 4
  · rw [List.getElem?_take_of_lt hk, List.getElem?_take_of_lt hk, List.getElem?_set_ne (by omega)]
  · rw [List.getElem?_eq_none (by rw [List.length_take]; omega), List.getElem?_eq_none (by rw [List.length_take]; omega)]
theorem low_over {G : List (List Int)} : ∀ (cs : List (Int × List Int)) (g : List (List Int)), g.take 4 = G → (∀ x ∈ cs, 4 ≤ x.1) → (over g cs).take 4 = G
  | [], g, h, _ => h
  | c :: cs, g, h, hc => by
    show (over (g.set c.1.toNat c.2) cs).take 4 = G
    exact low_over cs _ (by rw [take_set _ _ _ (by have := hc c (List.mem_cons_self ..); omega)]; exact h) (fun x hx => hc x (List.mem_cons_of_mem _ hx))
theorem low_flush {G : List (List Int)} {s : St} (h : Low G s) : Low G (Flush s).2 := by
  unfold Flush
  split
  · exact ⟨low_over _ _ h.good h.cache, fun x hx => by cases hx⟩
  · exact h
theorem low_crash {G : List (List Int)} {s : St} (h : Low G s) (keep torn cut : Int) : Low G (Crash s keep torn cut) := by
  refine ⟨?_, fun x hx => by cases hx⟩
  have key : ∀ k, k ≤ s.cache.length → (crashed keep torn cut s.good s.cache k).take 4 = G := by
    intro k
    induction k with
    | zero => intro _; exact h.good
    | succ k ih =>
      intro hk
      have hx : 4 ≤ (s.cache.getD k (0, [])).1 := by
        rw [List.getD_eq_getElem?_getD, List.getElem?_eq_getElem (by omega)]
        exact h.cache _ (List.getElem_mem _)
      show (hit keep torn cut k (s.cache.getD k (0, [])) (crashed keep torn cut s.good s.cache k)).take 4 = G
      unfold hit
      split
      · rw [take_set _ _ _ (by omega)]; exact ih (by omega)
      · split
        · rw [take_set _ _ _ (by omega)]; exact ih (by omega)
        · exact ih (by omega)
  exact key _ (Nat.le_refl _)
theorem crash_twice (s : St) (a b c d e f : Int) : Crash (Crash s a b c) d e f = Crash s a b c := rfl
/-- What a round of a law keeps. -/
structure Goes (G : List (List Int)) (j : Jr) (s : St) : Prop where
  ok : JOk j s
  low : Low G s
  slot : j.slot = 2
theorem goes_append {G : List (List Int)} {j : Jr} {s : St} {l : List Int} (h : Goes G j s) (hb : Bytes l) : Goes G (appendF j s l).2.1 (appendF j s l).2.2 := by
  refine ⟨append_ok h.ok hb, ?_, ?_⟩
  · have hn := h.ok.next
    have hs := h.slot
    unfold appendF
    split
    · exact h.low
    · split
      · exact h.low
      · split
        · exact h.low
        · split
          · exact low_put _ _ _ _ h.low (by omega)
          · exact low_put _ _ _ _ h.low (by omega)
  · unfold appendF
    split
    · exact h.slot
    · split
      · exact h.slot
      · split
        · exact h.slot
        · split <;> exact h.slot
theorem goes_commit {G : List (List Int)} {j : Jr} {s : St} (h : Goes G j s) : Goes G (commitF j s).2.1 (commitF j s).2.2 := by
  refine ⟨commit_ok h.ok, ?_, ?_⟩
  · unfold commitF
    split
    · exact low_flush h.low
    · exact h.low
  · unfold commitF; split <;> exact h.slot
end Go.Proofs.Ytglpelhbncdkmaa.XJour
