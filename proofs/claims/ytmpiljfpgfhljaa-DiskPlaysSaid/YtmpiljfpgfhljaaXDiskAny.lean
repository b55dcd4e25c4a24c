/-
  The disk's methods in one form each, and what they leave as it was (plain).
-/
import Derived.Laws.CopyOwn
import Derived.ArgAppend
import Derived.Below
import Derived.BigQuiet
import Derived.Deep.AppendLies
import Derived.Deep.CutBlock
import Derived.Deep.DeepCutAuto
import Derived.Deep.Draws
import Derived.Deep.LoopGhost
import Derived.Deep.OwnRows
import Derived.Deep.QuietTactic
import Derived.Deep.RegionHeld3
import Derived.Deep.WholeRow
import Derived.KernelRfl
import Derived.Laws.BitsLemmas
import Derived.Laws.BytesArg
import Derived.Laws.IdiomCopy
import Derived.Laws.MakeOwn
import Derived.Laws.OwnMore
import Derived.Laws.Rows
import Derived.Laws.Slices
import Derived.Lib.AppendStr
import Derived.Lib.ConvBytes
import Derived.Lib.Hide
import Derived.Maps.AppendAt
import Derived.OrdersHeld
import Derived.Outline
import Derived.OwnWalk
import Derived.RowKit
import Derived.RowKit3
import Derived.Tactics
import Derived.WalkKit
import Derived.WideLaws
import Derived.Test.YtmpiljfpgfhljaaProg
import Derived.Test.YtmpiljfpgfhljaaWApart
import Derived.Test.YtmpiljfpgfhljaaWArr
import Derived.Test.YtmpiljfpgfhljaaWAt
import Derived.Test.YtmpiljfpgfhljaaWEqStruct
import Derived.Test.YtmpiljfpgfhljaaWFoot
import Derived.Test.YtmpiljfpgfhljaaWFootNe
import Derived.Test.YtmpiljfpgfhljaaWFour
import Derived.Test.YtmpiljfpgfhljaaWGuard
import Derived.Test.YtmpiljfpgfhljaaWInv
import Derived.Test.YtmpiljfpgfhljaaWInvWords
import Derived.Test.YtmpiljfpgfhljaaWKept
import Derived.Test.YtmpiljfpgfhljaaWLast
import Derived.Test.YtmpiljfpgfhljaaWMore
import Derived.Test.YtmpiljfpgfhljaaWN
import Derived.Test.YtmpiljfpgfhljaaWNEv
import Derived.Test.YtmpiljfpgfhljaaWQPut
import Derived.Test.YtmpiljfpgfhljaaWRepsOne
import Derived.Test.YtmpiljfpgfhljaaWShare
import Derived.Test.YtmpiljfpgfhljaaWTab
import Derived.Test.YtmpiljfpgfhljaaWWords
import Derived.Test.YtmpiljfpgfhljaaWZeros
import Derived.Test.YtmpiljfpgfhljaaXSlices

import Derived.Test.YtmpiljfpgfhljaaXDiskAwake2
namespace Go.Proofs.Ytmpiljfpgfhljaa.XDisk
open Go.RowKit Go.Proofs.YtmpiljfpgfhljaaW.PrintWords Go.Proofs.YtmpiljfpgfhljaaW.PrintLast Go.Proofs.YtmpiljfpgfhljaaW.PrintMore
set_option linter.unusedVariables false
set_option linter.unusedSimpArgs false
def has (s : St) (i : Int) : Bool := decide (0 ≤ i) && decide (i < (s.good.length : Nat))
def readB (s : St) (i : Int) : List Int := if has s i = true then nowAt s i else []
def readE (s : St) (i : Int) : Int := if has s i = true then 0 else 1
theorem has_true {s : St} {i : Int} (h : has s i = true) : 0 ≤ i ∧ i < (s.good.length : Nat) := by
  unfold has at h
  rw [Bool.and_eq_true] at h
  exact ⟨of_decide_eq_true h.1, of_decide_eq_true h.2⟩
theorem read_any (base g : Nat) (s : St) (i : Int) (w : World) (h : DiskAt base w g s) :
    Calls Try.prog 16 #[.pointer (some ⟨g, 0, none⟩), .int .i64 i] w fun e w' => ∃ v, e = .returned (.tuple #[v, .int .i64 (readE s i)]) ∧ Kd.R (Kd.int .u8) 5 w' w.heap.size (fun _ => True) v (readB s i) ∧ Below w.heap.size w w' := by
  cases hq : has s i with
  | true =>
    have hr := has_true hq
    obtain ⟨n, rfl⟩ := Int.eq_ofNat_of_zero_le hr.1
    unfold readB readE
    rw [hq, if_pos rfl, if_pos rfl]
    exact read_walk base g s n w h (by omega)
  | false =>
    unfold readB readE
    rw [hq, if_neg (by decide), if_neg (by decide)]
    refine (read_arg base g s i w h hq).mono ?_
    rintro e w' ⟨rfl, rfl⟩
    exact ⟨_, rfl, Kd.R_nil _ _ _ _ _, Below.refl _ _⟩
def Flush (s : St) : Int × St := if (Burn s).1 = true then (0, { (Burn s).2 with good := over s.good s.cache, cache := [] }) else (10, s)
theorem burn_no {s : St} (h : (Burn s).1 = false) : (Burn s).2 = s := by
  unfold Burn at h ⊢
  split
  · rfl
  · rw [if_neg (by assumption)] at h; split at h <;> cases h
def InR (s : St) : Prop := ∀ x ∈ s.cache, 0 ≤ x.1 ∧ x.1 < (s.good.length : Nat)
theorem flush_any (base g : Nat) (s : St) (w : World) (h : DiskAt base w g s) (hf : s.fuse ≤ 9223372036854775807) (hwf : InR s) :
    Calls Try.prog 14 #[.pointer (some ⟨g, 0, none⟩)] w fun e w' => e = .returned (.int .i64 (Flush s).1) ∧ DiskAt base w' g (Flush s).2 ∧ KeepD base w w' := by
  cases hB : (Burn s).1 with
  | true =>
    have hb := burn_same s
    have := flush_ok base g s _ w h hf hB rfl (by rw [hb.1, hb.2]; exact hwf)
    unfold Flush
    rw [hB, if_pos rfl]
    rw [hb.1, hb.2] at this
    exact this
  | false =>
    have := flush_down base g s w h hf hB
    unfold Flush
    rw [hB, if_neg (by decide)]
    rw [burn_no hB] at this
    exact this
def Crash (s : St) (keep torn cut : Int) : St := { good := crashed keep torn cut s.good s.cache s.cache.length, cache := [], fuse := -1 }
/-! ### plain -/
/-- Each sector is cached once. -/
def Once : List (Int × List Int) → Prop
  | [] => True
  | x :: xs => (∀ y ∈ xs, y.1 ≠ x.1) ∧ Once xs
structure Ok (s : St) : Prop where
  inr : InR s
  once : Once s.cache
theorem locF_none {i : Int} : ∀ {xs : List (Int × List Int)} {k : Nat}, locF i xs k = -1 → ∀ x ∈ xs, x.1 ≠ i
  | [], _, _, x, hx => by cases hx
  | y :: ys, k, h, x, hx => by
    unfold locF at h
    split at h
    · omega
    · rename_i hne
      rcases List.mem_cons.1 hx with rfl | hx
      · intro e; exact hne (by rw [e]; exact beq_self_eq_true i)
      · exact locF_none h x hx
theorem once_snoc {i : Int} {b : List Int} : ∀ {xs : List (Int × List Int)}, Once xs → (∀ x ∈ xs, x.1 ≠ i) → Once (xs ++ [(i, b)])
  | [], _, _ => ⟨(fun y hy => by cases hy), trivial⟩
  | x :: xs, h, hn => ⟨fun y hy => by
      rcases List.mem_append.1 hy with hy | hy
      · exact h.1 y hy
      · rw [List.mem_singleton.1 hy]; exact fun e => hn x (List.mem_cons_self ..) e.symm, once_snoc h.2 (fun y hy => hn y (List.mem_cons_of_mem _ hy))⟩
theorem once_set {i : Int} {b : List Int} : ∀ {xs : List (Int × List Int)} {j : Nat}, Once xs → (∀ h : j < xs.length, (xs[j]).1 = i) → Once (xs.set j (i, b))
  | [], _, _, _ => trivial
  | x :: xs, 0, h, hi => ⟨fun y hy => by have := hi (by simp); rw [show i = x.1 from this.symm]; exact h.1 y hy, h.2⟩
  | x :: xs, j + 1, h, hi => ⟨fun y hy => by
      rw [List.mem_iff_getElem?] at hy
      obtain ⟨q, hq⟩ := hy
      by_cases e : j = q
      · subst e
        have hl := (List.getElem?_eq_some_iff.1 hq).1
        rw [List.length_set] at hl
        rw [List.getElem?_set_self hl] at hq
        have := Option.some.inj hq
        rw [← this]
        have h2 := h.1 (xs[j]) (List.getElem_mem hl)
        have h3 : (xs[j]).1 = i := hi (by simpa using hl)
        rw [h3] at h2; exact h2
      · rw [List.getElem?_set_ne e] at hq
        exact h.1 y (List.mem_of_getElem? hq), once_set h.2 (fun hl => hi (by simpa using hl))⟩
theorem put_ok {xs : List (Int × List Int)} {i : Int} {b : List Int} (h : Once xs) : Once (put xs i b) ∧ (put xs i b).length ≤ xs.length + 1 ∧ ∀ x ∈ put xs i b, x = (i, b) ∨ x ∈ xs := by
  unfold put
  rcases locF_range i xs 0 with hl | ⟨j, hj, hl, hi⟩
  · rw [hl, if_neg (by decide)]
    refine ⟨once_snoc h (locF_none hl), by simp, fun x hx => ?_⟩
    rcases List.mem_append.1 hx with hx | hx
    · exact .inr hx
    · exact .inl (List.mem_singleton.1 hx)
  · rw [hl, if_pos (by omega)]
    have e : ((0 + j : Nat) : Int).toNat = j := by omega
    rw [e]
    refine ⟨once_set h (fun _ => hi), by rw [List.length_set]; omega, fun x hx => ?_⟩
    rcases List.mem_or_eq_of_mem_set hx with hx | hx
    · exact .inr hx
    · exact .inl hx
theorem write_keeps (s : St) (i : Int) (b : List Int) (h : Ok s) : Ok (Write s i b).2 ∧ (Write s i b).2.good = s.good ∧ (Write s i b).2.cache.length ≤ s.cache.length + 1 := by
  unfold Write
  split
  · rename_i hg
    split
    · have hp := put_ok (i := i) (b := b) h.once
      refine ⟨⟨fun x hx => ?_, hp.1⟩, (burn_same s).1, hp.2.1⟩
      have hb := (burn_same s).1
      show 0 ≤ x.1 ∧ x.1 < ((Burn s).2.good.length : Nat)
      rw [hb]
      rcases hp.2.2 x hx with rfl | hx
      · exact has_true hg.1
      · exact h.inr x hx
    · exact ⟨h, rfl, Nat.le_succ _⟩
  · exact ⟨h, rfl, Nat.le_succ _⟩
theorem flush_keeps (s : St) (h : Ok s) : Ok (Flush s).2 ∧ (Flush s).2.good.length = s.good.length ∧ (Flush s).2.cache.length ≤ s.cache.length := by
  unfold Flush
  split
  · exact ⟨⟨(fun x hx => by cases hx), trivial⟩, over_len _ _, Nat.zero_le _⟩
  · exact ⟨h, rfl, Nat.le_refl _⟩
theorem over_get (i : Nat) : ∀ (xs : List (Int × List Int)) (g : List (List Int)), (∀ x ∈ xs, 0 ≤ x.1) → Once xs → i < g.length → (over g xs).getD i [] = if 0 ≤ locF (i : Int) xs 0 then (xs.getD (locF (i : Int) xs 0).toNat (0, [])).2 else g.getD i []
  | [], g, _, _, _ => by
    have e : locF (i : Int) [] 0 = -1 := rfl
    rw [e, if_neg (by decide)]; rfl
  | x :: xs, g, h0, h, hi => by
    have ih := over_get i xs (g.set x.1.toNat x.2) (fun y hy => h0 y (List.mem_cons_of_mem _ hy)) h.2 (by rw [List.length_set]; exact hi)
    have e : over g (x :: xs) = over (g.set x.1.toNat x.2) xs := rfl
    rw [e, ih]
    have hx0 := h0 x (List.mem_cons_self ..)
    have hs : ∀ k : Nat, locF (i : Int) xs (k + 1) = if locF (i : Int) xs k = -1 then -1 else locF (i : Int) xs k + 1 := by
      intro k
      rcases locF_range (i : Int) xs k with hl | ⟨j, hj, hl, hi'⟩
      · rw [hl, if_pos rfl]
        rcases locF_range (i : Int) xs (k + 1) with hl2 | ⟨j, hj, hl2, hi'⟩
        · exact hl2
        · exact absurd hi' (locF_none hl _ (List.getElem_mem hj))
      · rw [hl, if_neg (by omega)]
        clear ih e
        induction xs generalizing k j with
        | nil => cases hj
        | cons y ys ihy =>
          unfold locF at hl ⊢
          split
          · rename_i hy
            rw [if_pos hy] at hl
            rw [← hl]; omega
          · rename_i hy
            rw [if_neg hy] at hl
            cases j with
            | zero => exact absurd (by rw [show y.1 = i from hi']; exact beq_self_eq_true _) hy
            | succ j =>
              have := ihy (fun z hz => h0 z (by rcases List.mem_cons.1 hz with rfl | hz; exact List.mem_cons_self ..; exact List.mem_cons_of_mem _ (List.mem_cons_of_mem _ hz))) ⟨fun z hz => h.1 z (List.mem_cons_of_mem _ hz), h.2.2⟩ (k + 1) j (by simpa using hj) (by rw [hl]; congr 1; omega) (by simpa using hi')
              rw [this]; congr 1; omega
    have e2 : locF (i : Int) (x :: xs) 0 = if x.1 == (i : Int) then ((0 : Nat) : Int) else locF (i : Int) xs (0 + 1) := by rw [locF]
    by_cases hq : x.1 = (i : Int)
    · have hb : (x.1 == (i : Int)) = true := by rw [hq]; exact beq_self_eq_true _
      have hn : locF (i : Int) xs 0 = -1 := by
        rcases locF_range (i : Int) xs 0 with hl | ⟨j, hj, hl, hi'⟩
        · exact hl
        · exact absurd (hi'.trans hq.symm) (h.1 _ (List.getElem_mem hj))
      rw [e2, hb, if_pos rfl, hn, if_neg (by decide), if_pos (by decide)]
      rw [show x.1.toNat = i from by omega]
      rw [List.getD_eq_getElem?_getD, List.getElem?_set_self hi]; rfl
    · have hb : (x.1 == (i : Int)) = false := beq_eq_false_iff_ne.2 hq
      have e3 := hs 0
      have hset : (g.set x.1.toNat x.2).getD i [] = g.getD i [] := by rw [List.getD_eq_getElem?_getD, List.getElem?_set_ne (by omega), List.getD_eq_getElem?_getD]
      have e4 : locF (i : Int) (x :: xs) 0 = locF (i : Int) xs (0 + 1) := by rw [e2, hb]; rfl
      rw [e4, hset]
      rcases locF_range (i : Int) xs 0 with hl | ⟨j, hj, hl, hi'⟩
      · rw [hl, if_pos rfl] at e3
        rw [e3, hl]; rfl
      · rw [if_neg (by omega)] at e3
        rw [e3, hl, if_pos (by omega), if_pos (by omega)]
        rw [show (((0 + j : Nat) : Int) + 1).toNat = j + 1 from by omega, show ((0 + j : Nat) : Int).toNat = j from by omega]
        rfl
theorem flush_reads (s : St) (h : Ok s) (i : Int) : readB (Flush s).2 i = readB s i := by
  have hlen := (flush_keeps s h).2.1
  have hh : has (Flush s).2 i = has s i := by unfold has; rw [hlen]
  unfold readB
  rw [hh]
  cases hq : has s i with
  | false => rfl
  | true =>
    rw [if_pos rfl, if_pos rfl]
    obtain ⟨h0, h1⟩ := has_true hq
    obtain ⟨n, rfl⟩ := Int.eq_ofNat_of_zero_le h0
    unfold Flush
    split
    · unfold nowAt
      have e : locF (n : Int) [] 0 = -1 := rfl
      simp only
      rw [e, if_neg (by decide), Int.toNat_natCast]
      exact over_get n s.cache s.good (fun x hx => (h.inr x hx).1) h.once (by omega)
    · rfl
theorem write_same (s : St) (i : Int) (b : List Int) (h : (Write s i b).1 ≠ 0) : (Write s i b).2 = s := by
  unfold Write at h ⊢
  split
  · rename_i hg
    rw [if_pos hg] at h
    split
    · rename_i hb
      rw [if_pos hb] at h
      exact absurd rfl h
    · rfl
  · rfl
theorem write_fuse (s : St) (i : Int) (b : List Int) (hf : 0 ≤ s.fuse) : ((Write s i b).1 = 0 ∧ 0 < s.fuse ∧ (Write s i b).2.fuse = s.fuse - 1) ∨ ((Write s i b).1 = 1 ∧ (Write s i b).2.fuse = s.fuse) ∨ ((Write s i b).1 = 10 ∧ s.fuse = 0 ∧ (Write s i b).2.fuse = s.fuse) := by
  by_cases h0 : s.fuse = 0
  · have hB : Burn s = (false, s) := by unfold Burn; rw [if_pos h0]
    unfold Write
    rw [hB]
    split
    · exact .inr (.inr ⟨rfl, h0, rfl⟩)
    · exact .inr (.inl ⟨rfl, rfl⟩)
  · have hp : 0 < s.fuse := by omega
    have hB : Burn s = (true, { s with fuse := s.fuse - 1 }) := by unfold Burn; rw [if_neg h0, if_pos hp]
    unfold Write
    rw [hB]
    split
    · exact .inl ⟨rfl, hp, rfl⟩
    · exact .inr (.inl ⟨rfl, rfl⟩)
theorem flush_fuse (s : St) (hf : 0 ≤ s.fuse) : ((Flush s).1 = 0 ∧ 0 < s.fuse ∧ (Flush s).2.fuse = s.fuse - 1) ∨ ((Flush s).1 = 10 ∧ s.fuse = 0 ∧ (Flush s).2.fuse = s.fuse) := by
  by_cases h0 : s.fuse = 0
  · have hB : Burn s = (false, s) := by unfold Burn; rw [if_pos h0]
    unfold Flush
    rw [hB]
    exact .inr ⟨rfl, h0, rfl⟩
  · have hp : 0 < s.fuse := by omega
    have hB : Burn s = (true, { s with fuse := s.fuse - 1 }) := by unfold Burn; rw [if_neg h0, if_pos hp]
    unfold Flush
    rw [hB]
    exact .inl ⟨rfl, hp, rfl⟩
end Go.Proofs.Ytmpiljfpgfhljaa.XDisk
