/-
  package journal: what its methods keep (plain).
-/
import Derived.Laws.CopyOwn
import Derived.ArgAppend
import Derived.Below
import Derived.BigQuiet
import Derived.Deep.AppendLies
import Derived.Deep.CutBlock
import Derived.Deep.DeepCutAuto
import Derived.Deep.Draws
import Derived.Deep.LoopGhost
import Derived.Deep.OwnRows
import Derived.Deep.QuietTactic
import Derived.Deep.RegionHeld3
import Derived.Deep.WholeRow
import Derived.KernelRfl
import Derived.Laws.BitsLemmas
import Derived.Laws.BytesArg
import Derived.Laws.IdiomCopy
import Derived.Laws.MakeOwn
import Derived.Laws.OwnMore
import Derived.Laws.Rows
import Derived.Laws.Slices
import Derived.Lib.AppendStr
import Derived.Lib.ConvBytes
import Derived.Lib.Hide
import Derived.Maps.AppendAt
import Derived.OrdersHeld
import Derived.Outline
import Derived.OwnWalk
import Derived.RowKit
import Derived.RowKit3
import Derived.Tactics
import Derived.WalkKit
import Derived.WideLaws
import Derived.Test.YtglpelhbncdkmaaProg
import Derived.Test.YtglpelhbncdkmaaWApart
import Derived.Test.YtglpelhbncdkmaaWArr
import Derived.Test.YtglpelhbncdkmaaWAt
import Derived.Test.YtglpelhbncdkmaaWEqStruct
import Derived.Test.YtglpelhbncdkmaaWFoot
import Derived.Test.YtglpelhbncdkmaaWFootNe
import Derived.Test.YtglpelhbncdkmaaWFour
import Derived.Test.YtglpelhbncdkmaaWGuard
import Derived.Test.YtglpelhbncdkmaaWInv
import Derived.Test.YtglpelhbncdkmaaWInvWords
import Derived.Test.YtglpelhbncdkmaaWKept
import Derived.Test.YtglpelhbncdkmaaWLast
import Derived.Test.YtglpelhbncdkmaaWMore
import Derived.Test.YtglpelhbncdkmaaWN
import Derived.Test.YtglpelhbncdkmaaWNEv
import Derived.Test.YtglpelhbncdkmaaWQPut
import Derived.Test.YtglpelhbncdkmaaWRepsOne
import Derived.Test.YtglpelhbncdkmaaWShare
import Derived.Test.YtglpelhbncdkmaaWTab
import Derived.Test.YtglpelhbncdkmaaWWords
import Derived.Test.YtglpelhbncdkmaaWZeros
import Derived.Test.YtglpelhbncdkmaaXSlices

import Derived.Test.YtglpelhbncdkmaaXJour7
import Derived.Test.YtglpelhbncdkmaaXJour10
namespace Go.Proofs.Ytglpelhbncdkmaa.XJour
open Go.RowKit Go.Proofs.YtglpelhbncdkmaaW.PrintWords Go.Proofs.YtglpelhbncdkmaaW.PrintLast Go.Proofs.YtglpelhbncdkmaaW.PrintMore XDisk XChunk XUnpack XData
set_option linter.unusedVariables false
set_option linter.unusedSimpArgs false
theorem fresh_fine (n : Nat) : Fine (fresh n) where
  good := by
    intro x hx
    have hx : x ∈ List.replicate n (List.replicate 32 (0 : Int)) := hx
    rw [List.eq_of_mem_replicate hx]
    exact ⟨List.length_replicate .., fun c hc => by rw [List.eq_of_mem_replicate hc]; decide⟩
  cache := fun x hx => by cases hx
  inr := fun x hx => by cases hx
  once := trivial
theorem over_fine : ∀ (cs : List (Int × List Int)) (g : List (List Int)), (∀ x ∈ g, x.length = 32 ∧ Bytes x) → (∀ x ∈ cs, x.2.length = 32 ∧ Bytes x.2) → ∀ x ∈ over g cs, x.length = 32 ∧ Bytes x
  | [], g, hg, _ => hg
  | c :: cs, g, hg, hc => by
    show ∀ x ∈ over (g.set c.1.toNat c.2) cs, _
    refine over_fine cs _ (fun x hx => ?_) (fun x hx => hc x (List.mem_cons_of_mem _ hx))
    rcases List.mem_or_eq_of_mem_set hx with hx | rfl
    · exact hg x hx
    · exact hc c (List.mem_cons_self ..)
theorem flush_fine {s : St} (h : Fine s) : Fine (Flush s).2 ∧ (Flush s).2.good.length = s.good.length ∧ (Flush s).2.fuse ≤ s.fuse := by
  unfold Flush
  split
  · exact ⟨⟨over_fine _ _ h.good h.cache, (fun x hx => by cases hx), (fun x hx => by cases hx), trivial⟩, over_len _ _, burn_fuse s⟩
  · exact ⟨h, rfl, Int.le_refl _⟩
theorem hit_fine (keep torn cut : Int) (k : Nat) (x : Int × List Int) (g : List (List Int)) (hg : ∀ y ∈ g, y.length = 32 ∧ Bytes y) (hx : x.2.length = 32 ∧ Bytes x.2) : ∀ y ∈ hit keep torn cut k x g, y.length = 32 ∧ Bytes y := by
  intro y hy
  unfold hit at hy
  split at hy
  · rcases List.mem_or_eq_of_mem_set hy with hy' | rfl
    · exact hg y hy'
    · by_cases hi : x.1.toNat < g.length
      · have h1 := hg _ (List.getElem_mem hi)
        have h2 : g.getD x.1.toNat [] = g[x.1.toNat] := by rw [List.getD_eq_getElem?_getD, List.getElem?_eq_getElem hi]; rfl
        rw [h2]
        unfold mixed
        have hc : cutAt cut ≤ 32 := by unfold cutAt mx mn; omega
        refine ⟨by rw [List.length_append, List.length_take, List.length_drop, h1.1, hx.1]; omega, fun c hc => ?_⟩
        rcases List.mem_append.1 hc with hc | hc
        · exact hx.2 c (List.mem_of_mem_take hc)
        · exact h1.2 c (List.mem_of_mem_drop hc)
      · rw [List.set_eq_of_length_le (by omega)] at hy
        exact hg _ hy
  · split at hy
    · rcases List.mem_or_eq_of_mem_set hy with hy | rfl
      · exact hg y hy
      · exact hx
    · exact hg y hy
theorem crash_fine {s : St} (h : Fine s) (keep torn cut : Int) : Fine (Crash s keep torn cut) ∧ (Crash s keep torn cut).good.length = s.good.length := by
  refine ⟨⟨?_, (fun x hx => by cases hx), (fun x hx => by cases hx), trivial⟩, crashed_len ..⟩
  show ∀ y ∈ crashed keep torn cut s.good s.cache s.cache.length, _
  have key : ∀ k, k ≤ s.cache.length → ∀ y ∈ crashed keep torn cut s.good s.cache k, y.length = 32 ∧ Bytes y := by
    intro k
    induction k with
    | zero => intro _; exact h.good
    | succ k ih =>
      intro hk
      refine hit_fine keep torn cut k _ _ (ih (by omega)) ?_
      rw [List.getD_eq_getElem?_getD, List.getElem?_eq_getElem (by omega)]
      exact h.cache _ (List.getElem_mem _)
  exact key _ (Nat.le_refl _)
/-! ### the journal's state -/
theorem jok_down {j : Jr} {s : St} (h : JOk j s) (b : Bool) : JOk { j with down := b } s := ⟨h.fine, h.size, h.fuse, h.slot, h.place, h.epoch, h.seq, h.next⟩
theorem jok_flush {j : Jr} {s : St} (h : JOk j s) : JOk j (Flush s).2 := by
  obtain ⟨h1, h2, h3⟩ := flush_fine h.fine
  exact ⟨h1, by rw [h2]; exact h.size, Int.le_trans h3 h.fuse, by rw [h2]; exact h.slot, h.place, h.epoch, h.seq, by rw [h2]; exact h.next⟩
theorem commit_ok {j : Jr} {s : St} (h : JOk j s) : JOk (commitF j s).2.1 (commitF j s).2.2 := by
  unfold commitF
  split
  · exact jok_down (jok_flush h) _
  · exact h
theorem jok_put {j : Jr} {s : St} (h : JOk j s) (m : Nat) (a : Int) (b : List Int) (hl : b.length = 32 * m) (hb : Bytes b) : JOk j (putAll m s a b).2 := by
  obtain ⟨h1, h2, h3, h4⟩ := putAll_fine m s a b h.fine hl hb
  exact ⟨h1, by rw [h2]; exact h.size, Int.le_trans h4 h.fuse, by rw [h2]; exact h.slot, h.place, h.epoch, h.seq, by rw [h2]; exact h.next⟩
theorem append_ok {j : Jr} {s : St} {l : List Int} (h : JOk j s) (hb : Bytes l) : JOk (appendF j s l).2.1 (appendF j s l).2.2 := by
  unfold appendF
  split
  · exact h
  · split
    · exact h
    · rename_i h1 h2
      split
      · exact h
      · rename_i h3
        have hp := jok_put h (sectors l.length) j.next (packed j.epoch (j.seq + 1) l) (packed_len ..) (packed_bytes _ _ _ hb)
        split
        · have := h.seq; have := h.next
          have hg := (putAll_fine (sectors l.length) s j.next (packed j.epoch (j.seq + 1) l) h.fine (packed_len ..) (packed_bytes _ _ _ hb)).2.1
          exact ⟨hp.fine, hp.size, hp.fuse, hp.slot, hp.place, hp.epoch, ⟨by simp only; omega, by simp only; omega⟩, ⟨by simp only; omega, by simp only; rw [hg]; omega⟩⟩
        · exact jok_down hp _
theorem checkpoint_ok {j : Jr} {s : St} {l : List Int} (h : JOk j s) (hb : Bytes l) : JOk (checkpointF j s l).2.1 (checkpointF j s l).2.2 := by
  unfold checkpointF
  split
  · exact h
  · split
    · exact h
    · rename_i h1 h2
      have hpl := packF_len (lastF s s.good.length + 1) j.seq j.slot l
      have hp := jok_put h ((packF (lastF s s.good.length + 1) j.seq j.slot l).2.length / 32) ((1 - j.place) * j.slot) (packF (lastF s s.good.length + 1) j.seq j.slot l).2 hpl.1 (packF_bytes _ _ _ _ hb)
      split
      · exact jok_down hp _
      · split
        · exact jok_down (jok_flush hp) _
        · have hf := jok_flush hp
          have hlr := lastF_range s h.fine s.good.length (Nat.le_refl _)
          have he : lastF s s.good.length + 1 ≤ 4294967295 := by
            unfold packF at h2
            split at h2
            · exact absurd (by decide) h2
            · omega
          have := hf.place; have := hf.slot
          exact ⟨hf.fine, hf.size, hf.fuse, hf.slot, by simp only; omega, ⟨by simp only; omega, by simp only; omega⟩, hf.seq, ⟨by simp only; omega, by simp only; omega⟩⟩
theorem recs_range : ∀ (f : Nat) (ep sq : Int) (l : List Int), Bytes l → sq ≤ 4294967295 → sq + ((recs f ep sq l).1.length : Nat) ≤ 4294967295 ∧ 32 * (recs f ep sq l).2 ≤ l.length
  | 0, _, sq, l, _, h => by rw [recs]; exact ⟨by simpa using h, Nat.zero_le _⟩
  | f + 1, ep, sq, l, hb, h => by
    rw [recs]
    split
    · rename_i hc
      obtain ⟨e', s', b', hE, h32, -, -, -, -, hs'⟩ := unpackF_ok hb hc.1
      rw [hE] at hc ⊢
      have h2 : s' = sq + 1 := hc.2.2
      simp only [Int.toNat_natCast, List.length_cons]
      obtain ⟨i1, i2⟩ := recs_range f ep (sq + 1) (l.drop (32 * sectors b'.length)) (fun c hc => hb c (List.mem_of_mem_drop hc)) (by omega)
      rw [List.length_drop] at i2
      exact ⟨by omega, by omega⟩
    · exact ⟨by simpa using h, Nat.zero_le _⟩
theorem open_ok {s : St} {slot : Int} (hS : Fine s) (hz : s.good.length ≤ 1024) (hf : s.fuse ≤ 9223372036854775807) (hm : mayF s slot = true) (hc : 0 ≤ (openCk s slot).1) : JOk (openJ s slot) s := by
  obtain ⟨m1, m2, m3⟩ := may_some hm
  have hrg := ckF_range hS (sl := slot.toNat) (j := new slot) (by unfold new; simp) (by unfold new; simp) 2 (by omega)
  have hrf := readAll_fine hS (2 * slot.toNat) (s.good.length - 2 * slot.toNat) (by omega)
  have hrr := recs_range (s.good.length - 2 * slot.toNat + 1) (openCk s slot).2.1 (openCk s slot).2.2.1 (readAll s (2 * slot.toNat) (s.good.length - 2 * slot.toNat)) hrf.2 hrg.2.1.2
  have h1 := hrg.2.2.1
  change (openCk s slot).1 = -1 ∨ _ at h1
  have h2 : 0 ≤ (openCk s slot).2.2.1 := hrg.2.1.1
  have h3 : (openCk s slot).2.2.1 + ((openRec s slot).1.length : Nat) ≤ 4294967295 := hrr.1
  have h4 : 32 * (openRec s slot).2 ≤ (readAll s (2 * slot.toNat) (s.good.length - 2 * slot.toNat)).length := hrr.2
  rw [hrf.1] at h4
  refine ⟨hS, hz, hf, ⟨m1, m3⟩, ?_, hrg.1, ⟨?_, h3⟩, ⟨?_, ?_⟩⟩
  · show (openCk s slot).1 = 0 ∨ (openCk s slot).1 = 1
    rcases h1 with h1 | h1
    · omega
    · have : (openCk s slot).1 < ((2 : Nat) : Int) := h1.2
      omega
  · show 0 ≤ (openCk s slot).2.2.1 + ((openRec s slot).1.length : Nat); omega
  · show 2 * slot ≤ 2 * slot + ((openRec s slot).2 : Nat); omega
  · show 2 * slot + ((openRec s slot).2 : Nat) ≤ (s.good.length : Nat); omega
end Go.Proofs.Ytglpelhbncdkmaa.XJour
