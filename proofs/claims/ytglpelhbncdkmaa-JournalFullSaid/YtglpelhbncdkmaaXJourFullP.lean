/-
  JournalFull, the plain part: a journal on a disk without a fuse.
-/
import Derived.Laws.CopyOwn
import Derived.ArgAppend
import Derived.Below
import Derived.BigQuiet
import Derived.Deep.AppendLies
import Derived.Deep.CutBlock
import Derived.Deep.DeepCutAuto
import Derived.Deep.Draws
import Derived.Deep.LoopGhost
import Derived.Deep.OwnRows
import Derived.Deep.QuietTactic
import Derived.Deep.RegionHeld3
import Derived.Deep.WholeRow
import Derived.KernelRfl
import Derived.Laws.BitsLemmas
import Derived.Laws.BytesArg
import Derived.Laws.IdiomCopy
import Derived.Laws.MakeOwn
import Derived.Laws.OwnMore
import Derived.Laws.Rows
import Derived.Laws.Slices
import Derived.Lib.AppendStr
import Derived.Lib.ConvBytes
import Derived.Lib.Hide
import Derived.Maps.AppendAt
import Derived.OrdersHeld
import Derived.Outline
import Derived.OwnWalk
import Derived.RowKit
import Derived.RowKit3
import Derived.Tactics
import Derived.WalkKit
import Derived.WideLaws
import Derived.Test.YtglpelhbncdkmaaProg
import Derived.Test.YtglpelhbncdkmaaWApart
import Derived.Test.YtglpelhbncdkmaaWArr
import Derived.Test.YtglpelhbncdkmaaWAt
import Derived.Test.YtglpelhbncdkmaaWEqStruct
import Derived.Test.YtglpelhbncdkmaaWFoot
import Derived.Test.YtglpelhbncdkmaaWFootNe
import Derived.Test.YtglpelhbncdkmaaWFour
import Derived.Test.YtglpelhbncdkmaaWGuard
import Derived.Test.YtglpelhbncdkmaaWInv
import Derived.Test.YtglpelhbncdkmaaWInvWords
import Derived.Test.YtglpelhbncdkmaaWKept
import Derived.Test.YtglpelhbncdkmaaWLast
import Derived.Test.YtglpelhbncdkmaaWMore
import Derived.Test.YtglpelhbncdkmaaWN
import Derived.Test.YtglpelhbncdkmaaWNEv
import Derived.Test.YtglpelhbncdkmaaWQPut
import Derived.Test.YtglpelhbncdkmaaWRepsOne
import Derived.Test.YtglpelhbncdkmaaWShare
import Derived.Test.YtglpelhbncdkmaaWTab
import Derived.Test.YtglpelhbncdkmaaWWords
import Derived.Test.YtglpelhbncdkmaaWZeros
import Derived.Test.YtglpelhbncdkmaaXSlices

import Derived.Test.YtglpelhbncdkmaaXJourLaw
namespace Go.Proofs.Ytglpelhbncdkmaa.XJour
open Go.RowKit Go.Proofs.YtglpelhbncdkmaaW.PrintWords Go.Proofs.YtglpelhbncdkmaaW.PrintLast Go.Proofs.YtglpelhbncdkmaaW.PrintMore XDisk XChunk XUnpack XData
set_option linter.unusedVariables false
set_option linter.unusedSimpArgs false
/-! ### what is written without a fuse is written -/
theorem burn_free {s : St} (h : s.fuse = -1) : Burn s = (true, s) := by unfold Burn; rw [if_neg (by rw [h]; decide), if_neg (by rw [h]; decide)]
theorem write_up {s : St} (h : s.fuse = -1) (a : Int) (b : List Int) (ha : 0 ≤ a ∧ a < (s.good.length : Nat)) (hb : b.length = 32) : (Write s a b).1 = 0 ∧ (Write s a b).2.fuse = -1 ∧ (Write s a b).2.good = s.good := by
  unfold Write
  rw [burn_free h, if_pos ⟨by rw [decide_eq_true ha.1, decide_eq_true ha.2]; rfl, hb⟩, if_pos rfl]
  exact ⟨rfl, h, rfl⟩
theorem put_up : ∀ (m : Nat) (s : St) (a : Int) (b : List Int), s.fuse = -1 → 0 ≤ a → a + (m : Nat) ≤ (s.good.length : Nat) → b.length = 32 * m → (putAll m s a b).1 = 0 ∧ (putAll m s a b).2.fuse = -1 ∧ (putAll m s a b).2.good = s.good
  | 0, s, a, b, h, _, _, _ => ⟨rfl, h, rfl⟩
  | m + 1, s, a, b, h, ha, hm, hb => by
    obtain ⟨h1, h2, h3⟩ := write_up h a (b.take 32) ⟨ha, by omega⟩ (by rw [List.length_take]; omega)
    rw [putAll, if_pos h1]
    obtain ⟨i1, i2, i3⟩ := put_up m (Write s a (b.take 32)).2 (a + 1) (b.drop 32) h2 (by omega) (by rw [h3]; omega) (by rw [List.length_drop]; omega)
    exact ⟨i1, i2, i3.trans h3⟩
theorem flush_up {s : St} (h : s.fuse = -1) : (Flush s).1 = 0 ∧ (Flush s).2.fuse = -1 ∧ (Flush s).2.good.length = s.good.length := by
  unfold Flush
  rw [burn_free h, if_pos rfl]
  exact ⟨rfl, h, over_len _ _⟩
/-! ### epochs -/
def EpLe (E : Int) (s : St) : Prop := (∀ x ∈ s.good, epochOf x ≤ E) ∧ ∀ x ∈ s.cache, epochOf x.2 ≤ E
theorem ep_now {E : Int} {s : St} (h : EpLe E s) (i : Nat) (hi : i < s.good.length) : epochOf (nowAt s (i : Nat)) ≤ E := by
  unfold nowAt
  rcases locF_range (i : Int) s.cache 0 with hl | ⟨j, hj, hl, -⟩
  · rw [hl, if_neg (by decide), Int.toNat_natCast, List.getD_eq_getElem?_getD, List.getElem?_eq_getElem hi]
    exact h.1 _ (List.getElem_mem hi)
  · rw [hl, if_pos (by omega), show ((0 + j : Nat) : Int).toNat = j from by omega, List.getD_eq_getElem?_getD, List.getElem?_eq_getElem hj]
    exact h.2 _ (List.getElem_mem hj)
theorem ep_last {E : Int} {s : St} (h : EpLe E s) (h0 : 0 ≤ E) : ∀ n, n ≤ s.good.length → lastF s n ≤ E
  | 0, _ => by rw [lastF]; exact h0
  | n + 1, hn => by
    have := ep_last h h0 n (by omega)
    have := ep_now h n (by omega)
    rw [lastF]; unfold mx; split <;> omega
theorem ep_write {E : Int} {s : St} (h : EpLe E s) (a : Int) (b : List Int) (hb : epochOf b ≤ E) : EpLe E (Write s a b).2 := by
  unfold Write
  split
  · split
    · refine ⟨by rw [(burn_same s).1]; exact h.1, fun x hx => ?_⟩
      have hx : x ∈ put s.cache a b := hx
      unfold put at hx
      split at hx
      · rcases List.mem_or_eq_of_mem_set hx with hx | rfl
        · exact h.2 x hx
        · exact hb
      · rcases List.mem_append.1 hx with hx | hx
        · exact h.2 x hx
        · rw [List.mem_singleton.1 hx]; exact hb
    · exact h
  · exact h
theorem ep_put {E : Int} : ∀ (m : Nat) (s : St) (a : Int) (b : List Int), EpLe E s → (∀ j, j < m → epochOf ((b.drop (32 * j)).take 32) ≤ E) → EpLe E (putAll m s a b).2
  | 0, s, a, b, h, _ => h
  | m + 1, s, a, b, h, hb => by
    have h0 := hb 0 (by omega)
    rw [Nat.mul_zero, List.drop_zero] at h0
    rw [putAll]
    split
    · exact ep_put m _ (a + 1) (b.drop 32) (ep_write h a _ h0) (fun j hj => by
        have := hb (j + 1) (by omega)
        rw [List.drop_drop, show 32 + 32 * j = 32 * (j + 1) from by omega]; exact this)
    · exact ep_write h a _ h0
theorem cut_drop (d mk : List Int) (hm : mk.length = 8) : ∀ k, d.length = 24 * k → ∀ j, j < k → ((cut d mk k).drop (32 * j)).take 32 = (d.drop (24 * j)).take 24 ++ mk := by
  intro k hd j hj
  have hlen : ∀ i, i < k → ((d.drop (24 * i)).take 24 ++ mk).length = 32 := fun i hi => by rw [List.length_append, List.length_take, List.length_drop, hm]; omega
  have key : ∀ (ks : List Nat) (q : Nat) (hq : q < ks.length), (∀ x ∈ ks, x < k) → ((cuts d mk ks).drop (32 * q)).take 32 = (d.drop (24 * ks[q])).take 24 ++ mk := by
    intro ks
    induction ks with
    | nil => intro q hq; cases hq
    | cons x ks ih =>
      intro q hq hx
      have hl := hlen x (hx x (List.mem_cons_self ..))
      have e : cuts d mk (x :: ks) = ((d.drop (24 * x)).take 24 ++ mk) ++ cuts d mk ks := by unfold cuts; rw [List.flatMap_cons]
      cases q with
      | zero =>
        rw [e, Nat.mul_zero, List.drop_zero, List.getElem_cons_zero]
        generalize (d.drop (24 * x)).take 24 ++ mk = p at *
        rw [← hl, List.take_left]
      | succ q =>
        have hq' : q < ks.length := by simpa using hq
        rw [e, List.getElem_cons_succ, show 32 * (q + 1) = 32 + 32 * q from by omega, ← List.drop_drop]
        generalize (d.drop (24 * x)).take 24 ++ mk = p at *
        rw [← hl, List.drop_left, hl]
        exact ih q hq' (fun y hy => hx y (List.mem_cons_of_mem _ hy))
  have := key (List.range k) j (by rw [List.length_range]; exact hj) (fun x hx => List.mem_range.1 hx)
  rw [List.getElem_range] at this
  exact this
theorem epoch_packed (e q : Int) (l : List Int) (he : 0 ≤ e ∧ e < 4294967296) (j : Nat) (hj : j < sectors l.length) : epochOf (((packed e q l).drop (32 * j)).take 32) = e := by
  unfold packed
  rw [cut_drop _ _ (stamp_len e q) _ (filled_len e q l) j hj]
  have hp : (((filled e q l).drop (24 * j)).take 24).length = 24 := by rw [List.length_take, List.length_drop, filled_len]; omega
  unfold epochOf
  generalize ((filled e q l).drop (24 * j)).take 24 = p at *
  have : ((p ++ stampOf e q).take 28).drop 24 = be4 e := by
    unfold stampOf
    rw [← List.append_assoc, List.take_append_of_le_length (by rw [List.length_append, hp]; show 28 ≤ 24 + 4; decide), show (28 : Nat) = (p ++ be4 e).length from by rw [List.length_append, hp]; rfl, List.take_length, ← hp, List.drop_left]
  rw [this]
  show vp [e / 16777216 % 256, e / 65536 % 256, e / 256 % 256, e % 256] 4 = e
  show (((0 * 256 + e / 16777216 % 256) * 256 + e / 65536 % 256) * 256 + e / 256 % 256) * 256 + e % 256 = e
  omega
theorem ep_over {E : Int} : ∀ (cs : List (Int × List Int)) (g : List (List Int)), (∀ x ∈ g, epochOf x ≤ E) → (∀ x ∈ cs, epochOf x.2 ≤ E) → ∀ x ∈ over g cs, epochOf x ≤ E
  | [], g, h, _ => h
  | c :: cs, g, h, hc => by
    show ∀ x ∈ over (g.set c.1.toNat c.2) cs, _
    refine ep_over cs _ (fun x hx => ?_) (fun x hx => hc x (List.mem_cons_of_mem _ hx))
    rcases List.mem_or_eq_of_mem_set hx with hx | rfl
    · exact h x hx
    · exact hc c (List.mem_cons_self ..)
/-! ### a round -/
structure Full (n : Nat) (q : Int) (j : Jr) (s : St) : Prop where
  ok : JOk j s
  slot : j.slot = 2
  op : j.op = true
  up : j.down = false
  fuse : s.fuse = -1
  ep : EpLe 2 s
  epoch : j.epoch = 2
  len : s.good.length = n
  seq : 0 ≤ j.seq ∧ j.seq ≤ q
theorem full_state {n : Nat} {q : Int} {j : Jr} {s : St} (h : Full n q j s) : stateF j = 0 := by unfold stateF; rw [h.up, h.op]; rfl
theorem append_no {n : Nat} {q : Int} {j : Jr} {s : St} {l : List Int} (h : Full n q j s) (hq : q ≤ 1000) (hl : l.length ≤ 65535) (hr : ((n : Nat) : Int) - j.next < (sectors l.length : Nat)) : appendF j s l = (5, j, s) := by
  have := h.seq
  unfold appendF
  rw [full_state h, if_neg (by decide), if_neg (by omega), h.len, if_pos hr]
theorem append_yes {n : Nat} {q : Int} {j : Jr} {s : St} {l : List Int} (h : Full n q j s) (hq : q ≤ 1000) (hl : l.length ≤ 65535) (hb : Bytes l) (hr : ((sectors l.length : Nat) : Int) ≤ ((n : Nat) : Int) - j.next) :
    ∃ s', appendF j s l = (0, { j with seq := j.seq + 1, next := j.next + (sectors l.length : Nat), down := false }, s') ∧ Full n (q + 1) { j with seq := j.seq + 1, next := j.next + (sectors l.length : Nat), down := false } s' := by
  have h1 := h.seq
  have h2 := h.ok.next
  have h3 := h.ok.slot
  have hp := put_up (sectors l.length) s j.next (packed j.epoch (j.seq + 1) l) h.fuse (by omega) (by rw [h.len]; omega) (packed_len ..)
  have e : appendF j s l = (0, { j with seq := j.seq + 1, next := j.next + (sectors l.length : Nat), down := false }, (putAll (sectors l.length) s j.next (packed j.epoch (j.seq + 1) l)).2) := by
    unfold appendF
    rw [full_state h, if_neg (by decide), if_neg (by omega), h.len, if_neg (by omega), if_pos hp.1]
  have ho := append_ok h.ok hb
  rw [e] at ho
  refine ⟨_, e, ⟨ho, h.slot, h.op, rfl, hp.2.1, ?_, h.epoch, by rw [hp.2.2]; exact h.len, ⟨by simp only; omega, by simp only; omega⟩⟩⟩
  refine ep_put _ _ _ _ h.ep (fun k hk => ?_)
  rw [epoch_packed j.epoch (j.seq + 1) l (by rw [h.epoch]; decide) k hk, h.epoch]
  decide
theorem check_big {n : Nat} {q : Int} {j : Jr} {s : St} {l : List Int} (h : Full n q j s) (hl : 43 ≤ l.length ∧ l.length ≤ 65535) : checkpointF j s l = (5, j, s) := by
  have hr := lastF_range s h.ok.fine s.good.length (Nat.le_refl _)
  have he := ep_last h.ep (by decide) s.good.length (Nat.le_refl _)
  have hp : packF (lastF s s.good.length + 1) j.seq j.slot l = (5, []) := by
    unfold packF
    have := packed_len (lastF s s.good.length + 1) j.seq l
    rw [if_neg (by omega), if_pos (by rw [h.slot, this]; unfold sectors; omega)]
  unfold checkpointF
  rw [h.up, if_neg (by decide), hp, if_pos (by decide)]
theorem check_fits {n : Nat} {q : Int} {j : Jr} {s : St} {l : List Int} (h : Full n q j s) (hl : l.length ≤ 42) : ∃ j' s', checkpointF j s l = (0, j', s') ∧ j'.next = 4 ∧ j'.seq = j.seq ∧ s'.good.length = n := by
  have hr := lastF_range s h.ok.fine s.good.length (Nat.le_refl _)
  have he := ep_last h.ep (by decide) s.good.length (Nat.le_refl _)
  have hpl := packed_len (lastF s s.good.length + 1) j.seq l
  have hsl : sectors l.length ≤ 2 := by unfold sectors; omega
  have hp : packF (lastF s s.good.length + 1) j.seq j.slot l = (0, packed (lastF s s.good.length + 1) j.seq l) := by
    unfold packF
    rw [if_neg (by omega), if_neg (by rw [h.slot, hpl]; omega)]
  have hslot := h.ok.slot
  have hs2 := h.slot
  have hpc := h.ok.place
  have hln := h.len
  have hdv : (packed (lastF s s.good.length + 1) j.seq l).length / 32 = sectors l.length := by rw [hpl]; omega
  have hpu := put_up (sectors l.length) s ((1 - j.place) * j.slot) (packed (lastF s s.good.length + 1) j.seq l) h.fuse (by rw [hs2]; omega) (by rw [hs2]; omega) hpl
  have hfl := flush_up hpu.2.1
  refine ⟨{ j with place := 1 - j.place, epoch := lastF s s.good.length + 1, next := 2 * j.slot, op := true, down := false }, (Flush (putAll (sectors l.length) s ((1 - j.place) * j.slot) (packed (lastF s s.good.length + 1) j.seq l)).2).2, ?_, ?_⟩
  · unfold checkpointF
    rw [h.up, if_neg (by decide), hp]
    simp only [hdv]
    rw [if_neg (by decide), if_neg (by rw [hpu.1]; decide), if_neg (by rw [hfl.1]; decide)]
  · exact ⟨by show 2 * j.slot = 4; rw [hs2]; decide, rfl, by rw [hfl.2.2, hpu.2.2]; exact hln⟩
end Go.Proofs.Ytglpelhbncdkmaa.XJour
