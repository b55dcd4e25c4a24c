/-
  JournalFull, the plain part: a journal on a disk without a fuse.
  JournalLasts, the plain part: what records reads of sectors.
  JournalLasts, the plain part: what the sum tells of a number, and of an epoch.
  JournalLasts, the plain part: unlike epochs have unlike sums, and so have unlike numbers in the last byte.
  JournalLasts, the plain part: the place of a checkpoint that a crash tore.
  JournalLasts, the plain part: what is written, and the invariant.
  JournalLasts, the plain part: commit, fuse and checkpoint keep the invariant.
  JournalLasts, the plain part: what a crash leaves.
  JournalLasts, the plain part: a crash, and what Open makes of it.
  JournalLasts, the plain part: how it begins; a round of the law, told by one relation.
-/
import Derived.Laws.CopyOwn
import Derived.ArgAppend
import Derived.Below
import Derived.BigQuiet
import Derived.Deep.AppendLies
import Derived.Deep.CutBlock
import Derived.Deep.DeepCutAuto
import Derived.Deep.Draws
import Derived.Deep.LoopGhost
import Derived.Deep.OwnRows
import Derived.Deep.QuietTactic
import Derived.Deep.RegionHeld3
import Derived.Deep.WholeRow
import Derived.KernelRfl
import Derived.Laws.BitsLemmas
import Derived.Laws.BytesArg
import Derived.Laws.IdiomCopy
import Derived.Laws.MakeOwn
import Derived.Laws.OwnMore
import Derived.Laws.Rows
import Derived.Laws.Slices
import Derived.Lib.AppendStr
import Derived.Lib.ConvBytes
import Derived.Lib.Hide
import Derived.Maps.AppendAt
import Derived.OrdersHeld
import Derived.Outline
import Derived.OwnWalk
import Derived.RowKit
import Derived.RowKit3
import Derived.Tactics
import Derived.WalkKit
import Derived.WideLaws
import Derived.Test.YtglpelhbncdkmaaProg
import Derived.Test.YtglpelhbncdkmaaWApart
import Derived.Test.YtglpelhbncdkmaaWArr
import Derived.Test.YtglpelhbncdkmaaWAt
import Derived.Test.YtglpelhbncdkmaaWEqStruct
import Derived.Test.YtglpelhbncdkmaaWFoot
import Derived.Test.YtglpelhbncdkmaaWFootNe
import Derived.Test.YtglpelhbncdkmaaWFour
import Derived.Test.YtglpelhbncdkmaaWGuard
import Derived.Test.YtglpelhbncdkmaaWInv
import Derived.Test.YtglpelhbncdkmaaWInvWords
import Derived.Test.YtglpelhbncdkmaaWKept
import Derived.Test.YtglpelhbncdkmaaWLast
import Derived.Test.YtglpelhbncdkmaaWMore
import Derived.Test.YtglpelhbncdkmaaWN
import Derived.Test.YtglpelhbncdkmaaWNEv
import Derived.Test.YtglpelhbncdkmaaWQPut
import Derived.Test.YtglpelhbncdkmaaWRepsOne
import Derived.Test.YtglpelhbncdkmaaWShare
import Derived.Test.YtglpelhbncdkmaaWTab
import Derived.Test.YtglpelhbncdkmaaWWords
import Derived.Test.YtglpelhbncdkmaaWZeros
import Derived.Test.YtglpelhbncdkmaaXSlices
import Derived.Test.YtglpelhbncdkmaaXJourLaw
import Derived.Test.YtglpelhbncdkmaaXCheckMath
section
namespace Go.Proofs.Ytglpelhbncdkmaa.XJour
open Go.RowKit Go.Proofs.YtglpelhbncdkmaaW.PrintWords Go.Proofs.YtglpelhbncdkmaaW.PrintLast Go.Proofs.YtglpelhbncdkmaaW.PrintMore XDisk XChunk XUnpack XData
set_option linter.unusedVariables false
set_option linter.unusedSimpArgs false
/-! ### what is written without a fuse is written -/
theorem burn_free {s : St} (h : s.fuse = -1) : Burn s = (true, s) := by unfold Burn; rw [if_neg (by rw [h]; decide), if_neg (by rw [h]; decide)]
theorem write_up {s : St} (h : s.fuse = -1) (a : Int) (b : List Int) (ha : 0 ≤ a ∧ a < (s.good.length : Nat)) (hb : b.length = 32) : (Write s a b).1 = 0 ∧ (Write s a b).2.fuse = -1 ∧ (Write s a b).2.good = s.good := by
  unfold Write
  rw [burn_free h, if_pos ⟨by rw [decide_eq_true ha.1, decide_eq_true ha.2]; rfl, hb⟩, if_pos rfl]
  exact ⟨rfl, h, rfl⟩
theorem put_up : ∀ (m : Nat) (s : St) (a : Int) (b : List Int), s.fuse = -1 → 0 ≤ a → a + (m : Nat) ≤ (s.good.length : Nat) → b.length = 32 * m → (putAll m s a b).1 = 0 ∧ (putAll m s a b).2.fuse = -1 ∧ (putAll m s a b).2.good = s.good
  | 0, s, a, b, h, _, _, _ => ⟨rfl, h, rfl⟩
  | m + 1, s, a, b, h, ha, hm, hb => by
    obtain ⟨h1, h2, h3⟩ := write_up h a (b.take 32) ⟨ha, by omega⟩ (by rw [List.length_take]; omega)
    rw [putAll, if_pos h1]
    obtain ⟨i1, i2, i3⟩ := put_up m (Write s a (b.take 32)).2 (a + 1) (b.drop 32) h2 (by omega) (by rw [h3]; omega) (by rw [List.length_drop]; omega)
    exact ⟨i1, i2, i3.trans h3⟩
theorem flush_up {s : St} (h : s.fuse = -1) : (Flush s).1 = 0 ∧ (Flush s).2.fuse = -1 ∧ (Flush s).2.good.length = s.good.length := by
  unfold Flush
  rw [burn_free h, if_pos rfl]
  exact ⟨rfl, h, over_len _ _⟩
/-! ### epochs -/
def EpLe (E : Int) (s : St) : Prop := (∀ x ∈ s.good, epochOf x ≤ E) ∧ ∀ x ∈ s.cache, epochOf x.2 ≤ E
theorem ep_now {E : Int} {s : St} (h : EpLe E s) (i : Nat) (hi : i < s.good.length) : epochOf (nowAt s (i : Nat)) ≤ E := by
  unfold nowAt
  rcases locF_range (i : Int) s.cache 0 with hl | ⟨j, hj, hl, -⟩
  · rw [hl, if_neg (by decide), Int.toNat_natCast, List.getD_eq_getElem?_getD, List.getElem?_eq_getElem hi]
    exact h.1 _ (List.getElem_mem hi)
  · rw [hl, if_pos (by omega), show ((0 + j : Nat) : Int).toNat = j from by omega, List.getD_eq_getElem?_getD, List.getElem?_eq_getElem hj]
    exact h.2 _ (List.getElem_mem hj)
theorem ep_last {E : Int} {s : St} (h : EpLe E s) (h0 : 0 ≤ E) : ∀ n, n ≤ s.good.length → lastF s n ≤ E
  | 0, _ => by rw [lastF]; exact h0
  | n + 1, hn => by
    have := ep_last h h0 n (by omega)
    have := ep_now h n (by omega)
    rw [lastF]; unfold mx; split <;> omega
theorem ep_write {E : Int} {s : St} (h : EpLe E s) (a : Int) (b : List Int) (hb : epochOf b ≤ E) : EpLe E (Write s a b).2 := by
  unfold Write
  split
  · split
    · refine ⟨by rw [(burn_same s).1]; exact h.1, fun x hx => ?_⟩
      have hx : x ∈ put s.cache a b := hx
      unfold put at hx
      split at hx
      · rcases List.mem_or_eq_of_mem_set hx with hx | rfl
        · exact h.2 x hx
        · exact hb
      · rcases List.mem_append.1 hx with hx | hx
        · exact h.2 x hx
        · rw [List.mem_singleton.1 hx]; exact hb
    · exact h
  · exact h
theorem ep_put {E : Int} : ∀ (m : Nat) (s : St) (a : Int) (b : List Int), EpLe E s → (∀ j, j < m → epochOf ((b.drop (32 * j)).take 32) ≤ E) → EpLe E (putAll m s a b).2
  | 0, s, a, b, h, _ => h
  | m + 1, s, a, b, h, hb => by
    have h0 := hb 0 (by omega)
    rw [Nat.mul_zero, List.drop_zero] at h0
    rw [putAll]
    split
    · exact ep_put m _ (a + 1) (b.drop 32) (ep_write h a _ h0) (fun j hj => by
        have := hb (j + 1) (by omega)
        rw [List.drop_drop, show 32 + 32 * j = 32 * (j + 1) from by omega]; exact this)
    · exact ep_write h a _ h0
theorem cut_drop (d mk : List Int) (hm : mk.length = 8) : ∀ k, d.length = 24 * k → ∀ j, j < k → ((cut d mk k).drop (32 * j)).take 32 = (d.drop (24 * j)).take 24 ++ mk := by
  intro k hd j hj
  have hlen : ∀ i, i < k → ((d.drop (24 * i)).take 24 ++ mk).length = 32 := fun i hi => by rw [List.length_append, List.length_take, List.length_drop, hm]; omega
  have key : ∀ (ks : List Nat) (q : Nat) (hq : q < ks.length), (∀ x ∈ ks, x < k) → ((cuts d mk ks).drop (32 * q)).take 32 = (d.drop (24 * ks[q])).take 24 ++ mk := by
    intro ks
    induction ks with
    | nil => intro q hq; cases hq
    | cons x ks ih =>
      intro q hq hx
      have hl := hlen x (hx x (List.mem_cons_self ..))
      have e : cuts d mk (x :: ks) = ((d.drop (24 * x)).take 24 ++ mk) ++ cuts d mk ks := by unfold cuts; rw [List.flatMap_cons]
      cases q with
      | zero =>
        rw [e, Nat.mul_zero, List.drop_zero, List.getElem_cons_zero]
        generalize (d.drop (24 * x)).take 24 ++ mk = p at *
        rw [← hl, List.take_left]
      | succ q =>
        have hq' : q < ks.length := by simpa using hq
        rw [e, List.getElem_cons_succ, show 32 * (q + 1) = 32 + 32 * q from by omega, ← List.drop_drop]
        generalize (d.drop (24 * x)).take 24 ++ mk = p at *
        rw [← hl, List.drop_left, hl]
        exact ih q hq' (fun y hy => hx y (List.mem_cons_of_mem _ hy))
  have := key (List.range k) j (by rw [List.length_range]; exact hj) (fun x hx => List.mem_range.1 hx)
  rw [List.getElem_range] at this
  exact this
theorem epoch_packed (e q : Int) (l : List Int) (he : 0 ≤ e ∧ e < 4294967296) (j : Nat) (hj : j < sectors l.length) : epochOf (((packed e q l).drop (32 * j)).take 32) = e := by
  unfold packed
  rw [cut_drop _ _ (stamp_len e q) _ (filled_len e q l) j hj]
  have hp : (((filled e q l).drop (24 * j)).take 24).length = 24 := by rw [List.length_take, List.length_drop, filled_len]; omega
  unfold epochOf
  generalize ((filled e q l).drop (24 * j)).take 24 = p at *
  have : ((p ++ stampOf e q).take 28).drop 24 = be4 e := by
    unfold stampOf
    rw [← List.append_assoc, List.take_append_of_le_length (by rw [List.length_append, hp]; show 28 ≤ 24 + 4; decide), show (28 : Nat) = (p ++ be4 e).length from by rw [List.length_append, hp]; rfl, List.take_length, ← hp, List.drop_left]
  rw [this]
  show vp [e / 16777216 % 256, e / 65536 % 256, e / 256 % 256, e % 256] 4 = e
  show (((0 * 256 + e / 16777216 % 256) * 256 + e / 65536 % 256) * 256 + e / 256 % 256) * 256 + e % 256 = e
  omega
theorem ep_over {E : Int} : ∀ (cs : List (Int × List Int)) (g : List (List Int)), (∀ x ∈ g, epochOf x ≤ E) → (∀ x ∈ cs, epochOf x.2 ≤ E) → ∀ x ∈ over g cs, epochOf x ≤ E
  | [], g, h, _ => h
  | c :: cs, g, h, hc => by
    show ∀ x ∈ over (g.set c.1.toNat c.2) cs, _
    refine ep_over cs _ (fun x hx => ?_) (fun x hx => hc x (List.mem_cons_of_mem _ hx))
    rcases List.mem_or_eq_of_mem_set hx with hx | rfl
    · exact h x hx
    · exact hc c (List.mem_cons_self ..)
/-! ### a round -/
structure Full (n : Nat) (q : Int) (j : Jr) (s : St) : Prop where
  ok : JOk j s
  slot : j.slot = 2
  op : j.op = true
  up : j.down = false
  fuse : s.fuse = -1
  ep : EpLe 2 s
  epoch : j.epoch = 2
  len : s.good.length = n
  seq : 0 ≤ j.seq ∧ j.seq ≤ q
theorem full_state {n : Nat} {q : Int} {j : Jr} {s : St} (h : Full n q j s) : stateF j = 0 := by unfold stateF; rw [h.up, h.op]; rfl
theorem append_no {n : Nat} {q : Int} {j : Jr} {s : St} {l : List Int} (h : Full n q j s) (hq : q ≤ 1000) (hl : l.length ≤ 65535) (hr : ((n : Nat) : Int) - j.next < (sectors l.length : Nat)) : appendF j s l = (5, j, s) := by
  have := h.seq
  unfold appendF
  rw [full_state h, if_neg (by decide), if_neg (by omega), h.len, if_pos hr]
theorem append_yes {n : Nat} {q : Int} {j : Jr} {s : St} {l : List Int} (h : Full n q j s) (hq : q ≤ 1000) (hl : l.length ≤ 65535) (hb : Bytes l) (hr : ((sectors l.length : Nat) : Int) ≤ ((n : Nat) : Int) - j.next) :
    ∃ s', appendF j s l = (0, { j with seq := j.seq + 1, next := j.next + (sectors l.length : Nat), down := false }, s') ∧ Full n (q + 1) { j with seq := j.seq + 1, next := j.next + (sectors l.length : Nat), down := false } s' := by
  have h1 := h.seq
  have h2 := h.ok.next
  have h3 := h.ok.slot
  have hp := put_up (sectors l.length) s j.next (packed j.epoch (j.seq + 1) l) h.fuse (by omega) (by rw [h.len]; omega) (packed_len ..)
  have e : appendF j s l = (0, { j with seq := j.seq + 1, next := j.next + (sectors l.length : Nat), down := false }, (putAll (sectors l.length) s j.next (packed j.epoch (j.seq + 1) l)).2) := by
    unfold appendF
    rw [full_state h, if_neg (by decide), if_neg (by omega), h.len, if_neg (by omega), if_pos hp.1]
  have ho := append_ok h.ok hb
  rw [e] at ho
  refine ⟨_, e, ⟨ho, h.slot, h.op, rfl, hp.2.1, ?_, h.epoch, by rw [hp.2.2]; exact h.len, ⟨by simp only; omega, by simp only; omega⟩⟩⟩
  refine ep_put _ _ _ _ h.ep (fun k hk => ?_)
  rw [epoch_packed j.epoch (j.seq + 1) l (by rw [h.epoch]; decide) k hk, h.epoch]
  decide
theorem check_big {n : Nat} {q : Int} {j : Jr} {s : St} {l : List Int} (h : Full n q j s) (hl : 43 ≤ l.length ∧ l.length ≤ 65535) : checkpointF j s l = (5, j, s) := by
  have hr := lastF_range s h.ok.fine s.good.length (Nat.le_refl _)
  have he := ep_last h.ep (by decide) s.good.length (Nat.le_refl _)
  have hp : packF (lastF s s.good.length + 1) j.seq j.slot l = (5, []) := by
    unfold packF
    have := packed_len (lastF s s.good.length + 1) j.seq l
    rw [if_neg (by omega), if_pos (by rw [h.slot, this]; unfold sectors; omega)]
  unfold checkpointF
  rw [h.up, if_neg (by decide), hp, if_pos (by decide)]
theorem check_fits {n : Nat} {q : Int} {j : Jr} {s : St} {l : List Int} (h : Full n q j s) (hl : l.length ≤ 42) : ∃ j' s', checkpointF j s l = (0, j', s') ∧ j'.next = 4 ∧ j'.seq = j.seq ∧ s'.good.length = n := by
  have hr := lastF_range s h.ok.fine s.good.length (Nat.le_refl _)
  have he := ep_last h.ep (by decide) s.good.length (Nat.le_refl _)
  have hpl := packed_len (lastF s s.good.length + 1) j.seq l
  have hsl : sectors l.length ≤ 2 := by unfold sectors; omega
  have hp : packF (lastF s s.good.length + 1) j.seq j.slot l = (0, packed (lastF s s.good.length + 1) j.seq l) := by
    unfold packF
    rw [if_neg (by omega), if_neg (by rw [h.slot, hpl]; omega)]
  have hslot := h.ok.slot
  have hs2 := h.slot
  have hpc := h.ok.place
  have hln := h.len
  have hdv : (packed (lastF s s.good.length + 1) j.seq l).length / 32 = sectors l.length := by rw [hpl]; omega
  have hpu := put_up (sectors l.length) s ((1 - j.place) * j.slot) (packed (lastF s s.good.length + 1) j.seq l) h.fuse (by rw [hs2]; omega) (by rw [hs2]; omega) hpl
  have hfl := flush_up hpu.2.1
  refine ⟨{ j with place := 1 - j.place, epoch := lastF s s.good.length + 1, next := 2 * j.slot, op := true, down := false }, (Flush (putAll (sectors l.length) s ((1 - j.place) * j.slot) (packed (lastF s s.good.length + 1) j.seq l)).2).2, ?_, ?_⟩
  · unfold checkpointF
    rw [h.up, if_neg (by decide), hp]
    simp only [hdv]
    rw [if_neg (by decide), if_neg (by rw [hpu.1]; decide), if_neg (by rw [hfl.1]; decide)]
  · exact ⟨by show 2 * j.slot = 4; rw [hs2]; decide, rfl, by rw [hfl.2.2, hpu.2.2]; exact hln⟩
end Go.Proofs.Ytglpelhbncdkmaa.XJour
end
section
namespace Go.Proofs.Ytglpelhbncdkmaa.XJour
open Go.RowKit Go.Proofs.YtglpelhbncdkmaaW.PrintWords Go.Proofs.YtglpelhbncdkmaaW.PrintLast Go.Proofs.YtglpelhbncdkmaaW.PrintMore XDisk XChunk XUnpack XData
set_option linter.unusedVariables false
set_option linter.unusedSimpArgs false
theorem cut_at (d mk : List Int) : ∀ k j, j < k → ∃ rest, cut d mk k = cut d mk j ++ ((d.drop (24 * j)).take 24 ++ (mk ++ rest))
  | 0, j, h => absurd h (Nat.not_lt_zero _)
  | k + 1, j, h => by
    rw [cut_succ]
    rcases Nat.lt_or_ge j k with h1 | h1
    · obtain ⟨rest, e⟩ := cut_at d mk k j h1
      exact ⟨rest ++ (d.drop (24 * k)).take 24 ++ mk, by rw [e]; simp [List.append_assoc]⟩
    · obtain rfl : j = k := by omega
      exact ⟨[], by simp [List.append_assoc]⟩
theorem mid (A B C : List Int) (a b : Nat) (ha : A.length = a) (hb : B.length = b) : ((A ++ (B ++ C)).take (a + b)).drop a = B := by
  subst ha hb
  rw [← List.append_assoc, ← List.length_append, List.take_left, List.drop_left]
theorem str_self (a : List Int) : eqB a a = true := by unfold eqB; exact beq_self_eq_true _
structure Sheet (l full mk : List Int) (m : Nat) : Prop where
  full_len : full.length = 24 * m
  mk_len : mk.length = 8
  len : 32 * m ≤ l.length
  at_ : ∀ j, j < m → ∃ A C, A.length = 32 * j ∧ l = A ++ ((full.drop (24 * j)).take 24 ++ (mk ++ C))
theorem Sheet.piece {l full mk : List Int} {m : Nat} (h : Sheet l full mk m) (j : Nat) (hj : j < m) : pieceAt l j = (full.drop (24 * j)).take 24 ∧ stampAt l j = mk := by
  obtain ⟨A, C, hA, e⟩ := h.at_ j hj
  have hB : ((full.drop (24 * j)).take 24).length = 24 := by rw [List.length_take, List.length_drop, h.full_len]; omega
  constructor
  · unfold pieceAt
    rw [e, show j * 32 + 24 = j * 32 + 24 from rfl]
    exact mid A _ _ (j * 32) 24 (by omega) hB
  · unfold stampAt
    rw [e, ← List.append_assoc, show j * 32 + 32 = (j * 32 + 24) + 8 from rfl]
    exact mid _ mk C (j * 32 + 24) 8 (by rw [List.length_append, hB]; omega) h.mk_len
theorem Sheet.data {l full mk : List Int} {m : Nat} (h : Sheet l full mk m) : ∀ j, j ≤ m → dataOf l j = full.take (24 * j) := by
  intro j
  induction j with
  | zero => intro _; rfl
  | succ j ih =>
    intro hj
    rw [dataOf_succ, ih (by omega), (h.piece j (by omega)).1, show 24 * (j + 1) = 24 * j + 24 from by omega, List.take_add]
theorem Sheet.dataF {l full mk : List Int} {m : Nat} (h : Sheet l full mk m) (hm : 1 ≤ m) : XData.dataF l m = full := by
  rw [dataF_all (fun i hi => by rw [(h.piece i hi).2, (h.piece 0 (by omega)).2]; exact str_self _), h.data m (Nat.le_refl _), List.take_of_length_le (by rw [h.full_len]; exact Nat.le_refl _)]
theorem sheet_packed (a s : Int) (x tail : List Int) : Sheet (packed a s x ++ tail) (filled a s x) (stampOf a s) (sectors x.length) where
  full_len := filled_len a s x
  mk_len := stamp_len a s
  len := by rw [List.length_append, packed_len]; omega
  at_ := by
    intro j hj
    obtain ⟨rest, e⟩ := cut_at (filled a s x) (stampOf a s) (sectors x.length) j hj
    refine ⟨cut (filled a s x) (stampOf a s) j, rest ++ tail, cut_len _ _ _ (by rw [filled_len]; omega) (stamp_len a s), ?_⟩
    show packed a s x ++ tail = _
    unfold packed
    rw [e]; simp [List.append_assoc]
theorem sec_pos (n : Nat) : 1 ≤ sectors n := by unfold sectors; omega
theorem first (a s : Int) (x tail : List Int) : ∃ C, packed a s x ++ tail = be2 (x.length : Int) ++ C := by
  obtain ⟨A, C, hA, e⟩ := (sheet_packed a s x tail).at_ 0 (sec_pos _)
  have hA0 : A = [] := List.eq_nil_of_length_eq_zero (by omega)
  subst hA0
  rw [e, List.nil_append, List.drop_zero]
  have h24 : 24 ≤ (filled a s x).length := by rw [filled_len]; have := sec_pos x.length; omega
  refine ⟨((filled a s x).take 24).drop 2 ++ (stampOf a s ++ C), ?_⟩
  have : be2 (x.length : Int) = ((filled a s x).take 24).take 2 := by
    rw [List.take_take, show min 2 24 = 2 from rfl]
    unfold filled body
    rw [List.append_assoc]
    rfl
  rw [this, ← List.append_assoc (((filled a s x).take 24).take 2), List.take_append_drop]
theorem val2_be (n : Nat) (h : n < 65536) : val2 (be2 (n : Int)) = (n : Int) := by
  show (n : Int) / 256 % 256 * 256 + (n : Int) % 256 = n
  omega
theorem val4_be (a : Int) (h : 0 ≤ a ∧ a < 4294967296) : val4 (be4 a) = a := by
  show ((a / 16777216 % 256 * 256 + a / 65536 % 256) * 256 + a / 256 % 256) * 256 + a % 256 = a
  omega
theorem unpack_packed (a s : Int) (x tail : List Int) (ha : 0 ≤ a ∧ a < 4294967296) (hs : 0 ≤ s ∧ s < 4294967296) (hx : x.length ≤ 65535) :
    unpackF (packed a s x ++ tail) = (a, s, x, ((sectors x.length : Nat) : Int), 0) := by
  have S := sheet_packed a s x tail
  have hm := sec_pos x.length
  have hl : ¬ (packed a s x ++ tail).length < 32 := by have := S.len; omega
  obtain ⟨C, hC⟩ := first a s x tail
  have h2 : val2 ((packed a s x ++ tail).take 2) = (x.length : Int) := by
    rw [hC, show (2 : Nat) = (be2 (x.length : Int)).length from rfl, List.take_left]
    exact val2_be x.length (by omega)
  obtain ⟨A, C', hA, e⟩ := S.at_ 0 (by omega)
  have hA0 : A = [] := List.eq_nil_of_length_eq_zero (by omega)
  subst hA0
  rw [List.nil_append, List.drop_zero] at e
  have hB : ((filled a s x).take 24).length = 24 := by rw [List.length_take, filled_len]; omega
  have he : val4 (((packed a s x ++ tail).take 28).drop 24) = a := by
    have : ((packed a s x ++ tail).take 28).drop 24 = be4 a := by
      rw [e, show stampOf a s ++ C' = be4 a ++ (be4 s ++ C') from by unfold stampOf; rw [List.append_assoc]]
      exact mid _ (be4 a) _ 24 4 hB (be4_len a)
    rw [this]; exact val4_be a ha
  have hs' : val4 (((packed a s x ++ tail).take 32).drop 28) = s := by
    have : ((packed a s x ++ tail).take 32).drop 28 = be4 s := by
      rw [e, show stampOf a s ++ C' = be4 a ++ (be4 s ++ C') from by unfold stampOf; rw [List.append_assoc], ← List.append_assoc]
      exact mid _ (be4 s) _ 28 4 (by rw [List.length_append, hB, be4_len]) (be4_len s)
    rw [this]; exact val4_be s hs
  have hd := S.dataF hm
  have hb : ((filled a s x).take (6 + x.length)).drop 6 = x := by
    have e6 : filled a s x = (be2 (x.length : Int) ++ be4 (sumOf a s x)) ++ (x ++ List.replicate (24 * sectors x.length - (x.length + 6)) 0) := by
      unfold filled body; simp [List.append_assoc]
    rw [e6]
    exact mid _ x _ 6 x.length (by rw [List.length_append, be2_len, be4_len]) rfl
  have hp : (packed a s x ++ tail).take (32 * sectors x.length) = packed a s x := by
    rw [← packed_len a s x, List.take_left]
  have := unpackF_4 (l := packed a s x ++ tail) (d := filled a s x) (b := x) (p := packed a s x) (n := x.length) (m := sectors x.length) (e := a) (s := s) (r := true) hl h2 rfl (by have := S.len; omega) hd
    (by rw [filled_len]; have := sectors_le x.length; omega) he hs' hb rfl (by rw [hp]; exact str_self _)
  rw [this, if_pos rfl]

/-! ### sectors -/
def chunkOf (b : List Int) (t : Nat) : List Int := (b.drop (32 * t)).take 32
def chunks (b : List Int) : List (List Int) := (List.range (b.length / 32)).map (chunkOf b)
/-- The sectors of records, one after the other. -/
def secs (E : Int) : Int → List (List Int) → List (List Int)
  | _, [] => []
  | q, r :: R => chunks (packed E (q + 1) r) ++ secs E (q + 1) R
theorem chunks_len (b : List Int) : (chunks b).length = b.length / 32 := by unfold chunks; rw [List.length_map, List.length_range]
theorem packed_chunks (E q : Int) (r : List Int) : (chunks (packed E q r)).length = sectors r.length := by rw [chunks_len, packed_len]; omega
theorem chunks_get (b : List Int) (t : Nat) (h : t < b.length / 32) : (chunks b)[t]? = some (chunkOf b t) := by
  unfold chunks; rw [List.getElem?_map, List.getElem?_range h]; rfl
theorem secs_snoc (E : Int) : ∀ (R : List (List Int)) (q : Int) (r : List Int), secs E q (R ++ [r]) = secs E q R ++ chunks (packed E (q + (R.length : Nat) + 1) r)
  | [], q, r => by simp [secs]
  | x :: R, q, r => by
    rw [List.cons_append, secs, secs, secs_snoc E R (q + 1) r, List.append_assoc]
    congr 4
    rw [List.length_cons]; omega
/-- Rows of 32. -/
def Rows32 (G : List (List Int)) : Prop := ∀ x ∈ G, x.length = 32 ∧ Bytes x
theorem flat_len : ∀ {G : List (List Int)}, Rows32 G → G.flatten.length = 32 * G.length
  | [], _ => rfl
  | x :: G, h => by rw [List.flatten_cons, List.length_append, flat_len (fun y hy => h y (List.mem_cons_of_mem _ hy)), (h x (List.mem_cons_self ..)).1, List.length_cons]; omega
theorem flat_drop : ∀ {G : List (List Int)} (n : Nat), Rows32 G → G.flatten.drop (32 * n) = (G.drop n).flatten
  | G, 0, _ => rfl
  | [], n + 1, _ => by simp
  | x :: G, n + 1, h => by
    have hx := (h x (List.mem_cons_self ..)).1
    rw [List.flatten_cons, List.drop_succ_cons, show 32 * (n + 1) = x.length + 32 * n from by omega, ← List.drop_drop, List.drop_left]
    exact flat_drop n (fun y hy => h y (List.mem_cons_of_mem _ hy))
theorem flat_chunk {G : List (List Int)} (h : Rows32 G) (t : Nat) (ht : t < G.length) : chunkOf G.flatten t = G[t] := by
  unfold chunkOf
  rw [flat_drop t h, List.drop_eq_getElem_cons ht, List.flatten_cons]
  have hx := (h _ (List.getElem_mem ht)).1
  generalize G[t] = x at *
  rw [← hx, List.take_left]
theorem flat_bytes {G : List (List Int)} (h : Rows32 G) : Bytes G.flatten := fun c hc => by
  obtain ⟨x, hx, hc⟩ := List.mem_flatten.1 hc
  exact (h x hx).2 c hc
theorem rows_drop {G : List (List Int)} (h : Rows32 G) (n : Nat) : Rows32 (G.drop n) := fun x hx => h x (List.mem_of_mem_drop hx)
theorem chunkOf_take (l : List Int) (n t : Nat) (h : t < n) : chunkOf (l.take (32 * n)) t = chunkOf l t := by
  unfold chunkOf
  rw [List.drop_take, List.take_take, Nat.min_eq_left (by omega)]
theorem chunk_packed (E q : Int) (r : List Int) (t : Nat) (ht : t < sectors r.length) : chunkOf (packed E q r) t = ((filled E q r).drop (24 * t)).take 24 ++ stampOf E q := cut_drop _ _ (stamp_len E q) _ (filled_len E q r) t ht
theorem chunk_epoch (E q : Int) (r : List Int) (hE : 0 ≤ E ∧ E < 4294967296) (t : Nat) (ht : t < sectors r.length) : epochOf (chunkOf (packed E q r) t) = E := epoch_packed E q r hE t ht
/-- What is in a record's sectors, byte for byte but for the stamps, is the record. -/
theorem filled_inj {E q : Int} {b r : List Int} (hl : b.length = r.length) (h : ∀ t, t < sectors r.length → ((filled E q b).drop (24 * t)).take 24 = ((filled E q r).drop (24 * t)).take 24) : b = r := by
  have hb := filled_len E q b
  have hr := filled_len E q r
  rw [hl] at hb
  have key : ∀ n, n ≤ sectors r.length → (filled E q b).take (24 * n) = (filled E q r).take (24 * n) := by
    intro n
    induction n with
    | zero => intro _; rfl
    | succ n ih =>
      intro hn
      rw [show 24 * (n + 1) = 24 * n + 24 from by omega, List.take_add, List.take_add, ih (by omega), h n (by omega)]
  have e : filled E q b = filled E q r := by
    have := key _ (Nat.le_refl _)
    rwa [← hb, List.take_length, hb, ← hr, List.take_length] at this
  have out : ∀ x : List Int, ((filled E q x).drop 6).take x.length = x := fun x => by
    unfold filled body
    rw [List.append_assoc, List.append_assoc, ← List.append_assoc (be2 _), show (6 : Nat) = (be2 ((x.length : Nat) : Int) ++ be4 (sumOf E q x)).length from rfl, List.drop_left, List.take_left]
  rw [← out b, ← out r, e, hl]
theorem chunk_head (E q : Int) (r : List Int) : (chunkOf (packed E q r) 0).take 2 = be2 ((r.length : Nat) : Int) := by
  rw [chunk_packed E q r 0 (sec_pos _), Nat.mul_zero, List.drop_zero]
  have h : 24 ≤ (filled E q r).length := by rw [filled_len]; have := sec_pos r.length; omega
  rw [List.take_append_of_le_length (by rw [List.length_take]; omega), List.take_take, Nat.min_eq_left (by decide)]
  unfold filled body
  rw [List.append_assoc]
  rfl
theorem be2_inj {a b : Nat} (ha : a ≤ 65535) (hb : b ≤ 65535) (h : be2 ((a : Nat) : Int) = be2 ((b : Nat) : Int)) : a = b := by
  unfold be2 at h
  simp only [List.cons.injEq, and_true] at h
  omega
/-- Sectors in which what bears the epoch E is, but for its last four bytes, what belongs there. -/
def Fits (E q : Int) (R G : List (List Int)) : Prop := ∀ (k : Nat) (x : List Int), G[k]? = some x → epochOf x = E → ∃ c : List Int, (secs E q R)[k]? = some c ∧ x.take 28 = c.take 28
theorem reads_part (E : Int) (hE : 0 ≤ E ∧ E < 4294967296) : ∀ (R : List (List Int)) (q : Int) (G : List (List Int)) (f : Nat), (∀ r ∈ R, r.length ≤ 60) → Rows32 G → Fits E q R G → ∃ m, m ≤ R.length ∧ (recs f E q G.flatten).1 = R.take m
  | R, q, G, 0, _, _, _ => ⟨0, Nat.zero_le _, by rw [recs]; rfl⟩
  | R, q, G, f + 1, hR, hG, hF => by
    rw [recs]
    split
    · rename_i hc
      obtain ⟨e', s', b, hU, h32, hbl, hbB, htk, -, -⟩ := unpackF_ok (flat_bytes hG) hc.1
      rw [hU] at hc ⊢
      obtain ⟨-, he, hs⟩ := hc
      have he : e' = E := he
      have hs : s' = q + 1 := hs
      subst he hs
      simp only [Int.toNat_natCast]
      rw [flat_len hG] at h32
      have hn : sectors b.length ≤ G.length := by omega
      have hp : ∀ t (ht : t < sectors b.length), G[t]'(by omega) = chunkOf (packed e' (q + 1) b) t := fun t ht => by
        rw [← flat_chunk hG t (by omega), ← htk, chunkOf_take _ _ _ ht]
      have hfit : ∀ t (ht : t < sectors b.length), ∃ c, (secs e' q R)[t]? = some c ∧ (chunkOf (packed e' (q + 1) b) t).take 28 = c.take 28 := fun t ht => by
        have := hF t _ (List.getElem?_eq_getElem (by omega)) (by rw [hp t ht]; exact chunk_epoch e' (q + 1) b hE t ht)
        rwa [hp t ht] at this
      have h0 := sec_pos b.length
      cases R with
      | nil => obtain ⟨c, hc, -⟩ := hfit 0 h0; simp [secs] at hc
      | cons r R =>
        have hr0 := sec_pos r.length
        have hget : ∀ t, t < sectors r.length → (secs e' q (r :: R))[t]? = some (chunkOf (packed e' (q + 1) r) t) := fun t ht => by
          rw [secs, List.getElem?_append_left (by rw [packed_chunks]; exact ht), chunks_get _ _ (by rw [packed_len]; omega)]
        have hlen : b.length = r.length := by
          obtain ⟨c, hc, hx⟩ := hfit 0 h0
          rw [hget 0 hr0] at hc
          obtain rfl := Option.some.inj hc
          have h2 := congrArg (List.take 2) hx
          rw [List.take_take, List.take_take, Nat.min_eq_left (by decide), chunk_head, chunk_head] at h2
          exact be2_inj hbl (Nat.le_trans (hR r (List.mem_cons_self ..)) (by decide)) h2
        have hbr : b = r := by
          refine filled_inj (E := e') (q := q + 1) hlen (fun t ht => ?_)
          obtain ⟨c, hc, hx⟩ := hfit t (by rw [hlen]; exact ht)
          rw [hget t ht] at hc
          obtain rfl := Option.some.inj hc
          rw [chunk_packed _ _ _ _ (by rw [hlen]; exact ht), chunk_packed _ _ _ _ ht] at hx
          have l1 : (((filled e' (q + 1) b).drop (24 * t)).take 24).length = 24 := by rw [List.length_take, List.length_drop, filled_len, hlen]; omega
          have l2 : (((filled e' (q + 1) r).drop (24 * t)).take 24).length = 24 := by rw [List.length_take, List.length_drop, filled_len]; omega
          have h2 := congrArg (List.take 24) hx
          rw [List.take_take, List.take_take, Nat.min_eq_left (by decide)] at h2
          generalize ((filled e' (q + 1) b).drop (24 * t)).take 24 = u at *
          generalize ((filled e' (q + 1) r).drop (24 * t)).take 24 = v at *
          rw [← l1, List.take_left, l1, ← l2, List.take_left] at h2
          exact h2
        subst hbr
        rw [flat_drop _ hG]
        obtain ⟨m, hm, hrec⟩ := reads_part e' hE R (q + 1) (G.drop (sectors b.length)) f (fun x hx => hR x (List.mem_cons_of_mem _ hx)) (rows_drop hG _) (fun k x hk hx => by
          rw [List.getElem?_drop] at hk
          obtain ⟨c, hc, hx2⟩ := hF _ x hk hx
          rw [secs, List.getElem?_append_right (by rw [packed_chunks]; omega), packed_chunks, Nat.add_sub_cancel_left] at hc
          exact ⟨c, hc, hx2⟩)
        exact ⟨m + 1, by rw [List.length_cons]; omega, by rw [hrec]; rfl⟩
    · exact ⟨0, Nat.zero_le _, rfl⟩
theorem chunks_flatten (b : List Int) (n : Nat) (h : b.length = 32 * n) : (chunks b).flatten = b := by
  have key : ∀ m, m ≤ n → ((List.range m).map (chunkOf b)).flatten = b.take (32 * m) := by
    intro m
    induction m with
    | zero => intro _; rfl
    | succ m ih =>
      intro hm
      rw [List.range_succ, List.map_append, List.flatten_append, ih (by omega), show 32 * (m + 1) = 32 * m + 32 from by omega, List.take_add]
      simp [chunkOf]
  unfold chunks
  rw [h, Nat.mul_div_cancel_left _ (by decide), key n (Nat.le_refl _), ← h, List.take_length]
/-- Records whose sectors all stand there are read. -/
theorem reads_least (E : Int) (hE : 0 ≤ E ∧ E < 4294967296) : ∀ (R : List (List Int)) (q : Int) (G : List (List Int)) (f : Nat), (∀ r ∈ R, r.length ≤ 60) → Rows32 G → G.length < f → 0 ≤ q → q + (R.length : Nat) ≤ 4294967295 → (∀ k, k < (secs E q R).length → G[k]? = (secs E q R)[k]?) → R.length ≤ (recs f E q G.flatten).1.length
  | [], _, _, _, _, _, _, _, _, _ => Nat.zero_le _
  | r :: R, q, G, 0, _, _, h, _, _, _ => by omega
  | r :: R, q, G, f + 1, hR, hG, hf, hq, hqr, hS => by
    have hn := packed_chunks E (q + 1) r
    have hlen : (secs E q (r :: R)).length = sectors r.length + (secs E (q + 1) R).length := by rw [secs, List.length_append, hn]
    have h0 := sec_pos r.length
    have hGl : sectors r.length ≤ G.length := by
      have h := hS (sectors r.length - 1) (by omega)
      have : sectors r.length - 1 < G.length := by
        refine Decidable.byContradiction (fun hh => ?_)
        rw [List.getElem?_eq_none (by omega), List.getElem?_eq_getElem (by omega)] at h
        cases h
      omega
    have htake : G.take (sectors r.length) = chunks (packed E (q + 1) r) := by
      refine List.ext_getElem? (fun k => ?_)
      by_cases hk : k < sectors r.length
      · rw [List.getElem?_take_of_lt hk, hS k (by omega), secs, List.getElem?_append_left (by omega)]
      · rw [List.getElem?_eq_none (by rw [List.length_take]; omega), List.getElem?_eq_none (by omega)]
    have hfl : G.flatten = packed E (q + 1) r ++ (G.drop (sectors r.length)).flatten := by
      rw [← chunks_flatten (packed E (q + 1) r) _ (packed_len ..), ← htake, ← List.flatten_append, List.take_append_drop]
    have hU := unpack_packed E (q + 1) r (G.drop (sectors r.length)).flatten hE ⟨by omega, by rw [List.length_cons] at hqr; omega⟩ (Nat.le_trans (hR r (List.mem_cons_self ..)) (by decide))
    rw [← hfl] at hU
    rw [recs, hU, if_pos ⟨rfl, rfl, rfl⟩]
    simp only [Int.toNat_natCast, List.length_cons]
    rw [flat_drop _ hG]
    have := reads_least E hE R (q + 1) (G.drop (sectors r.length)) f (fun x hx => hR x (List.mem_cons_of_mem _ hx)) (rows_drop hG _) (by rw [List.length_drop]; omega) (by omega) (by rw [List.length_cons] at hqr; omega) (fun k hk => by
      rw [List.getElem?_drop, hS _ (by omega), secs, List.getElem?_append_right (by omega), hn, Nat.add_sub_cancel_left])
    omega
/-! ### a sector that is torn -/
theorem epoch_small {x : List Int} (hx : x.length = 32) (hb : Bytes x) (h : epochOf x < 256) : x.getD 24 0 = 0 ∧ x.getD 25 0 = 0 ∧ x.getD 26 0 = 0 ∧ epochOf x = x.getD 27 0 := by
  have hg : ∀ i, 0 ≤ x.getD i 0 ∧ x.getD i 0 < 256 := fun i => by
    rw [List.getD_eq_getElem?_getD]
    cases hi : x[i]? with
    | none => decide
    | some c => exact hb c (List.mem_of_getElem? hi)
  have e : epochOf x = ((((0 * 256 + x.getD 24 0) * 256 + x.getD 25 0) * 256 + x.getD 26 0) * 256 + x.getD 27 0) := by
    have t : ∀ i, i < 4 → ((x.take 28).drop 24).getD i 0 = x.getD (24 + i) 0 := fun i hi => by
      rw [List.getD_eq_getElem?_getD, List.getElem?_drop, List.getElem?_take_of_lt (by omega), List.getD_eq_getElem?_getD]
    unfold epochOf
    simp only [vp]
    rw [t 0 (by decide), t 1 (by decide), t 2 (by decide), t 3 (by decide)]
  have g0 := hg 24; have g1 := hg 25; have g2 := hg 26; have g3 := hg 27
  rw [e] at h ⊢
  omega
theorem mixed_get (u v : List Int) (c i : Nat) (hu : u.length = 32) (hv : v.length = 32) (hi : i < 32) : (mixed u v c).getD i 0 = if i < c then v.getD i 0 else u.getD i 0 := by
  unfold mixed
  rw [List.getD_eq_getElem?_getD]
  split
  · rename_i h
    rw [List.getElem?_append_left (by rw [List.length_take]; omega), List.getElem?_take_of_lt h, List.getD_eq_getElem?_getD]
  · rename_i h
    rw [List.getElem?_append_right (by rw [List.length_take]; omega), List.getElem?_drop, List.length_take, Nat.min_eq_left (by omega), show c + (i - c) = i from by omega, List.getD_eq_getElem?_getD]
/-- A sector torn between two of small epochs has the one's epoch or the other's; with the new one's it has the new one's first 28 bytes. -/
theorem torn_epoch {u v : List Int} (c : Nat) (hc : c ≤ 32) (hu : u.length = 32 ∧ Bytes u) (hv : v.length = 32 ∧ Bytes v) (eu : epochOf u < 256) (ev : epochOf v < 256) :
    epochOf (mixed u v c) = epochOf u ∧ c ≤ 27 ∨ epochOf (mixed u v c) = epochOf v ∧ (mixed u v c).take 28 = v.take 28 ∧ 28 ≤ c := by
  obtain ⟨a0, a1, a2, a3⟩ := epoch_small hu.1 hu.2 eu
  obtain ⟨b0, b1, b2, b3⟩ := epoch_small hv.1 hv.2 ev
  have hl : (mixed u v c).length = 32 := by unfold mixed; rw [List.length_append, List.length_take, List.length_drop, hu.1, hv.1]; omega
  have e : epochOf (mixed u v c) = (mixed u v c).getD 27 0 := by
    have t : ∀ i, i < 4 → (((mixed u v c).take 28).drop 24).getD i 0 = (mixed u v c).getD (24 + i) 0 := fun i hi => by
      rw [List.getD_eq_getElem?_getD, List.getElem?_drop, List.getElem?_take_of_lt (by omega), List.getD_eq_getElem?_getD]
    have z : ∀ i, 24 ≤ i → i < 27 → (mixed u v c).getD i 0 = 0 := fun i h1 h2 => by
      rw [mixed_get u v c i hu.1 hv.1 (by omega)]
      have : i = 24 ∨ i = 25 ∨ i = 26 := by omega
      rcases this with rfl | rfl | rfl <;> split <;> assumption
    unfold epochOf
    simp only [vp]
    rw [t 0 (by decide), t 1 (by decide), t 2 (by decide), t 3 (by decide), z 24 (by decide) (by decide), z (24 + 1) (by decide) (by decide), z (24 + 2) (by decide) (by decide)]
    show _ = (mixed u v c).getD (24 + 3) 0
    omega
  rw [e, mixed_get u v c 27 hu.1 hv.1 (by decide)]
  by_cases h : 27 < c
  · rw [if_pos h]
    refine .inr ⟨b3.symm, ?_, by omega⟩
    unfold mixed
    rw [List.take_append_of_le_length (by rw [List.length_take]; omega), List.take_take, Nat.min_eq_left (by omega)]
  · rw [if_neg h]
    exact .inl ⟨a3.symm, by omega⟩
end Go.Proofs.Ytglpelhbncdkmaa.XJour
end
section
namespace Go.Proofs.Ytglpelhbncdkmaa.XJour
open Go.RowKit XCheck
set_option linter.unusedVariables false
theorem low_q : ∀ d : Fin 256, d.val ≠ 0 → (sbN 40 (BitVec.ofNat 32 (d.val * 16777216))).toNat % 256 ≠ 0 := by decide +kernel
def vE (e : Nat) : Nat := (sbN 64 (BitVec.ofNat 32 (e * 16777216))).toNat % 16777216
def vQ (d : Nat) : Nat := (sbN 32 (BitVec.ofNat 32 (d * 16777216))).toNat % 16777216
theorem low_eq : ∀ e d : Fin 256, e.val ≠ 0 → vE e.val ≠ vQ d.val := by decide +kernel
/-! ### the sum of a checkpoint's sector -/
theorem sum_bits (a s : Int) (c : Nat) (ha : 0 ≤ a ∧ a < 256) (hs : 0 ≤ s ∧ s < 256) (hc : c < 256) : XChunk.sumOf a s [0, ((c : Nat) : Int)] = enc (run 4294967295#32 (bitsOf [0, 0, 0, a, 0, 0, 0, s, 0, 2, 0, ((c : Nat) : Int)])) := by
  have e1 : XChunk.stampOf a s = [0, 0, 0, a, 0, 0, 0, s] := by
    unfold XChunk.stampOf XChunk.be4
    have : a / 16777216 % 256 = 0 ∧ a / 65536 % 256 = 0 ∧ a / 256 % 256 = 0 ∧ a % 256 = a := by omega
    have : s / 16777216 % 256 = 0 ∧ s / 65536 % 256 = 0 ∧ s / 256 % 256 = 0 ∧ s % 256 = s := by omega
    simp_all
  have e2 : XChunk.be2 (([0, ((c : Nat) : Int)].length : Nat) : Int) = [0, 2] := by simp [XChunk.be2]
  unfold XChunk.sumOf
  rw [e1, e2, ← fr_append, ← fr_append, start_enc]
  exact fr_enc _ (fun x hx => by simp at hx; omega) _
end Go.Proofs.Ytglpelhbncdkmaa.XJour
end
section
namespace Go.Proofs.Ytglpelhbncdkmaa.XJour
open Go.RowKit XCheck
set_option linter.unusedVariables false
def W8 (c : Nat) : BitVec 32 := BitVec.ofNat 32 (c * 16777216)
theorem sbN_add (m : Nat) : ∀ (n : Nat) (v : BitVec 32), sbN m (sbN n v) = sbN (n + m) v
  | 0, v => by rw [Nat.zero_add]; rfl
  | n + 1, v => by
    show sbN m (sbN n (sb v)) = sbN (n + 1 + m) v
    rw [sbN_add m n (sb v), show n + 1 + m = (n + m) + 1 from by omega]; rfl
theorem run_byte (v : BitVec 32) (c : Nat) (hc : c < 256) : run v (bits8 (c : Int)) = sbN 8 (v ^^^ W8 c) := by
  have := run_word (bits8 (c : Int)) v (by show 8 ≤ 32; decide)
  rw [word8 c hc] at this
  exact this
theorem run_zero (v : BitVec 32) : run v (bits8 0) = sbN 8 v := by
  have := run_byte v 0 (by decide)
  rw [show W8 0 = 0#32 from rfl, BitVec.xor_zero] at this
  exact this
theorem bits_xor (a b : Nat) (ha : a < 256) (hb : b < 256) : List.zipWith xor (bits8 (a : Int)) (bits8 (b : Int)) = bits8 ((a ^^^ b : Nat) : Int) := by
  simp only [bits8, Int.toNat_natCast, List.zipWith_cons_cons, List.zipWith_nil_left, Nat.testBit_xor]
/-- What twelve bytes come to, of which three are not 0. -/
theorem run_three (e d g : Nat) (he : e < 256) (hd : d < 256) (hg : g < 256) : run 0#32 (bitsOf [0, 0, 0, (e : Int), 0, 0, 0, (d : Int), 0, 0, 0, (g : Int)]) = sbN 8 ((sbN 64 (W8 e) ^^^ sbN 32 (W8 d)) ^^^ W8 g) := by
  have z : ∀ k, sbN k 0#32 = 0#32 := fun k => by
    induction k with
    | zero => rfl
    | succ k ih => show sbN k (sb 0#32) = _; rw [sb_zero]; exact ih
  simp only [bitsOf, List.flatMap_cons, List.flatMap_nil, List.append_nil]
  simp only [run_append, run_zero, run_byte _ _ he, run_byte _ _ hd, run_byte _ _ hg, z, BitVec.zero_xor, sbN_xor, sbN_add]
theorem sum_diff (a a' s s' c c' : Nat) (h1 : a < 256) (h2 : a' < 256) (h3 : s < 256) (h4 : s' < 256) (h5 : c < 256) (h6 : c' < 256) :
    run 4294967295#32 (bitsOf [0, 0, 0, (a : Int), 0, 0, 0, (s : Int), 0, 2, 0, (c : Int)]) ^^^ run 4294967295#32 (bitsOf [0, 0, 0, (a' : Int), 0, 0, 0, (s' : Int), 0, 2, 0, (c' : Int)]) = sbN 8 ((sbN 64 (W8 (a ^^^ a')) ^^^ sbN 32 (W8 (s ^^^ s'))) ^^^ W8 (c ^^^ c')) := by
  have hx : ∀ x y : Nat, x < 256 → y < 256 → x ^^^ y < 256 := fun x y hx hy => Nat.xor_lt_two_pow (n := 8) hx hy
  rw [run_xor (bitsOf [0, 0, 0, (a : Int), 0, 0, 0, (s : Int), 0, 2, 0, (c : Int)]) 4294967295#32 4294967295#32 (bitsOf [0, 0, 0, (a' : Int), 0, 0, 0, (s' : Int), 0, 2, 0, (c' : Int)]) (by rfl), BitVec.xor_self, ← run_three _ _ _ (hx a a' h1 h2) (hx s s' h3 h4) (hx c c' h5 h6)]
  congr 1
  have z0 : List.zipWith xor (bits8 0) (bits8 0) = bits8 0 := by decide
  have z2 : List.zipWith xor (bits8 2) (bits8 2) = bits8 0 := by decide
  have ap : ∀ (x y : Int) (q q' : List Bool), List.zipWith xor (bits8 x ++ q) (bits8 y ++ q') = List.zipWith xor (bits8 x) (bits8 y) ++ List.zipWith xor q q' := fun x y q q' => List.zipWith_append rfl
  simp only [bitsOf, List.flatMap_cons, List.flatMap_nil, List.append_nil, ap, z0, z2, bits_xor a a' h1 h2, bits_xor s s' h3 h4, bits_xor c c' h5 h6]
/-- Unlike epochs have unlike sums, whatever the numbers and the states. -/
theorem sum_epochs (a a' s s' c c' : Nat) (h1 : a < 256) (h2 : a' < 256) (h3 : s < 256) (h4 : s' < 256) (h5 : c < 256) (h6 : c' < 256) (hne : a ≠ a') : XChunk.sumOf (a : Int) (s : Int) [0, ((c : Nat) : Int)] ≠ XChunk.sumOf (a' : Int) (s' : Int) [0, ((c' : Nat) : Int)] := fun h => by
  rw [sum_bits _ _ c ⟨by omega, by omega⟩ ⟨by omega, by omega⟩ h5, sum_bits _ _ c' ⟨by omega, by omega⟩ ⟨by omega, by omega⟩ h6] at h
  have hd := sum_diff a a' s s' c c' h1 h2 h3 h4 h5 h6
  rw [enc_inj h, BitVec.xor_self] at hd
  have h0 := sbN_inj hd.symm
  have hx : ∀ x y : Nat, x < 256 → y < 256 → x ^^^ y < 256 := fun x y hx hy => Nat.xor_lt_two_pow (n := 8) hx hy
  have he := hx a a' h1 h2
  have hq := hx s s' h3 h4
  have hg := hx c c' h5 h6
  have e0 : sbN 64 (W8 (a ^^^ a')) = sbN 32 (W8 (s ^^^ s')) ^^^ W8 (c ^^^ c') := by
    have := congrArg (fun v => v ^^^ (sbN 32 (W8 (s ^^^ s')) ^^^ W8 (c ^^^ c'))) h0
    simpa [BitVec.xor_assoc] using this
  have hz : a ^^^ a' ≠ 0 := fun h => hne (Nat.eq_of_testBit_eq (fun i => by have := congrArg (fun n => Nat.testBit n i) h; simpa [Nat.testBit_xor] using this))
  refine low_eq ⟨a ^^^ a', he⟩ ⟨s ^^^ s', hq⟩ hz ?_
  show (sbN 64 (W8 (a ^^^ a'))).toNat % 16777216 = (sbN 32 (W8 (s ^^^ s'))).toNat % 16777216
  rw [e0, BitVec.toNat_xor, show (16777216 : Nat) = 2 ^ 24 from rfl, Nat.xor_mod_two_pow]
  have : (W8 (c ^^^ c')).toNat % 2 ^ 24 = 0 := by
    unfold W8
    rw [BitVec.toNat_ofNat]
    omega
  rw [this, Nat.xor_zero]
/-- Unlike numbers turn the last byte of the sum. -/
theorem sum_numbers (a s s' c : Nat) (h1 : a < 256) (h3 : s < 256) (h4 : s' < 256) (h5 : c < 256) (hne : s ≠ s') : XChunk.sumOf (a : Int) (s : Int) [0, ((c : Nat) : Int)] % 256 ≠ XChunk.sumOf (a : Int) (s' : Int) [0, ((c : Nat) : Int)] % 256 := fun h => by
  rw [sum_bits _ _ c ⟨by omega, by omega⟩ ⟨by omega, by omega⟩ h5, sum_bits _ _ c ⟨by omega, by omega⟩ ⟨by omega, by omega⟩ h5] at h
  have hd := sum_diff a a s s' c c h1 h1 h3 h4 h5 h5
  have w0 : W8 0 = 0#32 := rfl
  have z : ∀ k, sbN k 0#32 = 0#32 := fun k => by
    induction k with
    | zero => rfl
    | succ k ih => show sbN k (sb 0#32) = _; rw [sb_zero]; exact ih
  rw [Nat.xor_self, Nat.xor_self, w0, z, BitVec.zero_xor, BitVec.xor_zero, sbN_add] at hd
  have hx : s ^^^ s' < 256 := Nat.xor_lt_two_pow (n := 8) h3 h4
  have hz : s ^^^ s' ≠ 0 := fun h => hne (Nat.eq_of_testBit_eq (fun i => by have := congrArg (fun n => Nat.testBit n i) h; simpa [Nat.testBit_xor] using this))
  refine low_q ⟨s ^^^ s', hx⟩ hz ?_
  show (sbN (32 + 8) (W8 (s ^^^ s'))).toNat % 256 = 0
  rw [← hd, BitVec.toNat_xor, show (256 : Nat) = 2 ^ 8 from rfl, Nat.xor_mod_two_pow]
  unfold enc at h
  have h2 : (run 4294967295#32 (bitsOf [0, 0, 0, (a : Int), 0, 0, 0, (s : Int), 0, 2, 0, (c : Int)])).toNat % 2 ^ 8 = (run 4294967295#32 (bitsOf [0, 0, 0, (a : Int), 0, 0, 0, (s' : Int), 0, 2, 0, (c : Int)])).toNat % 2 ^ 8 := by
    have := congrArg Int.toNat h
    omega
  rw [h2, Nat.xor_self]
end Go.Proofs.Ytglpelhbncdkmaa.XJour
end
section
namespace Go.Proofs.Ytglpelhbncdkmaa.XJour
open Go.RowKit Go.Proofs.YtglpelhbncdkmaaW.PrintWords Go.Proofs.YtglpelhbncdkmaaW.PrintLast Go.Proofs.YtglpelhbncdkmaaW.PrintMore XDisk XChunk XUnpack XData
set_option linter.unusedVariables false
set_option linter.unusedSimpArgs false
theorem chunkOf_zero (b : List Int) : chunkOf b 0 = b.take 32 := by unfold chunkOf; rw [Nat.mul_zero, List.drop_zero]
theorem packed_one (E q : Int) (l : List Int) (h : l.length ≤ 18) : (packed E q l).length = 32 ∧ chunkOf (packed E q l) 0 = packed E q l := by
  have hl : (packed E q l).length = 32 := by rw [packed_len]; unfold sectors; omega
  exact ⟨hl, by rw [chunkOf_zero, ← hl, List.take_length]⟩
theorem pk_data (e q : Int) (l : List Int) (h : l.length ≤ 18) : (((packed e q l).take 28).drop 6).take l.length = l := by
  have h1 := chunk_packed e q l 0 (sec_pos _)
  rw [(packed_one e q l h).2, Nat.mul_zero, List.drop_zero] at h1
  have hf : (filled e q l).length = 24 := by rw [filled_len]; unfold sectors; omega
  rw [h1, List.take_of_length_le (l := filled e q l) (by omega)]
  have : ((filled e q l ++ stampOf e q).take 28).drop 6 = (filled e q l).drop 6 ++ (stampOf e q).take 4 := by
    rw [List.take_append, hf, List.take_of_length_le (by omega), List.drop_append_of_le_length (by omega)]
  rw [this, List.take_append_of_le_length (by rw [List.length_drop]; omega)]
  unfold filled body
  rw [List.append_assoc, List.append_assoc, ← List.append_assoc (be2 _), show (6 : Nat) = (be2 ((l.length : Nat) : Int) ++ be4 (sumOf e q l)).length from rfl, List.drop_left, List.take_left]
/-- The greatest epoch of sectors. -/
def gl (g : List (List Int)) : Int := lastF ⟨g, [], 0⟩ g.length
def form (t0 t1 t2 t3 c e n : Int) : List Int := [0, 2, t0, t1, t2, t3, 0, c, 0, 0, 0, 0, 0, 0, 0, 0, 0, 0, 0, 0, 0, 0, 0, 0, 0, 0, 0, e, 0, 0, 0, n]
def ck (E : Int) (q : Nat) : Int := sumOf E ((q : Nat) : Int) [0, ((q : Nat) : Int)]
theorem be4_small {n : Int} (h : 0 ≤ n ∧ n < 256) : be4 n = [0, 0, 0, n] := by
  unfold be4
  have : n / 16777216 % 256 = 0 ∧ n / 65536 % 256 = 0 ∧ n / 256 % 256 = 0 ∧ n % 256 = n := by omega
  simp_all
theorem sumOf_range (e n : Int) (c : Nat) (hc : c < 65536 := by omega) : 0 ≤ sumOf e n [0, ((c : Nat) : Int)] ∧ sumOf e n [0, ((c : Nat) : Int)] < 4294967296 := sum_range _ _ (sum_range _ _ (sum_range _ _ (by decide)))
theorem filled_two (e n : Int) (c : Nat) : filled e n [0, ((c : Nat) : Int)] = [0, 2] ++ (be4 (sumOf e n [0, ((c : Nat) : Int)]) ++ [0, ((c : Nat) : Int)]) ++ [0, 0, 0, 0, 0, 0, 0, 0, 0, 0, 0, 0, 0, 0, 0, 0] := by
  have h1 : be2 (([0, ((c : Nat) : Int)].length : Nat) : Int) = [0, 2] := by simp [be2]
  have h2 : 24 * sectors [0, ((c : Nat) : Int)].length - ([0, ((c : Nat) : Int)].length + 6) = 16 := by simp [sectors]
  unfold filled body
  rw [h1, h2]
  rfl
theorem form_packed {e n : Int} {c : Nat} (he : 0 ≤ e ∧ e < 256) (hn : 0 ≤ n ∧ n < 256) :
    packed e n [0, ((c : Nat) : Int)] = form (sumOf e n [0, ((c : Nat) : Int)] / 16777216 % 256) (sumOf e n [0, ((c : Nat) : Int)] / 65536 % 256) (sumOf e n [0, ((c : Nat) : Int)] / 256 % 256) (sumOf e n [0, ((c : Nat) : Int)] % 256) c e n := by
  have hp := packed_one e n [0, ((c : Nat) : Int)] (by simp)
  rw [← hp.2, chunk_packed e n _ 0 (sec_pos _)]
  unfold stampOf
  rw [be4_small he, be4_small hn, filled_two]
  rfl
theorem form_epoch (t0 t1 t2 t3 c e n : Int) : epochOf (form t0 t1 t2 t3 c e n) = e := by
  show (((0 * 256 + 0) * 256 + 0) * 256 + 0) * 256 + e = e
  omega
structure Junk (T : Int) (q : Nat) (E : Int) (g : List Int) : Prop where
  is : ∃ (t0 t1 t2 t3 : Int) (c : Nat) (e n : Int), g = form t0 t1 t2 t3 c e n ∧ c < 256 ∧ (0 ≤ n ∧ n < 256) ∧ E < e ∧ e < T ∧
    (t3 ≠ sumOf e n [0, ((c : Nat) : Int)] % 256 ∨ t0 = ck T q / 16777216 % 256 ∧ t1 = ck T q / 65536 % 256 ∧ t2 = ck T q / 256 % 256 ∧ t3 = ck T q % 256)
/-- It is no checkpoint. -/
theorem junk_refused {T : Int} {q : Nat} {E : Int} {g : List Int} (h : Junk T q E g) (hE : 0 ≤ E) (hT : T < 256) (hq : q < 256) (e' n' : Int) (bb : List Int) (hb : bb.length ≤ 65535) (he' : 0 ≤ e' ∧ e' < 4294967296) (hn' : 0 ≤ n' ∧ n' < 4294967296) : chunkOf (packed e' n' bb) 0 ≠ g := by
  obtain ⟨t0, t1, t2, t3, c, e, n, rfl, hc, hn, h1, h2, h3⟩ := h.is
  intro hg
  have a1 := chunk_epoch e' n' bb he' 0 (sec_pos _)
  rw [hg, form_epoch] at a1
  subst a1
  have a2 := chunk_head e n' bb
  rw [hg] at a2
  have a3 : be2 ((2 : Nat) : Int) = be2 ((bb.length : Nat) : Int) := a2
  have a4 : 2 = bb.length := be2_inj (by decide) hb a3
  have a5 := pk_data e n' bb (by omega)
  rw [(packed_one e n' bb (by omega)).2] at hg
  rw [hg, ← a4] at a5
  have a6 : bb = [0, ((c : Nat) : Int)] := a5.symm
  subst a6
  have a7 : be4 n' = [0, 0, 0, n] := by
    have hpo := packed_one e n' [0, ((c : Nat) : Int)] (by simp)
    have h1 := chunk_packed e n' [0, ((c : Nat) : Int)] 0 (sec_pos _)
    rw [hpo.2, hg] at h1
    have := congrArg (List.drop 28) h1
    unfold stampOf at this
    rw [filled_two] at this
    exact this.symm
  have a8 : n' = n := by
    have := val4_be n' hn'
    rw [a7] at this
    rw [← this]
    show ((0 * 256 + 0) * 256 + 0) * 256 + n = n
    omega
  subst a8
  rw [form_packed ⟨by omega, by omega⟩ hn] at hg
  unfold form at hg
  simp only [List.cons.injEq, and_true, true_and] at hg
  obtain ⟨g0, g1, g2, g3⟩ := hg
  rcases h3 with h3 | ⟨b0, b1, b2, b3⟩
  · exact h3 g3.symm
  · have r1 := sumOf_range e n' c
    have r2 := sumOf_range T ((q : Nat) : Int) q
    have : sumOf e n' [0, ((c : Nat) : Int)] = sumOf T ((q : Nat) : Int) [0, ((q : Nat) : Int)] := by
      unfold ck at b0 b1 b2 b3
      omega
    have key := sum_epochs e.toNat T.toNat n'.toNat q c q (by omega) (by omega) (by omega) hq hc hq (by omega)
    rw [Int.toNat_of_nonneg (by omega), Int.toNat_of_nonneg (by omega), Int.toNat_of_nonneg (by omega)] at key
    exact key this
/-! ### what a crash makes of it -/
def Num (v : List Int) : Prop := ∃ m : Int, (0 ≤ m ∧ m < 256) ∧ v.drop 28 = [0, 0, 0, m]
theorem num_form (t0 t1 t2 t3 c e n : Int) (hn : 0 ≤ n ∧ n < 256) : Num (form t0 t1 t2 t3 c e n) := ⟨n, hn, rfl⟩
theorem mixed_drop (u v : List Int) (c : Nat) (hc : c ≤ 32) (hu : u.length = 32) (hv : v.length = 32) : (mixed u v c).drop 28 = (v.drop 28).take (c - 28) ++ (u.drop 28).drop (c - 28) := by
  unfold mixed
  rw [List.drop_append, List.drop_take, List.length_take, hv, Nat.min_eq_left hc, List.drop_drop, List.drop_drop, show c + (28 - c) = 28 + (c - 28) from by omega]
theorem num_mixed {u v : List Int} (c : Nat) (hc : c ≤ 32) (hu : u.length = 32) (hv : v.length = 32) (h1 : Num u) (h2 : Num v) : Num (mixed u v c) := by
  obtain ⟨m, hm, e1⟩ := h1
  obtain ⟨n, hn, e2⟩ := h2
  unfold Num
  rw [mixed_drop u v c hc hu hv, e1, e2]
  have : c - 28 = 0 ∨ c - 28 = 1 ∨ c - 28 = 2 ∨ c - 28 = 3 ∨ c - 28 = 4 := by omega
  rcases this with h | h | h | h | h <;> rw [h]
  · exact ⟨m, hm, rfl⟩
  · exact ⟨m, hm, rfl⟩
  · exact ⟨m, hm, rfl⟩
  · exact ⟨m, hm, rfl⟩
  · exact ⟨n, hn, rfl⟩
/-- Cut within the last four bytes. -/
theorem mix28 {g : List Int} {E T : Int} {q c : Nat} (hg : g.length = 32) (hn : Num g) (hE : 0 ≤ E) (hET : E < T) (hT : T < 256) (hq : q < 256) (h1 : 28 ≤ c) (h2 : c ≤ 32) :
    mixed g (packed T ((q : Nat) : Int) [0, ((q : Nat) : Int)]) c = packed T ((q : Nat) : Int) [0, ((q : Nat) : Int)] ∨ ∀ (T' : Int) (q' : Nat), T < T' → Junk T' q' E (mixed g (packed T ((q : Nat) : Int) [0, ((q : Nat) : Int)]) c) := by
  obtain ⟨m, hm, e1⟩ := hn
  have hs := sum_numbers T.toNat q m.toNat q (by omega) hq (by omega) hq
  rw [Int.toNat_of_nonneg (by omega), Int.toNat_of_nonneg hm.1] at hs
  by_cases hqm : m = ((q : Nat) : Int)
  · left
    subst hqm
    rw [form_packed ⟨by omega, hT⟩ ⟨by omega, by omega⟩]
    unfold mixed
    rw [show c = 28 + (c - 28) from by omega, ← List.drop_drop, e1]
    have : c - 28 = 0 ∨ c - 28 = 1 ∨ c - 28 = 2 ∨ c - 28 = 3 ∨ c - 28 = 4 := by omega
    rcases this with h | h | h | h | h <;> rw [h] <;> rfl
  · have hcase : mixed g (packed T ((q : Nat) : Int) [0, ((q : Nat) : Int)]) c = packed T ((q : Nat) : Int) [0, ((q : Nat) : Int)] ∨ mixed g (packed T ((q : Nat) : Int) [0, ((q : Nat) : Int)]) c = form (ck T q / 16777216 % 256) (ck T q / 65536 % 256) (ck T q / 256 % 256) (ck T q % 256) q T m := by
      rw [form_packed ⟨by omega, hT⟩ ⟨by omega, by omega⟩]
      unfold mixed
      rw [show c = 28 + (c - 28) from by omega, ← List.drop_drop, e1]
      have : c - 28 = 0 ∨ c - 28 = 1 ∨ c - 28 = 2 ∨ c - 28 = 3 ∨ c - 28 = 4 := by omega
      rcases this with h | h | h | h | h <;> rw [h]
      · right; rfl
      · right; rfl
      · right; rfl
      · right; rfl
      · left; rfl
    refine hcase.imp_right (fun he T' q' hT' => ⟨_, _, _, _, q, T, m, he, hq, hm, hET, hT', .inl ?_⟩)
    exact hs (fun hh => hqm (by omega))
/-- Cut ahead of that, over what was torn. -/
theorem junk_mixed {T : Int} {q : Nat} {E : Int} {g : List Int} (h : Junk T q E g) (hE : 0 ≤ E) (hT : T < 256) (hq : q < 256) (k : Nat) (hk : k ≤ 27) : Junk T q E (mixed g (packed T ((q : Nat) : Int) [0, ((q : Nat) : Int)]) k) := by
  obtain ⟨t0, t1, t2, t3, c, e, n, rfl, hc, hn, h1, h2, h3⟩ := h.is
  rw [form_packed ⟨by omega, hT⟩ ⟨by omega, by omega⟩]
  change Junk T q E (mixed (form t0 t1 t2 t3 c e n) (form (ck T q / 16777216 % 256) (ck T q / 65536 % 256) (ck T q / 256 % 256) (ck T q % 256) q T q) k)
  by_cases hk6 : k < 6
  · have hf : ∃ u0 u1 u2, mixed (form t0 t1 t2 t3 c e n) (form (ck T q / 16777216 % 256) (ck T q / 65536 % 256) (ck T q / 256 % 256) (ck T q % 256) q T q) k = form u0 u1 u2 t3 c e n ∧ (t0 = ck T q / 16777216 % 256 → u0 = ck T q / 16777216 % 256) ∧ (t1 = ck T q / 65536 % 256 → u1 = ck T q / 65536 % 256) ∧ (t2 = ck T q / 256 % 256 → u2 = ck T q / 256 % 256) := by
      have : k = 0 ∨ k = 1 ∨ k = 2 ∨ k = 3 ∨ k = 4 ∨ k = 5 := by omega
      rcases this with h | h | h | h | h | h <;> rw [h]
      · exact ⟨_, _, _, rfl, id, id, id⟩
      · exact ⟨_, _, _, rfl, id, id, id⟩
      · exact ⟨_, _, _, rfl, id, id, id⟩
      · exact ⟨_, _, _, rfl, fun _ => rfl, id, id⟩
      · exact ⟨_, _, _, rfl, fun _ => rfl, fun _ => rfl, id⟩
      · exact ⟨_, _, _, rfl, fun _ => rfl, fun _ => rfl, fun _ => rfl⟩
    obtain ⟨u0, u1, u2, hm, a0, a1, a2⟩ := hf
    exact ⟨u0, u1, u2, t3, c, e, n, hm, hc, hn, h1, h2, h3.imp_right (fun ⟨b0, b1, b2, b3⟩ => ⟨a0 b0, a1 b1, a2 b2, b3⟩)⟩
  · have hf : ∃ c' : Nat, c' < 256 ∧ mixed (form t0 t1 t2 t3 c e n) (form (ck T q / 16777216 % 256) (ck T q / 65536 % 256) (ck T q / 256 % 256) (ck T q % 256) q T q) k = form (ck T q / 16777216 % 256) (ck T q / 65536 % 256) (ck T q / 256 % 256) (ck T q % 256) c' e n := by
      by_cases hk8 : k < 8
      · refine ⟨c, hc, ?_⟩
        have : k = 6 ∨ k = 7 := by omega
        rcases this with h | h <;> rw [h] <;> rfl
      · refine ⟨q, hq, ?_⟩
        have : k = 8 ∨ k = 9 ∨ k = 10 ∨ k = 11 ∨ k = 12 ∨ k = 13 ∨ k = 14 ∨ k = 15 ∨ k = 16 ∨ k = 17 ∨ k = 18 ∨ k = 19 ∨ k = 20 ∨ k = 21 ∨ k = 22 ∨ k = 23 ∨ k = 24 ∨ k = 25 ∨ k = 26 ∨ k = 27 := by omega
        rcases this with h | h | h | h | h | h | h | h | h | h | h | h | h | h | h | h | h | h | h | h <;> rw [h] <;> rfl
    obtain ⟨c', hc', hm⟩ := hf
    exact ⟨_, _, _, _, c', e, n, hm, hc', hn, h1, h2, .inr ⟨rfl, rfl, rfl, rfl⟩⟩
theorem junk_num {T : Int} {q : Nat} {E : Int} {g : List Int} (h : Junk T q E g) : Num g := by
  obtain ⟨t0, t1, t2, t3, c, e, n, rfl, hc, hn, -⟩ := h.is
  exact num_form _ _ _ _ _ _ _ hn
theorem junk_epoch {T : Int} {q : Nat} {E : Int} {g : List Int} (h : Junk T q E g) : E < epochOf g ∧ epochOf g < T := by
  obtain ⟨t0, t1, t2, t3, c, e, n, rfl, hc, hn, h1, h2, -⟩ := h.is
  rw [form_epoch]; exact ⟨h1, h2⟩
end Go.Proofs.Ytglpelhbncdkmaa.XJour
end
section
namespace Go.Proofs.Ytglpelhbncdkmaa.XJour
open Go.RowKit Go.Proofs.YtglpelhbncdkmaaW.PrintWords Go.Proofs.YtglpelhbncdkmaaW.PrintLast Go.Proofs.YtglpelhbncdkmaaW.PrintMore XDisk XChunk XUnpack XData
set_option linter.unusedVariables false
set_option linter.unusedSimpArgs false
theorem put_has (xs : List (Int × List Int)) (a : Int) (b : List Int) : (a, b) ∈ put xs a b := by
  unfold put
  split
  · rename_i h
    rcases locF_range a xs 0 with hl | ⟨j, hj, hl, -⟩
    · omega
    · rw [hl, show ((0 + j : Nat) : Int).toNat = j from by omega]
      exact List.mem_iff_getElem?.2 ⟨j, by rw [List.getElem?_set_self hj]⟩
  · exact List.mem_append.2 (.inr (List.mem_singleton.2 rfl))
theorem put_keys (xs : List (Int × List Int)) (a : Int) (b : List Int) (x : Int) (h : ∃ v, (x, v) ∈ xs) : ∃ v, (x, v) ∈ put xs a b := by
  by_cases hx : x = a
  · exact ⟨b, hx ▸ put_has xs a b⟩
  · obtain ⟨v, hv⟩ := h
    unfold put
    split
    · rename_i h0
      rcases locF_range a xs 0 with hl | ⟨j, hj, hl, hja⟩
      · omega
      · rw [hl, show ((0 + j : Nat) : Int).toNat = j from by omega]
        obtain ⟨k, hk⟩ := List.mem_iff_getElem?.1 hv
        refine ⟨v, List.mem_iff_getElem?.2 ⟨k, ?_⟩⟩
        have hjk : j ≠ k := fun e => by
          subst e
          rw [List.getElem?_eq_getElem hj] at hk
          have := Option.some.inj hk
          rw [this] at hja
          exact hx hja
        rw [List.getElem?_set_ne hjk]; exact hk
    · exact ⟨v, List.mem_append.2 (.inl hv)⟩
theorem write_case (s : St) (a : Int) (b : List Int) : (Write s a b).1 = 0 ∧ (Write s a b).2.cache = put s.cache a b ∨ (Write s a b).1 ≠ 0 ∧ (Write s a b).2 = s := by
  unfold Write
  split
  · split
    · exact .inl ⟨rfl, rfl⟩
    · exact .inr ⟨show (10 : Int) ≠ 0 from by decide, rfl⟩
  · exact .inr ⟨show (1 : Int) ≠ 0 from by decide, rfl⟩
theorem chunkOf_succ (b : List Int) (t : Nat) : chunkOf (b.drop 32) t = chunkOf b (t + 1) := by unfold chunkOf; rw [List.drop_drop, show 32 + 32 * t = 32 * (t + 1) from by omega]
theorem putAll_vers : ∀ (m : Nat) (s : St) (a : Int) (b : List Int), Ok s →
    (putAll m s a b).2.good = s.good ∧ (∀ y ∈ (putAll m s a b).2.cache, y ∈ s.cache ∨ ∃ t, t < m ∧ y.1 = a + (t : Nat) ∧ y.2 = chunkOf b t) ∧ (∀ x, (∃ v, (x, v) ∈ s.cache) → ∃ v, (x, v) ∈ (putAll m s a b).2.cache) ∧
    ((putAll m s a b).1 = 0 → ∀ t, t < m → ∃ v, (a + (t : Nat), v) ∈ (putAll m s a b).2.cache)
  | 0, s, a, b, _ => ⟨rfl, fun y hy => .inl hy, fun x h => h, fun _ t ht => absurd ht (Nat.not_lt_zero _)⟩
  | m + 1, s, a, b, hO => by
    have hk := write_keeps s a (b.take 32) hO
    rw [putAll]
    rcases write_case s a (b.take 32) with ⟨h1, h2⟩ | ⟨h1, h2⟩
    · rw [if_pos h1]
      obtain ⟨i0, i1, i2, i3⟩ := putAll_vers m (Write s a (b.take 32)).2 (a + 1) (b.drop 32) hk.1
      refine ⟨i0.trans hk.2.1, fun y hy => ?_, fun x hx => i2 x (h2 ▸ put_keys _ _ _ x hx), fun h0 t ht => ?_⟩
      · rcases i1 y hy with hy | ⟨t, ht, e1, e2⟩
        · rw [h2] at hy
          rcases (put_ok (i := a) (b := b.take 32) hO.once).2.2 y hy with rfl | hy
          · exact .inr ⟨0, by omega, by simp, (chunkOf_zero b).symm⟩
          · exact .inl hy
        · exact .inr ⟨t + 1, by omega, by rw [e1]; omega, by rw [e2, chunkOf_succ]⟩
      · cases t with
        | zero =>
          obtain ⟨v, hv⟩ := i2 a ⟨b.take 32, h2 ▸ put_has _ _ _⟩
          exact ⟨v, by simpa using hv⟩
        | succ t =>
          obtain ⟨v, hv⟩ := i3 h0 t (by omega)
          exact ⟨v, by rw [show a + ((t + 1 : Nat) : Int) = a + 1 + (t : Nat) from by omega]; exact hv⟩
    · rw [if_neg h1, h2]
      exact ⟨rfl, fun y hy => .inl hy, fun x h => h, fun h0 => absurd h0 h1⟩
theorem put_err : ∀ (m : Nat) (s : St) (a : Int) (b : List Int), Ok s → 0 ≤ a → a + (m : Nat) ≤ (s.good.length : Nat) → b.length = 32 * m → (putAll m s a b).1 = 0 ∨ (putAll m s a b).1 = 10
  | 0, _, _, _, _, _, _, _ => .inl rfl
  | m + 1, s, a, b, hO, ha, hm, hb => by
    have hk := write_keeps s a (b.take 32) hO
    rw [putAll]
    split
    · exact put_err m _ (a + 1) (b.drop 32) hk.1 (by omega) (by rw [hk.2.1]; omega) (by rw [List.length_drop]; omega)
    · unfold Write
      rw [if_pos ⟨by rw [decide_eq_true ha, decide_eq_true (by omega)]; rfl, by rw [List.length_take]; omega⟩]
      split
      · exact .inl rfl
      · exact .inr rfl
/-! ### the invariant -/
/-- A version of a sector: for good, or cached. -/
def ver (s : St) (x : Nat) (v : List Int) : Prop := s.good[x]? = some v ∨ (((x : Nat) : Int), v) ∈ s.cache
structure LInv (B : Int) (j : Jr) (s : St) (all : List (List Int)) (sure p c0 : Nat) (q0 : Int) : Prop where
  ok : JOk j s
  slot : j.slot = 2
  len : s.good.length = 64
  many : all.length ≤ 200
  each : ∀ r ∈ all, r.length ≤ 60 ∧ Bytes r
  place : j.place = (p : Nat) ∧ p < 2
  hB : B ≤ 200
  bound : ∀ x v, ver s x v → epochOf v ≤ B
  hs : c0 ≤ sure ∧ sure ≤ all.length
  qc : q0 = ((c0 : Nat) : Int)
  hE : 1 ≤ j.epoch
  home : s.good[2 * p]? = some (packed j.epoch q0 [0, (c0 : Nat)])
  homec : ∀ y ∈ s.cache, y.1 ≠ ((2 * p : Nat) : Int) ∧ y.1 ≠ ((2 * p + 1 : Nat) : Int) ∧ y.1 ≠ ((2 * (1 - p) + 1 : Nat) : Int)
  othern : ∀ v, s.good[2 * (1 - p)]? = some v → Num v
  other : ∀ v, s.good[2 * (1 - p)]? = some v → epochOf v < j.epoch ∨ j.op = false ∧ Junk (gl s.good + 1) j.seq.toNat j.epoch v
  otherc : ∀ v, (((2 * (1 - p) : Nat) : Int), v) ∈ s.cache → j.down = true ∧ ∃ (E' : Int) (c' : Nat), v = packed E' ((c' : Nat) : Int) [0, ((c' : Nat) : Int)] ∧ sure ≤ c' ∧ c' ≤ all.length ∧ j.epoch < E' ∧ E' ≤ 200 ∧ (∀ x w, 4 ≤ x → ver s x w → epochOf w < E') ∧ (j.op = false → E' = gl s.good + 1 ∧ j.seq = ((c' : Nat) : Int))
  log : j.op = true → ∀ x v, 4 ≤ x → ver s x v → epochOf v = j.epoch → ∃ c : List Int, (secs j.epoch q0 (all.drop c0))[x - 4]? = some c ∧ v.take 28 = c.take 28
  logc : j.op = true → ∀ x v, 4 ≤ x → (((x : Nat) : Int), v) ∈ s.cache → (secs j.epoch q0 (all.drop c0))[x - 4]? = some v
  firm : j.op = true → ∀ k, k < (secs j.epoch q0 ((all.drop c0).take (sure - c0))).length → s.good[4 + k]? = (secs j.epoch q0 ((all.drop c0).take (sure - c0)))[k]?
  opn : j.op = true → j.down = false → j.seq = q0 + ((all.drop c0).length : Nat) ∧ j.next = 4 + ((secs j.epoch q0 (all.drop c0)).length : Nat) ∧ (∀ x v, ver s x v → epochOf v ≤ j.epoch) ∧
    ∀ k, k < (secs j.epoch q0 (all.drop c0)).length → (∃ v, (((4 + k : Nat) : Int), v) ∈ s.cache) ∨ s.good[4 + k]? = (secs j.epoch q0 (all.drop c0))[k]?
  cls : j.op = false → j.down = false → s.cache = [] ∧ j.seq = ((all.length : Nat) : Int)
  shut : j.op = false → (∀ y ∈ s.cache, y.1 < 4) ∧ ∃ m, sure - c0 ≤ m ∧ c0 + m ≤ all.length ∧ j.seq = q0 + ((m : Nat) : Int) ∧ (recs 61 j.epoch q0 (s.good.drop 4).flatten).1 = (all.drop c0).take m
theorem LInv.num {B : Int} {j : Jr} {s : St} {all : List (List Int)} {sure p c0 : Nat} {q0 : Int} (h : LInv B j s all sure p c0 q0) : 0 ≤ q0 ∧ q0 + ((sure - c0 : Nat) : Int) ≤ 4294967295 := by
  have := h.qc; have := h.hs; have := h.many; omega
theorem LInv.okS {B : Int} {j : Jr} {s : St} {all : List (List Int)} {sure p c0 : Nat} {q0 : Int} (h : LInv B j s all sure p c0 q0) : Ok s := ⟨h.ok.fine.inr, h.ok.fine.once⟩
/-- A record that is not written, though the law counts it. -/
theorem inv_told {B : Int} {j : Jr} {s : St} {all : List (List Int)} {sure p c0 : Nat} {q0 : Int} (h : LInv B j s all sure p c0 q0) (hd : j.down = true) (l : List Int) (hl : l.length ≤ 60 ∧ Bytes l) (hm : all.length < 200) : LInv B j s (all ++ [l]) sure p c0 q0 := by
  have hc : c0 ≤ all.length := Nat.le_trans h.hs.1 h.hs.2
  have e : (all ++ [l]).drop c0 = all.drop c0 ++ [l] := List.drop_append_of_le_length hc
  have ext : ∀ (k : Nat) (c : List Int), (secs j.epoch q0 (all.drop c0))[k]? = some c → (secs j.epoch q0 (all.drop c0 ++ [l]))[k]? = some c := fun k c hk => by
    rw [secs_snoc, List.getElem?_append_left (List.getElem?_eq_some_iff.1 hk).1]; exact hk
  have et : ((all ++ [l]).drop c0).take (sure - c0) = (all.drop c0).take (sure - c0) := by
    rw [e, List.take_append_of_le_length (by rw [List.length_drop]; have := h.hs; omega)]
  exact {
    ok := h.ok, slot := h.slot, len := h.len, many := by rw [List.length_append, List.length_singleton]; omega
    each := fun r hr => by
      rcases List.mem_append.1 hr with hr | hr
      · exact h.each r hr
      · rw [List.mem_singleton.1 hr]; exact hl
    place := h.place, hB := h.hB, bound := h.bound
    hs := ⟨h.hs.1, by rw [List.length_append]; have := h.hs; omega⟩
    qc := h.qc, hE := h.hE, home := h.home, homec := h.homec, othern := h.othern, other := h.other
    otherc := fun v hv => by
      obtain ⟨h1, E', c', h2, h3, h4, h5⟩ := h.otherc v hv
      exact ⟨h1, E', c', h2, h3, by rw [List.length_append]; omega, h5⟩
    log := fun ho x v hx hv he => by
      obtain ⟨c, h1, h2⟩ := h.log ho x v hx hv he
      exact ⟨c, by rw [e]; exact ext _ _ h1, h2⟩
    logc := fun ho x v hx hv => by rw [e]; exact ext _ _ (h.logc ho x v hx hv)
    firm := by rw [et]; exact h.firm
    shut := fun ho => by
      obtain ⟨h1, m, h2, h3, h4, h5⟩ := h.shut ho
      refine ⟨h1, m, h2, by rw [List.length_append]; omega, h4, ?_⟩
      rw [h5, e, List.take_append_of_le_length (by rw [List.length_drop]; omega)]
    opn := fun _ hh => by rw [hd] at hh; cases hh
    cls := fun _ hh => by rw [hd] at hh; cases hh }
theorem home_epoch {B : Int} {j : Jr} {s : St} {all : List (List Int)} {sure p c0 : Nat} {q0 : Int} (h : LInv B j s all sure p c0 q0) : j.epoch ≤ B := by
  have h1 := h.bound (2 * p) _ (.inl h.home)
  have h2 := h.ok.epoch
  have h3 := chunk_epoch j.epoch q0 [0, ((c0 : Nat) : Int)] ⟨h2.1, by omega⟩ 0 (sec_pos _)
  rw [(packed_one j.epoch q0 [0, ((c0 : Nat) : Int)] (by simp)).2] at h3
  omega
/-- Sectors of one more record are cached. -/
theorem inv_more {B : Int} {j : Jr} {s : St} {all : List (List Int)} {sure p c0 : Nat} {q0 : Int} (h : LInv B j s all sure p c0 q0) (l : List Int) (hl : l.length ≤ 60 ∧ Bytes l) (hm : all.length < 200) (ho : j.op = true) (hd : j.down = false) (j' : Jr)
    (hj : j'.epoch = j.epoch ∧ j'.place = j.place ∧ j'.slot = j.slot ∧ j'.op = true) (hok : JOk j' (putAll (sectors l.length) s j.next (packed j.epoch (j.seq + 1) l)).2)
    (hn : j'.down = false → (putAll (sectors l.length) s j.next (packed j.epoch (j.seq + 1) l)).1 = 0 ∧ j'.op = true ∧ j'.seq = j.seq + 1 ∧ j'.next = j.next + (sectors l.length : Nat)) :
    LInv B j' (putAll (sectors l.length) s j.next (packed j.epoch (j.seq + 1) l)).2 (all ++ [l]) sure p c0 q0 := by
  obtain ⟨v0, v1, v2, v3⟩ := putAll_vers (sectors l.length) s j.next (packed j.epoch (j.seq + 1) l) h.okS
  obtain ⟨o1, o2, o3, o4⟩ := h.opn ho hd
  have hc : c0 ≤ all.length := Nat.le_trans h.hs.1 h.hs.2
  have hEr := h.ok.epoch
  have e : (all ++ [l]).drop c0 = all.drop c0 ++ [l] := List.drop_append_of_le_length hc
  have eS : secs j.epoch q0 (all.drop c0 ++ [l]) = secs j.epoch q0 (all.drop c0) ++ chunks (packed j.epoch (j.seq + 1) l) := by rw [secs_snoc, ← o1]
  have hP := packed_chunks j.epoch (j.seq + 1) l
  obtain ⟨N, hN⟩ : ∃ N, (secs j.epoch q0 (all.drop c0)).length = N := ⟨_, rfl⟩
  have ext : ∀ (k : Nat) (c : List Int), (secs j.epoch q0 (all.drop c0))[k]? = some c → (secs j.epoch q0 (all.drop c0 ++ [l]))[k]? = some c := fun k c hk => by
    rw [eS, List.getElem?_append_left (List.getElem?_eq_some_iff.1 hk).1]; exact hk
  have new : ∀ t, t < sectors l.length → (secs j.epoch q0 (all.drop c0 ++ [l]))[N + t]? = some (chunkOf (packed j.epoch (j.seq + 1) l) t) := fun t ht => by
    rw [eS, List.getElem?_append_right (by omega), hN, Nat.add_sub_cancel_left, chunks_get _ _ (by rw [packed_len]; omega)]
  have et : ((all ++ [l]).drop c0).take (sure - c0) = (all.drop c0).take (sure - c0) := by
    rw [e, List.take_append_of_le_length (by rw [List.length_drop]; have := h.hs; omega)]
  rw [hN] at o2 o4
  obtain ⟨s', hs'⟩ : ∃ z, (putAll (sectors l.length) s j.next (packed j.epoch (j.seq + 1) l)).2 = z := ⟨_, rfl⟩
  rw [hs'] at v0 v1 v2 v3 hok ⊢
  have cas : ∀ (x : Nat) v, ((((x : Nat) : Int), v)) ∈ s'.cache → (((x : Nat) : Int), v) ∈ s.cache ∨ ∃ t, t < sectors l.length ∧ x = 4 + N + t ∧ v = chunkOf (packed j.epoch (j.seq + 1) l) t := fun x v hv => by
    rcases v1 _ hv with hv | ⟨t, ht, e1, e2⟩
    · exact .inl hv
    · exact .inr ⟨t, ht, by have e1 : ((x : Nat) : Int) = j.next + (t : Nat) := e1; omega, e2⟩
  have vers : ∀ x v, ver s' x v → ver s x v ∨ ∃ t, t < sectors l.length ∧ x = 4 + N + t ∧ v = chunkOf (packed j.epoch (j.seq + 1) l) t := fun x v hv => by
    rcases hv with hv | hv
    · exact .inl (.inl (by rw [← v0]; exact hv))
    · exact (cas x v hv).imp_left .inr
  have hce : ∀ t, t < sectors l.length → epochOf (chunkOf (packed j.epoch (j.seq + 1) l) t) = j.epoch := fun t ht => chunk_epoch j.epoch (j.seq + 1) l ⟨hEr.1, by omega⟩ t ht
  have hp2 := h.place.2
  exact {
    ok := hok, slot := hj.2.2.1.trans h.slot, len := by rw [v0]; exact h.len, many := by rw [List.length_append, List.length_singleton]; omega
    each := fun r hr => by
      rcases List.mem_append.1 hr with hr | hr
      · exact h.each r hr
      · rw [List.mem_singleton.1 hr]; exact hl
    place := ⟨hj.2.1.trans h.place.1, h.place.2⟩, hB := h.hB
    bound := fun x v hv => by
      rcases vers x v hv with hv | ⟨t, ht, -, rfl⟩
      · exact h.bound x v hv
      · rw [hce t ht]; exact home_epoch h
    hs := ⟨h.hs.1, by rw [List.length_append]; have := h.hs; omega⟩
    qc := h.qc, hE := by rw [hj.1]; exact h.hE
    home := by rw [v0, hj.1]; exact h.home
    homec := fun y hy => by
      rcases v1 y hy with hy | ⟨t, ht, e1, -⟩
      · exact h.homec y hy
      · omega
    othern := fun v hv => h.othern v (by rw [← v0]; exact hv)
    other := fun v hv => by
      rw [hj.1]
      rcases h.other v (by rw [← v0]; exact hv) with h1 | ⟨h1, -⟩
      · exact .inl h1
      · rw [ho] at h1; cases h1
    otherc := fun v hv => by
      rcases cas _ v hv with hv | ⟨t, ht, e1, -⟩
      · have := (h.otherc v hv).1; rw [hd] at this; cases this
      · omega
    log := fun _ x v hx hv he => by
      rw [hj.1] at he ⊢
      rw [e]
      rcases vers x v hv with hv | ⟨t, ht, rfl, rfl⟩
      · obtain ⟨c, h1, h2⟩ := h.log ho x v hx hv he
        exact ⟨c, ext _ _ h1, h2⟩
      · exact ⟨_, by rw [show 4 + N + t - 4 = N + t from by omega]; exact new t ht, rfl⟩
    logc := fun _ x v hx hv => by
      rw [hj.1, e]
      rcases cas x v hv with hv | ⟨t, ht, rfl, rfl⟩
      · exact ext _ _ (h.logc ho x v hx hv)
      · rw [show 4 + N + t - 4 = N + t from by omega]; exact new t ht
    firm := fun _ => by rw [et, hj.1, v0]; exact h.firm ho
    shut := fun hop => by rw [hj.2.2.2] at hop; cases hop
    opn := fun _ hdn => by
      obtain ⟨n1, n2, n3, n4⟩ := hn hdn
      rw [e, hj.1]
      refine ⟨by rw [n3, o1, List.length_append, List.length_singleton]; omega, by rw [n4, o2, eS, List.length_append, hN, hP]; omega, fun x v hv => ?_, fun k hk => ?_⟩
      · rcases vers x v hv with hv | ⟨t, ht, -, rfl⟩
        · exact o3 x v hv
        · rw [hce t ht]; exact Int.le_refl _
      · by_cases hkN : k < N
        · rcases o4 k hkN with hv | hv
          · exact .inl (v2 _ hv)
          · refine .inr ?_
            rw [v0, hv, eS, List.getElem?_append_left (by omega)]
        · refine .inl ?_
          rw [eS, List.length_append, hN, hP] at hk
          obtain ⟨v, hv⟩ := v3 n1 (k - N) (by omega)
          exact ⟨v, by rw [show (((4 + k : Nat) : Int)) = j.next + ((k - N : Nat) : Int) from by omega]; exact hv⟩
    cls := fun hop hdn => by
      have := (hn hdn).2.1
      rw [hop] at this; cases this }
theorem inv_append {B : Int} {j : Jr} {s : St} {all : List (List Int)} {sure p c0 : Nat} {q0 : Int} (h : LInv B j s all sure p c0 q0) (l : List Int) (hl : l.length ≤ 60 ∧ Bytes l) (hm : all.length < 200) :
    ((appendF j s l).1 = 0 ∨ (appendF j s l).1 = 10 → LInv B (appendF j s l).2.1 (appendF j s l).2.2 (all ++ [l]) sure p c0 q0) ∧ (¬ ((appendF j s l).1 = 0 ∨ (appendF j s l).1 = 10) → LInv B (appendF j s l).2.1 (appendF j s l).2.2 all sure p c0 q0) := by
  have hok := append_ok h.ok hl.2
  have hO := h.okS
  have hnx := h.ok.next
  have hsl := h.slot
  have hp := putAll_vers (sectors l.length) s j.next (packed j.epoch (j.seq + 1) l) hO
  unfold appendF at hok ⊢
  by_cases hst : stateF j ≠ 0
  · rw [if_pos hst] at hok ⊢
    refine ⟨fun hh => ?_, fun _ => h⟩
    refine inv_told h ?_ l hl hm
    unfold stateF at hh hst
    cases hdn : j.down with
    | true => rfl
    | false =>
      rw [hdn, if_neg (by decide)] at hh hst
      split at hh
      · rename_i ho; rw [if_pos ho] at hst; exact absurd rfl hst
      · rcases hh with hh | hh <;> exact absurd hh (show ¬ (9 : Int) = _ by decide)
  · rw [if_neg hst] at hok ⊢
    have hup : j.down = false ∧ j.op = true := by
      unfold stateF at hst
      cases hdn : j.down with
      | true => rw [hdn, if_pos rfl] at hst; exact absurd (by decide) hst
      | false =>
        rw [hdn, if_neg (by decide)] at hst
        cases hop : j.op with
        | true => exact ⟨rfl, rfl⟩
        | false => rw [hop, if_neg (by decide)] at hst; exact absurd (by decide) hst
    split
    · exact ⟨fun hh => by rcases hh with hh | hh <;> exact absurd hh (show ¬ (2 : Int) = _ by decide), fun _ => h⟩
    · rename_i h2
      rw [if_neg h2] at hok
      split
      · exact ⟨fun hh => by rcases hh with hh | hh <;> exact absurd hh (show ¬ (5 : Int) = _ by decide), fun _ => h⟩
      · rename_i h3
        rw [if_neg h3] at hok
        have her := put_err (sectors l.length) s j.next (packed j.epoch (j.seq + 1) l) hO (by omega) (by omega) (packed_len ..)
        split
        · rename_i h4
          rw [if_pos h4] at hok
          exact ⟨fun _ => inv_more h l hl hm hup.2 hup.1 _ ⟨rfl, rfl, rfl, hup.2⟩ hok (fun _ => ⟨h4, hup.2, rfl, rfl⟩), fun hh => absurd (.inl rfl) hh⟩
        · rename_i h4
          rw [if_neg h4] at hok
          refine ⟨fun _ => inv_more h l hl hm hup.2 hup.1 _ ⟨rfl, rfl, rfl, hup.2⟩ hok (fun hdn => by cases hdn), fun hh => absurd ?_ hh⟩
          exact .inr (her.resolve_left h4)
end Go.Proofs.Ytglpelhbncdkmaa.XJour
end
section
namespace Go.Proofs.Ytglpelhbncdkmaa.XJour
open Go.RowKit Go.Proofs.YtglpelhbncdkmaaW.PrintWords Go.Proofs.YtglpelhbncdkmaaW.PrintLast Go.Proofs.YtglpelhbncdkmaaW.PrintMore XDisk XChunk XUnpack XData
set_option linter.unusedVariables false
set_option linter.unusedSimpArgs false
theorem over_case {s : St} (hO : Ok s) (x : Nat) (hx : x < s.good.length) : ∃ v, (over s.good s.cache)[x]? = some v ∧ ((((x : Nat) : Int), v) ∈ s.cache ∨ s.good[x]? = some v ∧ ∀ w, (((x : Nat) : Int), w) ∉ s.cache) := by
  have h := over_get x s.cache s.good (fun y hy => (hO.inr y hy).1) hO.once hx
  have hl : x < (over s.good s.cache).length := by rw [over_len]; exact hx
  rw [List.getD_eq_getElem?_getD, List.getElem?_eq_getElem hl] at h
  refine ⟨_, List.getElem?_eq_getElem hl, ?_⟩
  rcases locF_range (x : Int) s.cache 0 with hn | ⟨j, hj, hn, hjx⟩
  · rw [hn, if_neg (by decide), List.getD_eq_getElem?_getD, List.getElem?_eq_getElem hx] at h
    have h : (over s.good s.cache)[x] = s.good[x] := h
    exact .inr ⟨by rw [h, List.getElem?_eq_getElem hx], fun w hw => locF_none hn _ hw rfl⟩
  · rw [hn, if_pos (by omega), show ((0 + j : Nat) : Int).toNat = j from by omega, List.getD_eq_getElem?_getD, List.getElem?_eq_getElem hj] at h
    have h : (over s.good s.cache)[x] = (s.cache[j]).2 := h
    refine .inl ?_
    rw [h, ← hjx]
    exact List.getElem_mem hj
theorem flush_case (s : St) : (Flush s).1 = 0 ∧ (Flush s).2.good = over s.good s.cache ∧ (Flush s).2.cache = [] ∨ (Flush s).1 = 10 ∧ (Flush s).2 = s := by
  unfold Flush
  split
  · exact .inl ⟨rfl, rfl, rfl⟩
  · exact .inr ⟨rfl, rfl⟩
theorem inv_down {B : Int} {j : Jr} {s : St} {all : List (List Int)} {sure p c0 : Nat} {q0 : Int} (h : LInv B j s all sure p c0 q0) : LInv B { j with down := true } s all sure p c0 q0 :=
  { ok := jok_down h.ok _, slot := h.slot, len := h.len, many := h.many, each := h.each, place := h.place, hB := h.hB, bound := h.bound, hs := h.hs, qc := h.qc, hE := h.hE, home := h.home, homec := h.homec, othern := h.othern, other := h.other
    otherc := fun v hv => ⟨rfl, (h.otherc v hv).2⟩
    log := h.log, logc := h.logc, firm := h.firm, opn := fun _ hd => (by cases hd), cls := fun _ hd => (by cases hd), shut := h.shut }
theorem inv_up {B B' : Int} {j : Jr} {s : St} {all : List (List Int)} {sure p c0 : Nat} {q0 : Int} (h : LInv B j s all sure p c0 q0) (h1 : B ≤ B') (h2 : B' ≤ 200) : LInv B' j s all sure p c0 q0 :=
  { h with hB := h2, bound := fun x v hv => Int.le_trans (h.bound x v hv) h1 }
theorem inv_fuse {B : Int} {j : Jr} {s : St} {all : List (List Int)} {sure p c0 : Nat} {q0 : Int} (h : LInv B j s all sure p c0 q0) (n : Int) (hn : n ≤ 9223372036854775807) : LInv B j { s with fuse := n } all sure p c0 q0 :=
  { h with ok := ⟨⟨h.ok.fine.good, h.ok.fine.cache, h.ok.fine.inr, h.ok.fine.once⟩, h.ok.size, hn, h.ok.slot, h.ok.place, h.ok.epoch, h.ok.seq, h.ok.next⟩ }
theorem up_of {j : Jr} (h : stateF j = 0) : j.down = false ∧ j.op = true := by
  unfold stateF at h
  cases hd : j.down with
  | true => rw [hd, if_pos rfl] at h; exact absurd h (by decide)
  | false =>
    rw [hd, if_neg (by decide)] at h
    cases ho : j.op with
    | true => exact ⟨rfl, rfl⟩
    | false => rw [ho, if_neg (by decide)] at h; exact absurd h (by decide)
theorem inv_commit {B : Int} {j : Jr} {s : St} {all : List (List Int)} {sure p c0 : Nat} {q0 : Int} (h : LInv B j s all sure p c0 q0) :
    ((commitF j s).1 = 0 → LInv B (commitF j s).2.1 (commitF j s).2.2 all all.length p c0 q0) ∧ ((commitF j s).1 ≠ 0 → LInv B (commitF j s).2.1 (commitF j s).2.2 all sure p c0 q0) := by
  have hok := commit_ok h.ok
  unfold commitF at hok ⊢
  split
  rotate_left
  · rename_i hst
    exact ⟨fun hh => absurd hh hst, fun _ => h⟩
  rename_i hst
  rw [if_pos hst] at hok
  obtain ⟨hd, ho⟩ := up_of hst
  obtain ⟨o1, o2, o3, o4⟩ := h.opn ho hd
  rcases flush_case s with ⟨f1, f2, f3⟩ | ⟨f1, f2⟩
  · rw [f1] at hok ⊢
    refine ⟨fun _ => ?_, fun hh => absurd rfl hh⟩
    have hlen : (Flush s).2.good.length = 64 := by rw [f2, over_len]; exact h.len
    have vers : ∀ x v, ver (Flush s).2 x v → ver s x v := fun x v hv => by
      rcases hv with hv | hv
      · have hx : x < s.good.length := by have := (List.getElem?_eq_some_iff.1 hv).1; rw [hlen] at this; rw [h.len]; exact this
        obtain ⟨u, hu, hc⟩ := over_case h.okS x hx
        rw [f2, hu] at hv
        obtain rfl := Option.some.inj hv
        exact hc.elim .inr (fun hc => .inl hc.1)
      · rw [f3] at hv; cases hv
    have hkeep : ∀ x u, x < 64 → s.good[x]? = some u → (∀ w, (((x : Nat) : Int), w) ∉ s.cache) → (Flush s).2.good[x]? = some u := fun x u hx hu hno => by
      obtain ⟨v, hv, hc⟩ := over_case h.okS x (by rw [h.len]; exact hx)
      rw [f2, hv]
      rcases hc with hc | hc
      · exact absurd hc (hno v)
      · rw [← hu, hc.1]
    have hp2 := h.place.2
    have hnx := h.ok.next
    rw [h.len] at hnx
    have hsq := h.ok.seq
    have htk : (all.drop c0).take (all.length - c0) = all.drop c0 := by rw [← List.length_drop, List.take_length]
    have full : ∀ k, k < (secs j.epoch q0 (all.drop c0)).length → (Flush s).2.good[4 + k]? = (secs j.epoch q0 (all.drop c0))[k]? := fun k hk => by
      obtain ⟨v, hv, hc⟩ := over_case h.okS (4 + k) (by rw [h.len]; omega)
      rw [f2, hv]
      rcases hc with hc | ⟨hc, hno⟩
      · have := h.logc ho (4 + k) v (by omega) hc
        rw [show 4 + k - 4 = k from by omega] at this
        exact this.symm
      · rcases o4 k hk with ⟨w, hw⟩ | hg
        · exact absurd hw (hno w)
        · rw [← hg, hc]
    exact {
      ok := hok, slot := h.slot, len := hlen, many := h.many, each := h.each, place := h.place, hB := h.hB
      bound := fun x v hv => h.bound x v (vers x v hv)
      hs := ⟨Nat.le_trans h.hs.1 h.hs.2, Nat.le_refl _⟩
      qc := h.qc
      hE := h.hE
      home := hkeep _ _ (by omega) h.home (fun w hw => (h.homec _ hw).1 rfl)
      homec := fun y hy => by rw [f3] at hy; cases hy
      othern := fun v hv => by
        rcases vers _ v (.inl hv) with hv | hv
        · exact h.othern v hv
        · have := (h.otherc v hv).1; rw [hd] at this; cases this
      other := fun v hv => by
        rcases vers _ v (.inl hv) with hv | hv
        · rcases h.other v hv with h1 | ⟨h1, -⟩
          · exact .inl h1
          · rw [ho] at h1; cases h1
        · have := (h.otherc v hv).1; rw [hd] at this; cases this
      otherc := fun v hv => by rw [f3] at hv; cases hv
      log := fun _ x v hx hv he => h.log ho x v hx (vers x v hv) he
      logc := fun _ x v hx hv => by rw [f3] at hv; cases hv
      firm := fun _ => by rw [htk]; exact full
      shut := fun hop => by have hop : j.op = false := hop; rw [ho] at hop; cases hop
      opn := fun _ _ => ⟨o1, o2, fun x v hv => o3 x v (vers x v hv), fun k hk => .inr (full k hk)⟩
      cls := fun hop _ => by have hop : j.op = false := hop; rw [ho] at hop; cases hop }
  · rw [f1, f2] at hok ⊢
    exact ⟨fun hh => absurd hh (show ¬ (10 : Int) = 0 by decide), fun _ => inv_down h⟩
/-! ### checkpoint -/
theorem last_ge (s : St) : ∀ n x, x < n → epochOf (nowAt s (x : Nat)) ≤ lastF s n
  | 0, x, h => absurd h (Nat.not_lt_zero _)
  | n + 1, x, h => by
    rw [lastF]
    rcases Nat.lt_succ_iff_lt_or_eq.1 h with h | rfl
    · have := last_ge s n x h; unfold mx; split <;> omega
    · unfold mx; split <;> omega
theorem now_good {s : St} (x : Nat) (v : List Int) (hv : s.good[x]? = some v) (hno : ∀ y ∈ s.cache, y.1 ≠ ((x : Nat) : Int)) : nowAt s (x : Nat) = v := by
  unfold nowAt
  have e : locF ((x : Nat) : Int) s.cache 0 = -1 := by
    rcases locF_range (x : Int) s.cache 0 with hl | ⟨j, hj, -, hx⟩
    · exact hl
    · exact absurd hx (hno _ (List.getElem_mem hj))
  rw [e, if_neg (by decide), Int.toNat_natCast, List.getD_eq_getElem?_getD, hv]; rfl
/-- Unless it is down: each version's epoch is not above the last one. -/
theorem inv_last {B : Int} {j : Jr} {s : St} {all : List (List Int)} {sure p c0 : Nat} {q0 : Int} (h : LInv B j s all sure p c0 q0) (hd : j.down = false) : j.epoch ≤ lastF s s.good.length ∧ lastF s s.good.length ≤ B ∧ ∀ x v, ver s x v → epochOf v ≤ lastF s s.good.length := by
  have hp2 := h.place.2
  have hEr := h.ok.epoch
  have hhome : j.epoch ≤ lastF s s.good.length := by
    have h1 := last_ge s s.good.length (2 * p) (by rw [h.len]; omega)
    rw [now_good _ _ h.home (fun y hy => (h.homec y hy).1)] at h1
    have h3 := chunk_epoch j.epoch q0 [0, ((c0 : Nat) : Int)] ⟨hEr.1, by omega⟩ 0 (sec_pos _)
    rw [(packed_one j.epoch q0 [0, ((c0 : Nat) : Int)] (by simp)).2] at h3
    omega
  have hle : lastF s s.good.length ≤ B := by
    have key : ∀ n, n ≤ s.good.length → lastF s n ≤ B := by
      intro n
      induction n with
      | zero => intro _; rw [lastF]; have := home_epoch h; have := h.hE; omega
      | succ n ih =>
        intro hn
        have h1 := ih (by omega)
        have h2 : epochOf (nowAt s (n : Nat)) ≤ B := by
          refine h.bound n _ ?_
          unfold nowAt ver
          rcases locF_range (n : Int) s.cache 0 with hl | ⟨i, hi, hl, hx⟩
          · rw [hl, if_neg (by decide), Int.toNat_natCast, List.getD_eq_getElem?_getD, List.getElem?_eq_getElem (by omega)]; exact .inl rfl
          · rw [hl, if_pos (by omega), show ((0 + i : Nat) : Int).toNat = i from by omega, List.getD_eq_getElem?_getD, List.getElem?_eq_getElem hi]
            refine .inr ?_
            show (((n : Nat) : Int), (s.cache[i]).2) ∈ s.cache
            rw [← hx]; exact List.getElem_mem hi
        rw [lastF]; unfold mx; split <;> omega
    exact key _ (Nat.le_refl _)
  refine ⟨hhome, hle, fun x v hv => ?_⟩
  cases ho : j.op with
  | true => exact Int.le_trans ((h.opn ho hd).2.2.1 x v hv) hhome
  | false =>
    have hc := (h.cls ho hd).1
    rcases hv with hv | hv
    · have hx : x < s.good.length := (List.getElem?_eq_some_iff.1 hv).1
      have := last_ge s s.good.length x hx
      rw [now_good x v hv (fun y hy => by rw [hc] at hy; cases hy)] at this
      exact this
    · rw [hc] at hv; cases hv
theorem inv_checkpoint {B : Int} {j : Jr} {s : St} {all : List (List Int)} {sure p c0 : Nat} {q0 : Int} (h : LInv B j s all sure p c0 q0) (hB : B + 1 ≤ 200) (l : List Int) (hl : l = [0, ((all.length : Nat) : Int)]) :
    ((checkpointF j s l).1 = 0 → ∃ p' c' q', LInv (B + 1) (checkpointF j s l).2.1 (checkpointF j s l).2.2 all all.length p' c' q') ∧ ((checkpointF j s l).1 ≠ 0 → LInv (B + 1) (checkpointF j s l).2.1 (checkpointF j s l).2.2 all sure p c0 q0) := by
  subst hl
  have hm := h.many
  have hbl : Bytes [0, ((all.length : Nat) : Int)] := by
    intro c hc
    simp only [List.mem_cons, List.not_mem_nil, or_false] at hc
    rcases hc with rfl | rfl <;> omega
  have hok := checkpoint_ok h.ok hbl
  unfold checkpointF at hok ⊢
  by_cases hd : j.down = true
  · rw [if_pos hd] at hok ⊢
    exact ⟨fun hh => absurd hh (show ¬ (10 : Int) = 0 by decide), fun _ => inv_up h (by omega) hB⟩
  rw [if_neg hd] at hok ⊢
  have hd : j.down = false := by simpa using hd
  obtain ⟨k1, k2, k3⟩ := inv_last h hd
  have hsl := h.slot
  have hlr := lastF_range s h.ok.fine s.good.length (Nat.le_refl _)
  obtain ⟨E', hE'⟩ : ∃ z, lastF s s.good.length + 1 = z := ⟨_, rfl⟩
  have hpo := packed_one E' j.seq [0, ((all.length : Nat) : Int)] (by simp)
  have hpf : packF E' j.seq j.slot [0, ((all.length : Nat) : Int)] = (0, packed E' j.seq [0, ((all.length : Nat) : Int)]) := by
    unfold packF
    rw [if_neg (by simp; omega), if_neg (by rw [hsl, hpo.1]; decide)]
  rw [hE', hpf] at hok ⊢
  simp only [hpo.1] at hok ⊢
  have hp2 := h.place.2
  have ha : (1 - j.place) * j.slot = ((2 * (1 - p) : Nat) : Int) := by rw [h.place.1, hsl]; omega
  have hEr := h.ok.epoch
  have hPe : epochOf (packed E' j.seq [0, ((all.length : Nat) : Int)]) = E' := by
    have h3 := chunk_epoch E' j.seq [0, ((all.length : Nat) : Int)] ⟨by omega, by omega⟩ 0 (sec_pos _)
    rwa [hpo.2] at h3
  have hPl : (packed E' j.seq [0, ((all.length : Nat) : Int)]).take 32 = packed E' j.seq [0, ((all.length : Nat) : Int)] := by rw [← chunkOf_zero]; exact hpo.2
  have e1 : putAll (32 / 32) s ((1 - j.place) * j.slot) (packed E' j.seq [0, ((all.length : Nat) : Int)]) = if (Write s ((2 * (1 - p) : Nat) : Int) (packed E' j.seq [0, ((all.length : Nat) : Int)])).1 = 0 then (0, (Write s ((2 * (1 - p) : Nat) : Int) (packed E' j.seq [0, ((all.length : Nat) : Int)])).2) else Write s ((2 * (1 - p) : Nat) : Int) (packed E' j.seq [0, ((all.length : Nat) : Int)]) := by
    rw [ha, show 32 / 32 = 0 + 1 from rfl, putAll, hPl]; rfl
  rw [e1] at hok ⊢
  clear e1
  obtain ⟨P, hP⟩ : ∃ P, packed E' j.seq [0, ((all.length : Nat) : Int)] = P := ⟨_, rfl⟩
  have hPD := hP
  rw [hP] at hok hPe ⊢
  have hwk := write_keeps s ((2 * (1 - p) : Nat) : Int) P h.okS
  rcases write_case s ((2 * (1 - p) : Nat) : Int) P with ⟨w1, w2⟩ | ⟨w1, w2⟩
  rotate_left
  · rw [if_neg w1, if_pos w1] at hok ⊢
    rw [w2] at hok ⊢
    exact ⟨fun hh => absurd hh w1, fun _ => inv_down (inv_up h (by omega) hB)⟩
  rw [if_pos w1] at hok ⊢
  have z0 : ¬ ((0 : Int) ≠ 0) := by decide
  simp only [if_neg z0] at hok ⊢
  obtain ⟨s1, hs1⟩ : ∃ z, (Write s ((2 * (1 - p) : Nat) : Int) P).2 = z := ⟨_, rfl⟩
  rw [hs1] at hok hwk w2 ⊢
  have hO1 : Ok s1 := hwk.1
  have hg1 : s1.good = s.good := hwk.2.1
  have cas : ∀ x v, (x, v) ∈ s1.cache → (x, v) ∈ s.cache ∨ x = ((2 * (1 - p) : Nat) : Int) ∧ v = P := fun x v hv => by
    rw [w2] at hv
    rcases (put_ok (i := ((2 * (1 - p) : Nat) : Int)) (b := P) h.okS.once).2.2 _ hv with hv | hv
    · injection hv with h1 h2; exact .inr ⟨h1, h2⟩
    · exact .inl hv
  have vers1 : ∀ x v, ver s1 x v → ver s x v ∨ x = 2 * (1 - p) ∧ v = P := fun x v hv => by
    rcases hv with hv | hv
    · exact .inl (.inl (by rw [← hg1]; exact hv))
    · exact (cas _ v hv).imp .inr (fun hh => ⟨by omega, hh.2⟩)
  have hseq : j.seq = ((all.length : Nat) : Int) := by
    cases ho : j.op with
    | true => have := (h.opn ho hd).1; rw [List.length_drop] at this; have := h.qc; have := h.hs; omega
    | false => exact (h.cls ho hd).2
  have hgl : j.op = false → E' = gl s.good + 1 := fun ho => by
    have hc := (h.cls ho hd).1
    rw [← hE']
    unfold gl
    have key : ∀ n, lastF s n = lastF ⟨s.good, [], 0⟩ n := by
      intro n
      induction n with
      | zero => rfl
      | succ n ih =>
        rw [lastF, lastF, ih]
        unfold nowAt
        rw [hc]
    rw [key]
  have noc : ∀ v, (((2 * (1 - p) : Nat) : Int), v) ∉ s.cache := fun v hv => by have := (h.otherc v hv).1; rw [hd] at this; cases this
  rcases flush_case s1 with ⟨f1, f2, f3⟩ | ⟨f1, f2⟩
  · rw [if_neg (by rw [f1]; decide)] at hok ⊢
    refine ⟨fun _ => ⟨1 - p, all.length, j.seq, ?_⟩, fun hh => absurd rfl hh⟩
    have hlen : (Flush s1).2.good.length = 64 := by rw [f2, over_len, hg1]; exact h.len
    have vers : ∀ x v, ver (Flush s1).2 x v → ver s1 x v := fun x v hv => by
      rcases hv with hv | hv
      · have hx : x < s1.good.length := by have := (List.getElem?_eq_some_iff.1 hv).1; rw [hlen] at this; rw [hg1, h.len]; exact this
        obtain ⟨u, hu, hc⟩ := over_case hO1 x hx
        rw [f2, hu] at hv
        obtain rfl := Option.some.inj hv
        exact hc.elim .inr (fun hc => .inl hc.1)
      · rw [f3] at hv; cases hv
    have hlow : ∀ x v, 4 ≤ x → ver (Flush s1).2 x v → epochOf v < E' := fun x v hx hv => by
      rcases vers1 x v (vers x v hv) with hv | ⟨hx', -⟩
      · have := k3 x v hv; omega
      · omega
    have hnil : all.drop all.length = [] := List.drop_length ..
    have hs0 := h.ok.seq
    exact {
      ok := hok, slot := hsl, len := hlen, many := h.many, each := h.each
      place := ⟨by show 1 - j.place = _; rw [h.place.1]; omega, by omega⟩
      hB := hB
      bound := fun x v hv => by
        rcases vers1 x v (vers x v hv) with hv | ⟨-, rfl⟩
        · have := h.bound x v hv; omega
        · rw [hPe]; omega
      hs := ⟨Nat.le_refl _, Nat.le_refl _⟩
      qc := hseq
      hE := by show 1 ≤ E'; omega
      home := by
        show (Flush s1).2.good[2 * (1 - p)]? = some (packed E' j.seq [0, ((all.length : Nat) : Int)])
        obtain ⟨v, hv, hc⟩ := over_case hO1 (2 * (1 - p)) (by rw [hg1, h.len]; omega)
        rw [f2, hv, hPD]
        rcases hc with hc | ⟨-, hno⟩
        · rcases cas _ v hc with hc | ⟨-, rfl⟩
          · exact absurd hc (noc v)
          · rfl
        · exact absurd (w2 ▸ put_has s.cache _ P) (hno P)
      homec := fun y hy => by rw [f3] at hy; cases hy
      othern := fun v hv => by
        have e2 : 2 * (1 - (1 - p)) = 2 * p := by omega
        rw [e2] at hv
        rcases vers1 _ v (vers _ v (.inl hv)) with hv | ⟨hx, -⟩
        · rcases hv with hv | hv
          · rw [h.home] at hv
            obtain rfl := Option.some.inj hv
            have h1 := h.qc; have h2 := h.hs; have h3 := home_epoch h; have h4 := h.hB; have h5 := h.hE
            rw [form_packed ⟨by omega, by omega⟩ ⟨by omega, by omega⟩]
            exact num_form _ _ _ _ _ _ _ ⟨by omega, by omega⟩
          · exact absurd rfl (h.homec _ hv).1
        · omega
      other := fun v hv => by
        show epochOf v < E' ∨ _
        have e2 : 2 * (1 - (1 - p)) = 2 * p := by omega
        rw [e2] at hv
        rcases vers1 _ v (vers _ v (.inl hv)) with hv | ⟨hx, -⟩
        · have := k3 _ v hv; exact .inl (by omega)
        · omega
      otherc := fun v hv => by rw [f3] at hv; cases hv
      log := fun _ x v hx hv he => by have := hlow x v hx hv; have he : epochOf v = E' := he; omega
      logc := fun _ x v hx hv => by rw [f3] at hv; cases hv
      firm := fun _ => by rw [hnil, List.take_nil]; intro k hk; exact absurd hk (Nat.not_lt_zero _)
      shut := fun hop => by cases hop
      opn := fun _ _ => by
        rw [hnil]
        refine ⟨by show j.seq = j.seq + _; simp, by show 2 * j.slot = _; rw [hsl]; rfl, fun x v hv => ?_, fun k hk => absurd hk (Nat.not_lt_zero _)⟩
        show epochOf v ≤ E'
        rcases vers1 x v (vers x v hv) with hv | ⟨-, rfl⟩
        · have := k3 x v hv; omega
        · rw [hPe]; exact Int.le_refl _
      cls := fun hop _ => by cases hop }
  · rw [if_pos (by rw [f1]; decide)] at hok ⊢
    rw [f1, f2] at hok ⊢
    refine ⟨fun hh => absurd hh (show ¬ (10 : Int) = 0 by decide), fun _ => ?_⟩
    exact {
      ok := hok, slot := hsl, len := by rw [hg1]; exact h.len, many := h.many, each := h.each, place := h.place, hB := hB
      bound := fun x v hv => by
        rcases vers1 x v hv with hv | ⟨-, rfl⟩
        · have := h.bound x v hv; omega
        · rw [hPe]; omega
      hs := h.hs, qc := h.qc, hE := h.hE
      home := by rw [hg1]; exact h.home
      homec := fun y hy => by
        rcases cas y.1 y.2 hy with hy | ⟨hy, -⟩
        · exact h.homec y hy
        · omega
      othern := fun v hv => h.othern v (by rw [← hg1]; exact hv)
      other := fun v hv => by rw [hg1] at hv ⊢; exact h.other v hv
      otherc := fun v hv => by
        refine ⟨rfl, ?_⟩
        rcases cas _ v hv with hv | ⟨-, rfl⟩
        · exact absurd hv (noc v)
        · refine ⟨E', all.length, by rw [← hPD, hseq], h.hs.2, Nat.le_refl _, by show j.epoch < E'; omega, by omega, fun x w hx hw => ?_, fun ho => ⟨by rw [hg1]; exact hgl ho, hseq⟩⟩
          rcases vers1 x w hw with hw | ⟨hx', -⟩
          · have := k3 x w hw; omega
          · omega
      log := fun ho x v hx hv he => by
        rcases vers1 x v hv with hv | ⟨hx', -⟩
        · exact h.log ho x v hx hv he
        · omega
      logc := fun ho x v hx hv => by
        rcases cas _ v hv with hv | ⟨hx', -⟩
        · exact h.logc ho x v hx hv
        · omega
      shut := fun ho => by
        obtain ⟨h1, h2⟩ := h.shut ho
        refine ⟨fun y hy => ?_, by rw [hg1]; exact h2⟩
        rcases cas y.1 y.2 hy with hy | ⟨hy, -⟩
        · exact h1 y hy
        · omega
      firm := by rw [hg1]; exact h.firm
      opn := fun _ hdn => by cases hdn
      cls := fun _ hdn => by cases hdn }
end Go.Proofs.Ytglpelhbncdkmaa.XJour
end
section
namespace Go.Proofs.Ytglpelhbncdkmaa.XJour
open Go.RowKit Go.Proofs.YtglpelhbncdkmaaW.PrintWords Go.Proofs.YtglpelhbncdkmaaW.PrintLast Go.Proofs.YtglpelhbncdkmaaW.PrintMore XDisk XChunk XUnpack XData
set_option linter.unusedVariables false
set_option linter.unusedSimpArgs false
theorem once_ne : ∀ {xs : List (Int × List Int)}, Once xs → ∀ i k, i < k → (hk : k < xs.length) → ∀ hi : i < xs.length, (xs[i]).1 ≠ (xs[k]).1
  | [], _, i, k, _, hk, _ => by cases hk
  | x :: xs, h, 0, k + 1, _, hk, _ => fun e => h.1 _ (List.getElem_mem (by simpa using hk)) e.symm
  | x :: xs, h, i + 1, k + 1, hik, hk, hi => once_ne h.2 i k (by omega) (by simpa using hk) (by simpa using hi)
  | x :: xs, h, i, 0, hik, _, _ => by omega
/-- A version behind a crash: as it was, as it was cached, or torn between the two. -/
def Mix (good : List (List Int)) (cs : List (Int × List Int)) (x : Nat) (v' : List Int) : Prop :=
  good[x]? = some v' ∨ (((x : Nat) : Int), v') ∈ cs ∨ ∃ u v c, c ≤ 32 ∧ good[x]? = some u ∧ (((x : Nat) : Int), v) ∈ cs ∧ v' = mixed u v c
theorem crash_vers (keep torn cut : Int) (good : List (List Int)) (cs : List (Int × List Int)) (h0 : ∀ x ∈ cs, 0 ≤ x.1) (hO : Once cs) : ∀ k, k ≤ cs.length → ∀ x : Nat,
    ((∀ i (hi : i < cs.length), i < k → (cs[i]).1 ≠ ((x : Nat) : Int)) → (crashed keep torn cut good cs k)[x]? = good[x]?) ∧ ∀ v', (crashed keep torn cut good cs k)[x]? = some v' → Mix good cs x v' := by
  intro k
  induction k with
  | zero => intro _ x; exact ⟨fun _ => rfl, fun v' hv => .inl hv⟩
  | succ k ih =>
    intro hk x
    have hkl : k < cs.length := by omega
    obtain ⟨ih1, ih2⟩ := ih (by omega) x
    have e : cs.getD k (0, []) = cs[k] := by rw [List.getD_eq_getElem?_getD, List.getElem?_eq_getElem hkl]; rfl
    have hm : cs[k] ∈ cs := List.getElem_mem hkl
    have hc0 := h0 _ hm
    show ((∀ i (hi : i < cs.length), i < k + 1 → (cs[i]).1 ≠ ((x : Nat) : Int)) → (hit keep torn cut k (cs.getD k (0, [])) (crashed keep torn cut good cs k))[x]? = good[x]?) ∧ ∀ v', (hit keep torn cut k (cs.getD k (0, [])) (crashed keep torn cut good cs k))[x]? = some v' → _
    rw [e]
    by_cases hx : (cs[k]).1 = ((x : Nat) : Int)
    · refine ⟨fun hh => absurd hx (hh k hkl (by omega)), fun v' hv => ?_⟩
      have hsame := ih1 (fun i hi hik => by rw [← hx]; exact once_ne hO i k hik hkl hi)
      have hx0 : (cs[k]).1.toNat = x := by omega
      have hmem : (((x : Nat) : Int), (cs[k]).2) ∈ cs := by rw [← hx]; exact hm
      unfold hit at hv
      rw [hx0] at hv
      split at hv
      · by_cases hl : x < (crashed keep torn cut good cs k).length
        · rw [List.getElem?_set_self hl] at hv
          obtain rfl := Option.some.inj hv
          have hg : good[x]? = some ((crashed keep torn cut good cs k).getD x []) := by
            rw [← hsame, List.getD_eq_getElem?_getD, List.getElem?_eq_getElem hl]; rfl
          exact .inr (.inr ⟨_, _, cutAt cut, by unfold cutAt mx mn; omega, hg, hmem, rfl⟩)
        · rw [List.getElem?_eq_none (by rw [List.length_set]; omega)] at hv; cases hv
      · split at hv
        · by_cases hl : x < (crashed keep torn cut good cs k).length
          · rw [List.getElem?_set_self hl] at hv
            obtain rfl := Option.some.inj hv
            exact .inr (.inl hmem)
          · rw [List.getElem?_eq_none (by rw [List.length_set]; omega)] at hv; cases hv
        · exact ih2 v' hv
    · have hne : (cs[k]).1.toNat ≠ x := by omega
      have hh : (hit keep torn cut k cs[k] (crashed keep torn cut good cs k))[x]? = (crashed keep torn cut good cs k)[x]? := by
        unfold hit
        split
        · rw [List.getElem?_set_ne hne]
        · split
          · rw [List.getElem?_set_ne hne]
          · rfl
      rw [hh]
      exact ⟨fun hq => ih1 (fun i hi hik => hq i hi (by omega)), ih2⟩
theorem crash_mix {s : St} (hO : Ok s) (a b c : Int) (x : Nat) : (∀ v', (Crash s a b c).good[x]? = some v' → Mix s.good s.cache x v') ∧ ((∀ y ∈ s.cache, y.1 ≠ ((x : Nat) : Int)) → (Crash s a b c).good[x]? = s.good[x]?) := by
  have h := crash_vers a b c s.good s.cache (fun y hy => (hO.inr y hy).1) hO.once s.cache.length (Nat.le_refl _) x
  exact ⟨h.2, fun hn => h.1 (fun i hi _ => hn _ (List.getElem_mem hi))⟩
section
variable {B : Int} {j : Jr} {s : St} {all : List (List Int)} {sure p c0 : Nat} {q0 : Int}
theorem sec_ok (h : LInv B j s all sure p c0 q0) {x : Nat} {v : List Int} (hv : ver s x v) : v.length = 32 ∧ Bytes v := by
  rcases hv with hv | hv
  · exact h.ok.fine.good _ (List.mem_of_getElem? hv)
  · exact h.ok.fine.cache _ hv
/-- A sector torn between two of a disk's own. -/
theorem mix_epoch (h : LInv B j s all sure p c0 q0) {x : Nat} {v' : List Int} (hm : Mix s.good s.cache x v') :
    ver s x v' ∨ ∃ u v c, c ≤ 32 ∧ s.good[x]? = some u ∧ (((x : Nat) : Int), v) ∈ s.cache ∧ v' = mixed u v c ∧ (epochOf v' = epochOf u ∨ epochOf v' = epochOf v ∧ v'.take 28 = v.take 28) := by
  rcases hm with hm | hm | ⟨u, v, c, hc, hu, hv, rfl⟩
  · exact .inl (.inl hm)
  · exact .inl (.inr hm)
  · have hB := h.hB
    have e1 := h.bound x u (.inl hu)
    have e2 := h.bound x v (.inr hv)
    refine .inr ⟨u, v, c, hc, hu, hv, rfl, ?_⟩
    rcases torn_epoch c hc (sec_ok h (.inl hu)) (sec_ok h (.inr hv)) (by omega) (by omega) with ⟨h1, -⟩ | ⟨h1, h2, -⟩
    · exact .inl h1
    · exact .inr ⟨h1, h2⟩
theorem mixed_take {u v : List Int} {c : Nat} (hc : c ≤ 32) (hu : u.length = 32) (hv : v.length = 32) (h : u.take 28 = v.take 28) : (mixed u v c).take 28 = v.take 28 := by
  refine List.ext_getElem? (fun k => ?_)
  by_cases hk : k < 28
  · have hkk := congrArg (fun l : List Int => l[k]?) h
    simp only [List.getElem?_take_of_lt hk] at hkk
    rw [List.getElem?_take_of_lt hk, List.getElem?_take_of_lt hk]
    unfold mixed
    by_cases hkc : k < c
    · rw [List.getElem?_append_left (by rw [List.length_take]; omega), List.getElem?_take_of_lt hkc]
    · rw [List.getElem?_append_right (by rw [List.length_take]; omega), List.getElem?_drop, List.length_take, Nat.min_eq_left (by omega), show c + (k - c) = k from by omega]
      exact hkk
  · have hl : (mixed u v c).length = 32 := by unfold mixed; rw [List.length_append, List.length_take, List.length_drop, hu, hv]; omega
    rw [List.getElem?_eq_none (by rw [List.length_take]; omega), List.getElem?_eq_none (by rw [List.length_take]; omega)]
theorem crash_bound (h : LInv B j s all sure p c0 q0) (a b c : Int) (x : Nat) (v' : List Int) (hv : (Crash s a b c).good[x]? = some v') : epochOf v' ≤ B := by
  rcases mix_epoch h ((crash_mix h.okS a b c x).1 v' hv) with hv | ⟨u, v, c', -, hu, hv, -, he⟩
  · exact h.bound x v' hv
  · have e1 := h.bound x u (.inl hu)
    have e2 := h.bound x v (.inr hv)
    rcases he with he | ⟨he, -⟩ <;> omega
theorem crash_fits (h : LInv B j s all sure p c0 q0) (ho : j.op = true) (a b c : Int) : Fits j.epoch q0 (all.drop c0) ((Crash s a b c).good.drop 4) := by
  intro k x hk he
  rw [List.getElem?_drop] at hk
  have h44 : 4 + k - 4 = k := by omega
  rcases mix_epoch h ((crash_mix h.okS a b c (4 + k)).1 x hk) with hv | ⟨u, v, c', hc', hu, hv, hmx, he'⟩
  · have := h.log ho (4 + k) x (by omega) hv he
    rwa [h44] at this
  · have hlc := h.logc ho (4 + k) v (by omega) hv
    rw [h44] at hlc
    rcases he' with he' | ⟨-, ht⟩
    · obtain ⟨d, hd1, hd2⟩ := h.log ho (4 + k) u (by omega) (.inl hu) (by rw [← he', he])
      rw [h44, hlc] at hd1
      obtain rfl := Option.some.inj hd1
      refine ⟨v, hlc, ?_⟩
      rw [hmx]
      exact mixed_take hc' (sec_ok h (.inl hu)).1 (sec_ok h (.inr hv)).1 hd2
    · exact ⟨v, hlc, ht⟩
end
/-! ### which checkpoint a crash leaves -/
theorem readAll_rows (s : St) (hc : s.cache = []) (a : Nat) : ∀ n, a + n ≤ s.good.length → readAll s a n = ((s.good.drop a).take n).flatten
  | 0, _ => by rw [readAll, List.take_zero]; rfl
  | n + 1, h => by
    have hd : n < (s.good.drop a).length := by rw [List.length_drop]; omega
    rw [readAll, readAll_rows s hc a n (by omega), List.take_succ_eq_append_getElem hd, List.flatten_append, List.getElem_drop]
    rw [now_good (a + n) _ (List.getElem?_eq_getElem (by omega)) (fun y hy => by rw [hc] at hy; cases hy)]
    simp
theorem sec_two (x y : Int) : sectors [x, y].length = 1 := by simp [sectors]
theorem two_rows (s : St) (hc : s.cache = []) (x : Nat) (hx : x + 2 ≤ s.good.length) : ∃ u v, s.good[x]? = some u ∧ readAll s x 2 = u ++ v := by
  refine ⟨s.good[x], s.good[x + 1], List.getElem?_eq_getElem (by omega), ?_⟩
  have e : s.good.drop x = s.good[x] :: s.good[x + 1] :: s.good.drop (x + 1 + 1) := by rw [List.drop_eq_getElem_cons (by omega), List.drop_eq_getElem_cons (by omega)]
  rw [readAll_rows s hc x 2 hx, e, List.take_succ_cons, List.take_succ_cons, List.take_zero, List.flatten_cons, List.flatten_cons, List.flatten_nil, List.append_nil]
section
variable {B : Int} {j : Jr} {s : St} {all : List (List Int)} {sure p c0 : Nat} {q0 : Int}
theorem crash_good (h : LInv B j s all sure p c0 q0) (a b c : Int) : (Crash s a b c).good.length = 64 ∧ Fine (Crash s a b c) := by
  have := crash_fine h.ok.fine a b c
  exact ⟨this.2.trans h.len, this.1⟩
theorem crash_home (h : LInv B j s all sure p c0 q0) (a b c : Int) : (Crash s a b c).good[2 * p]? = some (packed j.epoch q0 [0, ((c0 : Nat) : Int)]) ∧ unpackF (readAll (Crash s a b c) (p * 2) 2) = (j.epoch, q0, [0, ((c0 : Nat) : Int)], 1, 0) := by
  have hg := ((crash_mix h.okS a b c (2 * p)).2 (fun y hy => (h.homec y hy).1)).trans h.home
  have hp := h.place.2
  have hEr := h.ok.epoch
  have hq := h.num
  obtain ⟨u, v, hu, hr⟩ := two_rows (Crash s a b c) rfl (p * 2) (by rw [(crash_good h a b c).1]; omega)
  rw [Nat.mul_comm] at hu
  rw [hg] at hu
  obtain rfl := Option.some.inj hu
  refine ⟨hg, ?_⟩
  rw [hr, unpack_packed j.epoch q0 [0, ((c0 : Nat) : Int)] v ⟨hEr.1, by omega⟩ ⟨hq.1, by omega⟩ (by simp)]
  rw [sec_two]; rfl
theorem gl_ge (g : List (List Int)) (x : Nat) (v : List Int) (h : g[x]? = some v) : epochOf v ≤ gl g := by
  have h1 := last_ge ⟨g, [], 0⟩ g.length x (List.getElem?_eq_some_iff.1 h).1
  rw [now_good x v h (fun y hy => by cases hy)] at h1
  exact h1
theorem gl_congr {g g' : List (List Int)} (hl : g.length = g'.length) (h : ∀ (x : Nat) u v, g[x]? = some u → g'[x]? = some v → epochOf u = epochOf v) : gl g = gl g' := by
  unfold gl
  rw [hl]
  have key : ∀ n, n ≤ g'.length → lastF ⟨g, [], 0⟩ n = lastF ⟨g', [], 0⟩ n := by
    intro n
    induction n with
    | zero => intro _; rfl
    | succ n ih =>
      intro hn
      have e1 := List.getElem?_eq_getElem (l := g) (i := n) (by omega)
      have e2 := List.getElem?_eq_getElem (l := g') (i := n) (by omega)
      rw [lastF, lastF, ih (by omega), now_good n _ e1 (fun y hy => by cases hy), now_good n _ e2 (fun y hy => by cases hy), h n _ _ e1 e2]
  exact key _ (Nat.le_refl _)
/-- What a crash leaves at the other place. -/
theorem crash_place (h : LInv B j s all sure p c0 q0) (a b c : Int) (g : List Int) (hg : (Crash s a b c).good[2 * (1 - p)]? = some g) :
    Num g ∧ (epochOf g < j.epoch ∨ (∀ q, Junk (gl (Crash s a b c).good + 1) q j.epoch g) ∨ j.op = false ∧ Junk (gl (Crash s a b c).good + 1) j.seq.toNat j.epoch g) ∨
    ∃ (E' : Int) (c' : Nat), g = packed E' ((c' : Nat) : Int) [0, ((c' : Nat) : Int)] ∧ sure ≤ c' ∧ c' ≤ all.length ∧ j.epoch < E' ∧ E' ≤ 200 ∧ ∀ x w, 4 ≤ x → ver s x w → epochOf w < E' := by
  have hp2 := h.place.2
  have hE := h.hE
  have hB := h.hB
  have hmx := (crash_mix h.okS a b c _).1 g hg
  have same : j.op = false → ∀ u, s.good[2 * (1 - p)]? = some u → epochOf g = epochOf u → gl (Crash s a b c).good = gl s.good := fun ho u hu he => by
    refine gl_congr ((crash_good h a b c).1.trans h.len.symm) (fun x v w hv hw => ?_)
    by_cases hx : x = 2 * (1 - p)
    · subst hx
      rw [hg] at hv
      rw [hu] at hw
      obtain rfl := Option.some.inj hv
      obtain rfl := Option.some.inj hw
      exact he
    · rw [(crash_mix h.okS a b c x).2 (fun y hy e => by
        have h1 := (h.shut ho).1 y hy
        have h2 := h.homec y hy
        omega), hw] at hv
      rw [Option.some.inj hv]
  rcases hmx with hu | hw | ⟨u, w, k, hk, hu, hw, rfl⟩
  · refine .inl ⟨h.othern g hu, (h.other g hu).imp_right (fun ⟨ho, hj⟩ => .inr ⟨ho, ?_⟩)⟩
    rw [same ho g hu rfl]; exact hj
  · obtain ⟨-, E', c', h1, h2, h3, h4, h5, h6, -⟩ := h.otherc g hw
    exact .inr ⟨E', c', h1, h2, h3, h4, h5, h6⟩
  · obtain ⟨-, E', c', rfl, h2, h3, h4, h5, h6, h7⟩ := h.otherc w hw
    have hm := h.many
    have hu32 := sec_ok h (.inl hu)
    have hw32 := sec_ok h (.inr hw)
    have hub := h.bound _ u (.inl hu)
    have hwb := h.bound _ _ (.inr hw)
    have hwe : epochOf (packed E' ((c' : Nat) : Int) [0, ((c' : Nat) : Int)]) = E' := by
      rw [form_packed ⟨by omega, by omega⟩ ⟨by omega, by omega⟩, form_epoch]
    have hnu := h.othern u hu
    have hnw : Num (packed E' ((c' : Nat) : Int) [0, ((c' : Nat) : Int)]) := by
      rw [form_packed ⟨by omega, by omega⟩ ⟨by omega, by omega⟩]
      exact num_form _ _ _ _ _ _ _ ⟨by omega, by omega⟩
    rcases torn_epoch k hk hu32 hw32 (by omega) (by omega) with ⟨t1, t2⟩ | ⟨t1, -, t2⟩
    · refine .inl ⟨num_mixed k hk hu32.1 hw32.1 hnu hnw, ?_⟩
      rcases h.other u hu with h8 | ⟨ho, hj⟩
      · exact .inl (by omega)
      · refine .inr (.inr ⟨ho, ?_⟩)
        obtain ⟨r1, r2⟩ := h7 ho
        rw [same ho u hu t1]
        rw [r2, Int.toNat_natCast, ← r1] at hj ⊢
        exact junk_mixed hj (by omega) (by omega) (by omega) k t2
    · rcases mix28 hu32.1 hnu (E := j.epoch) (T := E') (q := c') (by omega) h4 (by omega) (by omega) t2 hk with h8 | h8
      · rw [h8]
        exact .inr ⟨E', c', rfl, h2, h3, h4, h5, h6⟩
      · refine .inl ⟨num_mixed k hk hu32.1 hw32.1 hnu hnw, .inr (.inl (fun q => h8 _ _ ?_))⟩
        have := gl_ge _ _ _ hg
        omega
/-- What Unpack takes is what stands there. -/
theorem taken (h : LInv B j s all sure p c0 q0) (a b c : Int) (x : Nat) (hx : x < 2) (g : List Int) (hg : (Crash s a b c).good[2 * x]? = some g) (hU : (unpackF (readAll (Crash s a b c) (x * 2) 2)).2.2.2.2 = 0) :
    ∃ e q' bb, (unpackF (readAll (Crash s a b c) (x * 2) 2)).1 = e ∧ epochOf g = e ∧ chunkOf (packed e q' bb) 0 = g ∧ bb.length ≤ 65535 ∧ (0 ≤ e ∧ e < 4294967296) ∧ (0 ≤ q' ∧ q' < 4294967296) := by
  obtain ⟨g', v, hg', hr⟩ := two_rows (Crash s a b c) rfl (x * 2) (by rw [(crash_good h a b c).1]; omega)
  rw [Nat.mul_comm] at hg'
  rw [hg] at hg'
  obtain rfl := Option.some.inj hg'
  have hfi := (crash_good h a b c).2
  have hg32 := hfi.good _ (List.mem_of_getElem? hg)
  have hbl := readAll_fine hfi (x * 2) 2 (by rw [(crash_good h a b c).1]; omega)
  obtain ⟨e, q', bb, hE, h32, hbb, hbB, htk, he, hq'⟩ := unpackF_ok hbl.2 hU
  have hs0 := sec_pos bb.length
  have hc0 : chunkOf (packed e q' bb) 0 = g := by
    rw [← htk, chunkOf_take _ _ _ hs0, hr, chunkOf_zero, ← hg32.1, List.take_left]
  exact ⟨e, q', bb, by rw [hE], by rw [← hc0]; exact chunk_epoch e q' bb he 0 hs0, hc0, hbb, he, hq'⟩
end
theorem ck_takes (s : St) (p : Nat) (hp : p < 2) (E q : Int) (b : List Int) (hU : unpackF (readAll s (p * 2) 2) = (E, q, b, 1, 0)) (ho : (unpackF (readAll s ((1 - p) * 2) 2)).2.2.2.2 = 0 → (unpackF (readAll s ((1 - p) * 2) 2)).1 < E) : openCk s 2 = (((p : Nat) : Int), E, q, b) := by
  have e : (2 : Int).toNat = 2 := rfl
  unfold openCk
  rw [e, ckF, ckF, ckF]
  have hp01 : p = 0 ∨ p = 1 := by omega
  rcases hp01 with rfl | rfl
  · have e0 : ckStep s 2 0 (-1, (new 2).epoch, (new 2).seq, []) = (((0 : Nat) : Int), E, q, b) := by
      unfold ckStep
      rw [hU, if_pos ⟨rfl, .inl (by decide)⟩]
    rw [e0]
    unfold ckStep
    rw [if_neg]
    rintro ⟨h1, h2 | h2⟩
    · exact absurd h2 (show ¬ ((0 : Nat) : Int) < 0 by decide)
    · have := ho h1
      have h2 : E < (unpackF (readAll s (1 * 2) 2)).1 := h2
      have this : (unpackF (readAll s (1 * 2) 2)).1 < E := this
      omega
  · rw [ckStep, hU, if_pos]
    refine ⟨rfl, ?_⟩
    unfold ckStep
    split
    · rename_i h1
      exact .inr (ho h1.1)
    · exact .inl (by decide)
end Go.Proofs.Ytglpelhbncdkmaa.XJour
end
section
namespace Go.Proofs.Ytglpelhbncdkmaa.XJour
open Go.RowKit Go.Proofs.YtglpelhbncdkmaaW.PrintWords Go.Proofs.YtglpelhbncdkmaaW.PrintLast Go.Proofs.YtglpelhbncdkmaaW.PrintMore XDisk XChunk XUnpack XData
set_option linter.unusedVariables false
set_option linter.unusedSimpArgs false
theorem secs_append (E : Int) : ∀ (A : List (List Int)) (q : Int) (C : List (List Int)), secs E q (A ++ C) = secs E q A ++ secs E (q + (A.length : Nat)) C
  | [], q, C => by simp [secs]
  | x :: A, q, C => by
    rw [List.cons_append, secs, secs, secs_append E A (q + 1) C, List.append_assoc, List.length_cons]
    congr 3
    omega
theorem secs_take (E q : Int) (R : List (List Int)) (n k : Nat) (hk : k < (secs E q (R.take n)).length) : (secs E q (R.take n))[k]? = (secs E q R)[k]? := by
  have e : secs E q R = secs E q (R.take n ++ R.drop n) := by rw [List.take_append_drop]
  rw [e, secs_append, List.getElem?_append_left hk]
theorem rec_rows (s : St) (hc : s.cache = []) (hl : s.good.length = 64) : (openRec s 2).1 = (recs 61 (openCk s 2).2.1 (openCk s 2).2.2.1 (s.good.drop 4).flatten).1 := by
  have e : (2 : Int).toNat = 2 := rfl
  unfold openRec
  rw [e, readAll_rows s hc (2 * 2) (s.good.length - 2 * 2) (by omega), hl]
  rw [List.take_of_length_le (by rw [List.length_drop]; omega)]
theorem gl_le {g : List (List Int)} {B : Int} (h0 : 0 ≤ B) (h : ∀ (x : Nat) v, g[x]? = some v → epochOf v ≤ B) : gl g ≤ B := by
  unfold gl
  have key : ∀ n, n ≤ g.length → lastF ⟨g, [], 0⟩ n ≤ B := by
    intro n
    induction n with
    | zero => intro _; rw [lastF]; exact h0
    | succ n ih =>
      intro hn
      have e1 := List.getElem?_eq_getElem (l := g) (i := n) (by omega)
      have h1 := ih (by omega)
      have h2 := h n _ e1
      rw [lastF, now_good n _ e1 (fun y hy => by cases hy)]
      unfold mx; split <;> omega
  exact key _ (Nat.le_refl _)
section
variable {B : Int} {j : Jr} {s : St} {all : List (List Int)} {sure p c0 : Nat} {q0 : Int}
theorem crash_rows (h : LInv B j s all sure p c0 q0) (a b c : Int) : Rows32 ((Crash s a b c).good.drop 4) := fun x hx => (crash_good h a b c).2.good x (List.mem_of_mem_drop hx)
theorem crash_firm (h : LInv B j s all sure p c0 q0) (ho : j.op = true) (a b c : Int) (k : Nat) (hk : k < (secs j.epoch q0 ((all.drop c0).take (sure - c0))).length) : (Crash s a b c).good[4 + k]? = (secs j.epoch q0 ((all.drop c0).take (sure - c0)))[k]? := by
  have hf := h.firm ho k hk
  have ht := secs_take j.epoch q0 (all.drop c0) (sure - c0) k hk
  have h44 : 4 + k - 4 = k := by omega
  have hv0 : ∃ v0, (secs j.epoch q0 ((all.drop c0).take (sure - c0)))[k]? = some v0 := ⟨_, List.getElem?_eq_getElem hk⟩
  obtain ⟨v0, hv0⟩ := hv0
  rw [hv0] at hf ht ⊢
  have hlen := (crash_good h a b c).1
  have h64 : 4 + k < 64 := by rw [← h.len]; exact (List.getElem?_eq_some_iff.1 hf).1
  have hg := List.getElem?_eq_getElem (l := (Crash s a b c).good) (i := 4 + k) (by omega)
  have hca : ∀ v, (((4 + k : Nat) : Int), v) ∈ s.cache → v = v0 := fun v hv => by
    have := h.logc ho (4 + k) v (by omega) hv
    rw [h44, ← ht] at this
    exact (Option.some.inj this).symm
  rw [hg]
  congr 1
  rcases (crash_mix h.okS a b c (4 + k)).1 _ hg with hm | hm | ⟨u, v, c', hc', hu, hv, hm⟩
  · rw [hf] at hm; exact (Option.some.inj hm).symm
  · exact hca _ hm
  · rw [hm]
    rw [hf] at hu
    obtain rfl := Option.some.inj hu
    rw [hca v hv]
    unfold mixed
    exact List.take_append_drop _ _
/-- How many records are read. -/
theorem crash_reads (h : LInv B j s all sure p c0 q0) (a b c : Int) : ∃ m, sure - c0 ≤ m ∧ c0 + m ≤ all.length ∧ (recs 61 j.epoch q0 ((Crash s a b c).good.drop 4).flatten).1 = (all.drop c0).take m ∧ (j.op = false → j.seq = q0 + ((m : Nat) : Int)) := by
  have hEr := h.ok.epoch
  have hs := h.hs
  have hm := h.many
  have hq := h.qc
  cases ho : j.op with
  | true =>
    have he : ∀ r ∈ all.drop c0, r.length ≤ 60 := fun r hr => (h.each r (List.mem_of_mem_drop hr)).1
    obtain ⟨m, h1, h2⟩ := reads_part j.epoch ⟨hEr.1, by omega⟩ (all.drop c0) q0 ((Crash s a b c).good.drop 4) 61 he (crash_rows h a b c) (crash_fits h ho a b c)
    have h3 := reads_least j.epoch ⟨hEr.1, by omega⟩ ((all.drop c0).take (sure - c0)) q0 ((Crash s a b c).good.drop 4) 61 (fun r hr => he r (List.mem_of_mem_take hr)) (crash_rows h a b c) (by rw [List.length_drop, (crash_good h a b c).1]; decide) (by omega) (by rw [List.length_take, List.length_drop]; omega)
      (fun k hk => by rw [List.getElem?_drop]; exact crash_firm h ho a b c k hk)
    rw [h2, List.length_take, List.length_take, List.length_drop] at h3
    rw [List.length_drop] at h1
    exact ⟨m, by omega, by omega, h2, fun hh => by cases hh⟩
  | false =>
    obtain ⟨h1, m, h2, h3, h4, h5⟩ := h.shut ho
    refine ⟨m, h2, h3, ?_, fun _ => h4⟩
    rw [← h5]
    congr 3
    refine List.ext_getElem? (fun k => ?_)
    rw [List.getElem?_drop, List.getElem?_drop]
    exact (crash_mix h.okS a b c (4 + k)).2 (fun y hy e => by have := h1 y hy; omega)
/-- Behind a crash: what Open gives. -/
theorem inv_crash (h : LInv B j s all sure p c0 q0) (a b c : Int) : ∃ (p' c' m : Nat) (E' : Int), openCk (Crash s a b c) 2 = (((p' : Nat) : Int), E', ((c' : Nat) : Int), [0, ((c' : Nat) : Int)]) ∧ (openRec (Crash s a b c) 2).1 = (all.drop c').take m ∧ sure ≤ c' + m ∧ c' + m ≤ all.length ∧
    LInv B (openJ (Crash s a b c) 2) (Crash s a b c) (all.take (c' + m)) (c' + m) p' c' ((c' : Nat) : Int) := by
  have hp2 := h.place.2
  have hs := h.hs
  have hmany := h.many
  have hq := h.qc
  subst hq
  have hE := h.hE
  have hB := h.hB
  have hEr := h.ok.epoch
  obtain ⟨hlen, hfine⟩ := crash_good h a b c
  have hhome := crash_home h a b c
  obtain ⟨m, m1, m2, m3, m4⟩ := crash_reads h a b c
  obtain ⟨g, hg⟩ : ∃ g, (Crash s a b c).good[2 * (1 - p)]? = some g := ⟨_, List.getElem?_eq_getElem (by omega)⟩
  have hmay : mayF (Crash s a b c) 2 = true := by
    unfold mayF
    rw [hlen]; decide
  have hfu : (Crash s a b c).fuse ≤ 9223372036854775807 := show (-1 : Int) ≤ _ by decide
  have hok : 0 ≤ (openCk (Crash s a b c) 2).1 → JOk (openJ (Crash s a b c) 2) (Crash s a b c) := open_ok hfine (by omega) hfu hmay
  have hbound : ∀ x v, ver (Crash s a b c) x v → epochOf v ≤ B := fun x v hv => by
    rcases hv with hv | hv
    · exact crash_bound h a b c x v hv
    · cases hv
  have hcache : (Crash s a b c).cache = [] := rfl
  have hgl : gl (Crash s a b c).good ≤ B := gl_le (by have := home_epoch h; omega) (fun x v hv => crash_bound h a b c x v hv)
  rcases crash_place h a b c g hg with ⟨hnum, hold⟩ | ⟨E', c', rfl, r1, r2, r3, r4, r5⟩
  · have hck : openCk (Crash s a b c) 2 = (((p : Nat) : Int), j.epoch, ((c0 : Nat) : Int), [0, ((c0 : Nat) : Int)]) := by
      refine ck_takes _ p hp2 _ _ _ hhome.2 (fun hU => ?_)
      obtain ⟨e, q', bb, e1, e2, e3, e4, e5, e6⟩ := taken h a b c (1 - p) (by omega) g hg hU
      rw [e1]
      rcases hold with h1 | h1 | ⟨ho, h1⟩
      · omega
      · exact absurd e3 (junk_refused (h1 0) (by omega) (by omega) (by omega) e q' bb e4 e5 e6)
      · have := m4 ho
        exact absurd e3 (junk_refused h1 (by omega) (by omega) (by omega) e q' bb e4 e5 e6)
    have hrec := rec_rows (Crash s a b c) rfl hlen
    rw [hck] at hrec
    have hrec : (openRec (Crash s a b c) 2).1 = (all.drop c0).take m := hrec.trans m3
    have hJ : openJ (Crash s a b c) 2 = ⟨2, ((p : Nat) : Int), j.epoch, ((c0 : Nat) : Int) + ((m : Nat) : Int), 2 * 2 + ((openRec (Crash s a b c) 2).2 : Nat), false, false⟩ := by
      unfold openJ
      rw [hck, hrec, List.length_take, List.length_drop, Nat.min_eq_left (by omega)]
    refine ⟨p, c0, m, j.epoch, by rw [hck], hrec, by omega, m2, ?_⟩
    have hok := hok (by rw [hck]; show (0 : Int) ≤ (p : Nat); omega)
    rw [hJ] at hok ⊢
    have hlt : (all.take (c0 + m)).length = c0 + m := by rw [List.length_take]; omega
    exact {
      ok := hok, slot := rfl, len := hlen, many := by omega
      each := fun r hr => h.each r (List.mem_of_mem_take hr)
      place := ⟨rfl, hp2⟩, hB := hB, bound := hbound
      hs := ⟨by omega, by omega⟩, qc := rfl, hE := hE, home := hhome.1
      homec := fun y hy => by cases hy
      othern := fun v hv => by rw [hg] at hv; obtain rfl := Option.some.inj hv; exact hnum
      other := fun v hv => by
        rw [hg] at hv
        obtain rfl := Option.some.inj hv
        rcases hold with h1 | h1 | ⟨ho, h1⟩
        · exact .inl h1
        · exact .inr ⟨rfl, h1 _⟩
        · rw [m4 ho] at h1
          exact .inr ⟨rfl, h1⟩
      otherc := fun v hv => by cases hv
      log := fun ho => by cases ho
      logc := fun ho => by cases ho
      firm := fun ho => by cases ho
      opn := fun ho => by cases ho
      cls := fun _ _ => ⟨rfl, (by show ((c0 : Nat) : Int) + ((m : Nat) : Int) = _; omega)⟩
      shut := fun _ => ⟨fun y hy => (by cases hy), m, by omega, by omega, rfl, by
        show (recs 61 j.epoch ((c0 : Nat) : Int) ((Crash s a b c).good.drop 4).flatten).1 = _
        rw [m3, List.drop_take, show c0 + m - c0 = m from by omega, List.take_take, Nat.min_self]⟩ }
  · have hp' : 1 - (1 - p) = p := by omega
    have hU : unpackF (readAll (Crash s a b c) ((1 - p) * 2) 2) = (E', ((c' : Nat) : Int), [0, ((c' : Nat) : Int)], 1, 0) := by
      obtain ⟨u, v, hu, hr⟩ := two_rows (Crash s a b c) rfl ((1 - p) * 2) (by omega)
      rw [Nat.mul_comm, hg] at hu
      obtain rfl := Option.some.inj hu
      rw [hr, unpack_packed E' ((c' : Nat) : Int) [0, ((c' : Nat) : Int)] v ⟨by omega, by omega⟩ ⟨by omega, by omega⟩ (by simp)]
      rw [sec_two]; rfl
    have hck : openCk (Crash s a b c) 2 = (((1 - p : Nat) : Int), E', ((c' : Nat) : Int), [0, ((c' : Nat) : Int)]) := by
      refine ck_takes _ (1 - p) (by omega) _ _ _ hU (fun _ => ?_)
      rw [hp', hhome.2]
      exact r3
    have hnone : (recs 61 E' ((c' : Nat) : Int) ((Crash s a b c).good.drop 4).flatten).1 = [] := by
      obtain ⟨n, -, hn⟩ := reads_part E' ⟨by omega, by omega⟩ [] ((c' : Nat) : Int) ((Crash s a b c).good.drop 4) 61 (fun r hr => by cases hr) (crash_rows h a b c) (fun k x hk hx => by
        exfalso
        rw [List.getElem?_drop] at hk
        rcases mix_epoch h ((crash_mix h.okS a b c (4 + k)).1 x hk) with hv | ⟨u, v, k', -, hu, hv, -, he⟩
        · have := r5 (4 + k) x (by omega) hv; omega
        · have e1 := r5 (4 + k) u (by omega) (.inl hu)
          have e2 := r5 (4 + k) v (by omega) (.inr hv)
          rcases he with he | ⟨he, -⟩ <;> omega)
      rw [hn, List.take_nil]
    have hrec := rec_rows (Crash s a b c) rfl hlen
    rw [hck] at hrec
    have hrec : (openRec (Crash s a b c) 2).1 = [] := hrec.trans hnone
    have hJ : openJ (Crash s a b c) 2 = ⟨2, ((1 - p : Nat) : Int), E', ((c' : Nat) : Int) + ((0 : Nat) : Int), 2 * 2 + ((openRec (Crash s a b c) 2).2 : Nat), false, false⟩ := by
      unfold openJ
      rw [hck, hrec]; rfl
    refine ⟨1 - p, c', 0, E', hck, by rw [hrec, List.take_zero], by omega, by omega, ?_⟩
    have hok := hok (by rw [hck]; show (0 : Int) ≤ ((1 - p : Nat) : Int); omega)
    rw [hJ] at hok ⊢
    have hlt : (all.take (c' + 0)).length = c' := by rw [List.length_take]; omega
    exact {
      ok := hok, slot := rfl, len := hlen, many := by omega
      each := fun r hr => h.each r (List.mem_of_mem_take hr)
      place := ⟨rfl, by omega⟩, hB := hB, bound := hbound
      hs := ⟨by omega, by omega⟩, qc := rfl, hE := by show 1 ≤ E'; omega, home := hg
      homec := fun y hy => by cases hy
      othern := fun v hv => by
        rw [hp', hhome.1] at hv
        obtain rfl := Option.some.inj hv
        have := home_epoch h
        rw [form_packed ⟨by omega, by omega⟩ ⟨by omega, by omega⟩]
        exact num_form _ _ _ _ _ _ _ ⟨by omega, by omega⟩
      other := fun v hv => by
        rw [hp', hhome.1] at hv
        obtain rfl := Option.some.inj hv
        have := home_epoch h
        rw [form_packed ⟨by omega, by omega⟩ ⟨by omega, by omega⟩, form_epoch]
        exact .inl r3
      otherc := fun v hv => by cases hv
      log := fun ho => by cases ho
      logc := fun ho => by cases ho
      firm := fun ho => by cases ho
      opn := fun ho => by cases ho
      cls := fun _ _ => ⟨rfl, (by show ((c' : Nat) : Int) + ((0 : Nat) : Int) = _; omega)⟩
      shut := fun _ => ⟨fun y hy => (by cases hy), 0, by omega, by omega, rfl, by
        show (recs 61 E' ((c' : Nat) : Int) ((Crash s a b c).good.drop 4).flatten).1 = _
        rw [hnone, List.take_zero]⟩ }
end
end Go.Proofs.Ytglpelhbncdkmaa.XJour
end
section
namespace Go.Proofs.Ytglpelhbncdkmaa.XJour
open Go.RowKit Go.Proofs.YtglpelhbncdkmaaW.PrintWords Go.Proofs.YtglpelhbncdkmaaW.PrintLast Go.Proofs.YtglpelhbncdkmaaW.PrintMore XDisk XChunk XUnpack XData
set_option linter.unusedVariables false
set_option linter.unusedSimpArgs false
def b1 : St := (formatF (fresh 64) 2 [0, 0]).2
theorem b1_e : (formatF (fresh 64) 2 [0, 0]).2 = b1 := rfl
theorem b1_facts : (formatF (fresh 64) 2 [0, 0]).1 = 0 ∧ openCk b1 2 = (0, 1, 0, [0, 0]) ∧ (openRec b1 2).1 = [] ∧ mayF b1 2 = true ∧ b1.cache = [] ∧ b1.good.length = 64 ∧ b1.good.all (fun x => decide (epochOf x ≤ 1)) = true ∧ b1.good[0]? = some (packed 1 0 [0, 0]) ∧ b1.good[2]? = some (List.replicate 32 0) ∧ (recs 61 1 0 (b1.good.drop 4).flatten).1 = [] := by decide +kernel
/-- What a round of the law finds. -/
def LRound (i : Nat) (j : Jr) (s : St) (all : List (List Int)) (sure : Nat) : Prop := all.length ≤ i ∧ ∃ p c0 q0, LInv ((i : Int) + 1) j s all sure p c0 q0
theorem round_start : LRound 0 (openJ b1 2) b1 [] 0 := by
  obtain ⟨f1, f2, f3, f4, f5, f6, f7, f8, f9, f10⟩ := b1_facts
  have hff := format_fine (slot := 2) (l := [0, 0]) (fresh_fine 64) (bytes_dec (by decide))
  rw [b1_e] at hff
  have hJ : openJ b1 2 = ⟨2, 0, 1, 0, 2 * 2 + ((openRec b1 2).2 : Nat), false, false⟩ := by
    unfold openJ
    rw [f2, f3]; rfl
  have hok : JOk (openJ b1 2) b1 := open_ok hff.1 (by rw [f6]; decide) (Int.le_trans hff.2.2 (show (-1 : Int) ≤ 9223372036854775807 by decide)) f4 (by rw [f2]; decide)
  rw [hJ] at hok ⊢
  refine ⟨Nat.le_refl _, 0, 0, 0, ?_⟩
  exact {
    ok := hok, slot := rfl, len := f6, many := by decide
    each := fun r hr => by cases hr
    place := ⟨rfl, by decide⟩, hB := by decide
    bound := fun x v hv => by
      rcases hv with hv | hv
      · have := of_decide_eq_true (List.all_eq_true.1 f7 v (List.mem_of_getElem? hv))
        omega
      · rw [f5] at hv; cases hv
    hs := ⟨Nat.le_refl _, Nat.le_refl _⟩, qc := rfl, hE := by decide, home := f8
    homec := fun y hy => by rw [f5] at hy; cases hy
    othern := fun v hv => by
      have hv : b1.good[2]? = some v := hv
      rw [f9] at hv
      obtain rfl := Option.some.inj hv
      exact ⟨0, by decide, rfl⟩
    other := fun v hv => by
      have hv : b1.good[2]? = some v := hv
      rw [f9] at hv
      obtain rfl := Option.some.inj hv
      exact .inl (by decide +kernel)
    otherc := fun v hv => by rw [f5] at hv; cases hv
    log := fun ho => by cases ho
    logc := fun ho => by cases ho
    firm := fun ho => by cases ho
    opn := fun ho => by cases ho
    cls := fun _ _ => ⟨f5, rfl⟩
    shut := fun _ => ⟨fun y hy => (by rw [f5] at hy; cases hy), 0, by omega, by simp, rfl, by rw [List.take_zero]; exact f10⟩ }
theorem LRound.ok {i : Nat} {j : Jr} {s : St} {all : List (List Int)} {sure : Nat} (h : LRound i j s all sure) : JOk j s := by
  obtain ⟨-, p, c0, q0, h⟩ := h
  exact h.ok
theorem LRound.le {i : Nat} {j : Jr} {s : St} {all : List (List Int)} {sure : Nat} (h : LRound i j s all sure) : sure ≤ all.length := by
  obtain ⟨-, p, c0, q0, h⟩ := h
  exact h.hs.2
theorem LRound.len {i : Nat} {j : Jr} {s : St} {all : List (List Int)} {sure : Nat} (h : LRound i j s all sure) : s.good.length = 64 := by
  obtain ⟨-, p, c0, q0, h⟩ := h
  exact h.len
theorem LRound.many {i : Nat} {j : Jr} {s : St} {all : List (List Int)} {sure : Nat} (h : LRound i j s all sure) : all.length ≤ i := h.1
theorem round_fuse {i : Nat} {j : Jr} {s : St} {all : List (List Int)} {sure : Nat} (h : LRound i j s all sure) (hi : i < 60) (n : Int) (hn : n ≤ 9223372036854775807) : LRound (i + 1) j { s with fuse := n } all sure := by
  obtain ⟨hl, p, c0, q0, h⟩ := h
  exact ⟨by omega, p, c0, q0, inv_up (inv_fuse h n hn) (by omega) (by omega)⟩
theorem round_commit {i : Nat} {j : Jr} {s : St} {all : List (List Int)} {sure : Nat} (h : LRound i j s all sure) (hi : i < 60) : LRound (i + 1) (commitF j s).2.1 (commitF j s).2.2 all (if (commitF j s).1 = 0 then all.length else sure) := by
  obtain ⟨hl, p, c0, q0, h⟩ := h
  have := inv_commit h
  split
  · rename_i hc
    exact ⟨by omega, p, c0, q0, inv_up (this.1 hc) (by omega) (by omega)⟩
  · rename_i hc
    exact ⟨by omega, p, c0, q0, inv_up (this.2 hc) (by omega) (by omega)⟩
theorem round_checkpoint {i : Nat} {j : Jr} {s : St} {all : List (List Int)} {sure : Nat} (h : LRound i j s all sure) (hi : i < 60) : LRound (i + 1) (checkpointF j s [0, ((all.length : Nat) : Int)]).2.1 (checkpointF j s [0, ((all.length : Nat) : Int)]).2.2 all (if (checkpointF j s [0, ((all.length : Nat) : Int)]).1 = 0 then all.length else sure) := by
  obtain ⟨hl, p, c0, q0, h⟩ := h
  have := inv_checkpoint h (by omega) _ rfl
  split
  · rename_i hc
    obtain ⟨p', c', q', h'⟩ := this.1 hc
    exact ⟨by omega, p', c', q', by rw [show (((i + 1 : Nat) : Int) + 1) = (i : Int) + 1 + 1 from by omega]; exact h'⟩
  · rename_i hc
    exact ⟨by omega, p, c0, q0, by rw [show (((i + 1 : Nat) : Int) + 1) = (i : Int) + 1 + 1 from by omega]; exact this.2 hc⟩
theorem round_append {i : Nat} {j : Jr} {s : St} {all : List (List Int)} {sure : Nat} (h : LRound i j s all sure) (hi : i < 60) (l : List Int) (hl : l.length ≤ 60 ∧ Bytes l) : LRound (i + 1) (appendF j s l).2.1 (appendF j s l).2.2 (if (appendF j s l).1 = 0 ∨ (appendF j s l).1 = 10 then all ++ [l] else all) sure := by
  obtain ⟨ha, p, c0, q0, h⟩ := h
  have := inv_append h l hl (by omega)
  split
  · rename_i hc
    exact ⟨by rw [List.length_append, List.length_singleton]; omega, p, c0, q0, inv_up (this.1 hc) (by omega) (by omega)⟩
  · rename_i hc
    exact ⟨by omega, p, c0, q0, inv_up (this.2 hc) (by omega) (by omega)⟩
theorem round_crash {i : Nat} {j : Jr} {s : St} {all : List (List Int)} {sure : Nat} (h : LRound i j s all sure) (hi : i < 60) (a b c : Int) : ∃ (c' : Nat) (ls : List (List Int)), 0 ≤ (openCk (Crash s a b c) 2).1 ∧ (openCk (Crash s a b c) 2).2.2.2 = [0, ((c' : Nat) : Int)] ∧ (openRec (Crash s a b c) 2).1 = ls ∧ ls = (all.take (c' + ls.length)).drop c' ∧ sure ≤ c' + ls.length ∧ c' + ls.length ≤ all.length ∧
    LRound (i + 1) (openJ (Crash s a b c) 2) (Crash s a b c) (all.take (c' + ls.length)) (c' + ls.length) := by
  obtain ⟨ha, p, c0, q0, h⟩ := h
  obtain ⟨p', c', m, E', h1, h2, h3, h4, h5⟩ := inv_crash h a b c
  have hm : ((all.drop c').take m).length = m := by rw [List.length_take, List.length_drop]; omega
  refine ⟨c', (all.drop c').take m, by rw [h1]; show (0 : Int) ≤ ((p' : Nat) : Int); omega, by rw [h1], h2, ?_, ?_⟩
  · rw [hm, List.drop_take, show c' + m - c' = m from by omega]
  · rw [hm]
    exact ⟨h3, h4, by rw [List.length_take]; omega, p', c', _, inv_up h5 (by omega) (by omega)⟩
theorem round_may {i : Nat} {j : Jr} {s : St} {all : List (List Int)} {sure : Nat} (h : LRound i j s all sure) (a b c : Int) : mayF (Crash s a b c) 2 = true := by
  have h1 := h.len
  unfold mayF
  rw [(crash_fine h.ok.fine a b c).2, h1]; decide
end Go.Proofs.Ytglpelhbncdkmaa.XJour
end
