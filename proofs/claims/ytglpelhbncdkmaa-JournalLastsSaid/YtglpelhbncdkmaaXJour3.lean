/-
  package journal by walks, third part: pack, put, flush, Commit, Format.
-/
import Derived.Laws.CopyOwn
import Derived.ArgAppend
import Derived.Below
import Derived.BigQuiet
import Derived.Deep.AppendLies
import Derived.Deep.CutBlock
import Derived.Deep.DeepCutAuto
import Derived.Deep.Draws
import Derived.Deep.LoopGhost
import Derived.Deep.OwnRows
import Derived.Deep.QuietTactic
import Derived.Deep.RegionHeld3
import Derived.Deep.WholeRow
import Derived.KernelRfl
import Derived.Laws.BitsLemmas
import Derived.Laws.BytesArg
import Derived.Laws.IdiomCopy
import Derived.Laws.MakeOwn
import Derived.Laws.OwnMore
import Derived.Laws.Rows
import Derived.Laws.Slices
import Derived.Lib.AppendStr
import Derived.Lib.ConvBytes
import Derived.Lib.Hide
import Derived.Maps.AppendAt
import Derived.OrdersHeld
import Derived.Outline
import Derived.OwnWalk
import Derived.RowKit
import Derived.RowKit3
import Derived.Tactics
import Derived.WalkKit
import Derived.WideLaws
import Derived.Test.YtglpelhbncdkmaaProg
import Derived.Test.YtglpelhbncdkmaaWApart
import Derived.Test.YtglpelhbncdkmaaWArr
import Derived.Test.YtglpelhbncdkmaaWAt
import Derived.Test.YtglpelhbncdkmaaWEqStruct
import Derived.Test.YtglpelhbncdkmaaWFoot
import Derived.Test.YtglpelhbncdkmaaWFootNe
import Derived.Test.YtglpelhbncdkmaaWFour
import Derived.Test.YtglpelhbncdkmaaWGuard
import Derived.Test.YtglpelhbncdkmaaWInv
import Derived.Test.YtglpelhbncdkmaaWInvWords
import Derived.Test.YtglpelhbncdkmaaWKept
import Derived.Test.YtglpelhbncdkmaaWLast
import Derived.Test.YtglpelhbncdkmaaWMore
import Derived.Test.YtglpelhbncdkmaaWN
import Derived.Test.YtglpelhbncdkmaaWNEv
import Derived.Test.YtglpelhbncdkmaaWQPut
import Derived.Test.YtglpelhbncdkmaaWRepsOne
import Derived.Test.YtglpelhbncdkmaaWShare
import Derived.Test.YtglpelhbncdkmaaWTab
import Derived.Test.YtglpelhbncdkmaaWWords
import Derived.Test.YtglpelhbncdkmaaWZeros
import Derived.Test.YtglpelhbncdkmaaXSlices

import Derived.Test.YtglpelhbncdkmaaXJour2
import Derived.Test.YtglpelhbncdkmaaXPack
namespace Go.Proofs.Ytglpelhbncdkmaa.XJour
open Go.RowKit Go.Proofs.YtglpelhbncdkmaaW.PrintWords Go.Proofs.YtglpelhbncdkmaaW.PrintLast Go.Proofs.YtglpelhbncdkmaaW.PrintMore XDisk XChunk
set_option linter.unusedVariables false
set_option linter.unusedSimpArgs false
/-! ### rows of bytes that nobody writes -/
def okB (n : Nat) (w : World) (k : Nat) : Prop := n ≤ k ∧ ∃ cells, w.heap[k]? = some (.cells cells 5 (0, 0))
theorem V_keepJ {base n : Nat} {w w' : World} {v : Value} {l : List Int} (h : Kd.V (Kd.int .u8) 5 w n (okB n w) v l) (k : KeepJ base w w') : Kd.V (Kd.int .u8) 5 w' n (okB n w') v l := by
  have hb : ∀ i, okB n w i → w'.heap[i]? = w.heap[i]? := fun i ⟨_, cells, hc⟩ => k.block i (blk_lt hc) (.inr (fun cells' q hq => by rw [hc] at hq; injection hq with hq; injection hq with _ hq _; subst hq; unfold jT dT; decide))
  exact Kd.V_mono (Kd.V_step h (fun i hi _ => hb i hi)) (fun i hi => ⟨hi.1, by rw [hb i hi]; exact hi.2⟩)
theorem V_srcD {base n : Nat} {w : World} {A : Option Addr} {m c : Nat} {l : List Int} (h : Kd.V (Kd.int .u8) 5 w n (okB n w) (.slice A m c) l) : m = l.length ∧ l.length ≤ c ∧ ∀ w', KeepD base w w' → Kd.C (Kd.int .u8) w' A l.length l := by
  obtain ⟨h1, h2, -⟩ := Kd.V_reads' h
  exact ⟨h1, by omega, fun w' hk => (Kd.V_reads' (V_keepJ h (.of_keep hk))).2.2⟩
theorem jr_set2 {base : Nat} {w : World} {gj g : Nat} {j : Jr} (h : JrAt base w gj g j) (n : Int) : JrAt base (w.setCell ⟨gj, 2, none⟩ (.int .i64 n)) gj g { j with place := n } := ⟨blk_set h.1 2 _, h.2⟩
theorem jr_set3 {base : Nat} {w : World} {gj g : Nat} {j : Jr} (h : JrAt base w gj g j) (n : Int) : JrAt base (w.setCell ⟨gj, 3, none⟩ (.int .i64 n)) gj g { j with epoch := n } := ⟨blk_set h.1 3 _, h.2⟩
theorem jr_set4 {base : Nat} {w : World} {gj g : Nat} {j : Jr} (h : JrAt base w gj g j) (n : Int) : JrAt base (w.setCell ⟨gj, 4, none⟩ (.int .i64 n)) gj g { j with seq := n } := ⟨blk_set h.1 4 _, h.2⟩
theorem jr_set5 {base : Nat} {w : World} {gj g : Nat} {j : Jr} (h : JrAt base w gj g j) (n : Int) : JrAt base (w.setCell ⟨gj, 5, none⟩ (.int .i64 n)) gj g { j with next := n } := ⟨blk_set h.1 5 _, h.2⟩
theorem jr_set6 {base : Nat} {w : World} {gj g : Nat} {j : Jr} (h : JrAt base w gj g j) (n : Bool) : JrAt base (w.setCell ⟨gj, 6, none⟩ (.bool n)) gj g { j with op := n } := ⟨blk_set h.1 6 _, h.2⟩
theorem jr_set7 {base : Nat} {w : World} {gj g : Nat} {j : Jr} (h : JrAt base w gj g j) (n : Bool) : JrAt base (w.setCell ⟨gj, 7, none⟩ (.bool n)) gj g { j with down := n } := ⟨blk_set h.1 7 _, h.2⟩
theorem keepJ_jr {base : Nat} {w : World} {gj g : Nat} {j : Jr} (h : JrAt base w gj g j) (i : Nat) (u : Value) : KeepJ base w (w.setCell ⟨gj, i, none⟩ u) := KeepJ.set_ h.1 (.inr rfl) h.2 i u
/-! ### pack -/
def packF (epoch seq slot : Int) (l : List Int) : Int × List Int :=
  if 65535 < l.length ∨ 4294967295 < epoch then (2, []) else if slot * 32 < ((packed epoch seq l).length : Nat) then (5, []) else (0, packed epoch seq l)
attribute [local irreducible] packed
set_option maxHeartbeats 1000000 in
theorem pack_walk (epoch seq slot : Int) (A : Option Addr) (c : Nat) (l : List Int) (w : World) (hr : Kd.C (Kd.int .u8) w A l.length l) (hc : l.length ≤ c) (he : 0 ≤ epoch) (hs : 0 ≤ seq ∧ seq ≤ 4294967295) (hp : 0 ≤ slot ∧ slot ≤ 1024) (hb : Bytes l) :
    Calls Try.prog 24 #[.int .i64 epoch, .int .i64 seq, .int .i64 slot, .slice A l.length c] w fun e w' => ∃ v, e = .returned (.tuple #[v, .int .i64 (packF epoch seq slot l).1]) ∧ Kd.V (Kd.int .u8) 5 w' w.heap.size (okB w.heap.size w') v (packF epoch seq slot l).2 ∧ Below w.heap.size w w' := by
  have hm := hr.2.1
  by_cases h1 : (65535 : Int) < (l.length : Int)
  · have e1 : packF epoch seq slot l = (2, []) := by unfold packF; rw [if_pos (.inl (by omega))]
    rw [e1]
    have b1 : decide ((65535 : Int) < (l.length : Int)) = true := decide_eq_true h1
    go_enter Try.func24, Try.ntmps24
    go_wp2
    refine bodyPost_ret (results_tmp2 rfl _ _ _) rfl ?_
    exact ⟨_, rfl, Kd.V_nil _ _ _ _ _, Below.refl _ _⟩
  have b1 : decide ((65535 : Int) < (l.length : Int)) = false := decide_eq_false h1
  by_cases h2 : (4294967295 : Int) < epoch
  · have e1 : packF epoch seq slot l = (2, []) := by unfold packF; rw [if_pos (.inr h2)]
    rw [e1]
    have b2 : decide ((4294967295 : Int) < epoch) = true := decide_eq_true h2
    go_enter Try.func24, Try.ntmps24
    go_wp2
    refine bodyPost_ret (results_tmp2 rfl _ _ _) rfl ?_
    exact ⟨_, rfl, Kd.V_nil _ _ _ _ _, Below.refl _ _⟩
  have b2 : decide ((4294967295 : Int) < epoch) = false := decide_eq_false h2
  have hpl := packed_len epoch seq l
  have PW := Aside0.mk (XPack.pack_walk epoch seq A c l w hr hc ⟨he, by omega, hs.1, by omega⟩ (by omega) hb)
  have hsl : (packed epoch seq l).length ≤ 100000 := by rw [hpl]; unfold sectors; omega
  by_cases h3 : slot * 32 < ((packed epoch seq l).length : Nat)
  · have e1 : packF epoch seq slot l = (5, []) := by unfold packF; rw [if_neg (by omega), if_pos h3]
    rw [e1]
    generalize packed epoch seq l = p at *
    clear hr hpl
    go_enter Try.func24, Try.ntmps24
    go_wp2_with (go_at_call 34; refine PW.out.mono ?_; rintro e w1 ⟨v, rfl, hV, hB⟩; obtain ⟨Av, cv, rfl⟩ := Kd.V_slice hV; have HB := Aside0.mk hB; clear hV hB PW)
    refine bodyPost_ret (results_tmp2 rfl _ _ _) rfl ?_
    exact ⟨_, rfl, Kd.V_nil _ _ _ _ _, HB.out⟩
  · have e1 : packF epoch seq slot l = (0, packed epoch seq l) := by unfold packF; rw [if_neg (by omega), if_neg h3]
    rw [e1]
    generalize packed epoch seq l = p at *
    clear hr hpl
    go_enter Try.func24, Try.ntmps24
    go_wp2_with (go_at_call 34; refine PW.out.mono ?_; rintro e w1 ⟨v, rfl, hV, hB⟩; obtain ⟨Av, cv, rfl⟩ := Kd.V_slice hV; have HB := Aside0.mk hB; have HV := Aside0.mk hV; clear hV hB PW)
    refine bodyPost_ret (results_tmp2 rfl _ _ _) rfl ?_
    exact ⟨_, rfl, HV.out, HB.out⟩
/-! ### put, flush, Commit -/
theorem put_walk (base gj g m c : Nat) (j : Jr) (s : St) (a : Int) (A : Option Addr) (b : List Int) (w : World) (hj : JrAt base w gj g j) (h : DiskAt base w g s) (ha : 0 ≤ a ∧ a ≤ 4000) (hm : m ≤ 4000) (hb : b.length = 32 * m) (hc : b.length ≤ c) (hf : s.fuse ≤ 9223372036854775807) (hl : s.cache.length + m ≤ 1000000) (hbase : base ≤ w.heap.size)
    (hsrc : ∀ w', KeepD base w w' → Kd.C (Kd.int .u8) w' A b.length b) :
    Calls Try.prog 31 #[.pointer (some ⟨gj, 0, none⟩), .int .i64 a, .slice A b.length c] w fun e w' => e = .returned (.int .i64 (putAll m s a b).1) ∧ JrAt base w' gj g { j with down := (putAll m s a b).1 != 0 } ∧ DiskAt base w' g (putAll m s a b).2 ∧ KeepJ base w w' := by
  have WW := Aside0.mk (wr_walk base g m c s a A b w h ha hm hb hc hf hl hbase hsrc)
  have HJ := Aside0.mk hj
  obtain ⟨h0, -⟩ := jr_cells hj
  clear h hsrc hb hl hj
  obtain ⟨r, hr⟩ : ∃ r, putAll m s a b = r := ⟨_, rfl⟩
  rw [hr] at WW ⊢
  clear hr
  obtain ⟨er, sr⟩ := r
  go_enter Try.func31, Try.ntmps31
  go_wp2_with (go_at_call 25; refine WW.out.mono ?_; rintro e w1 ⟨rfl, hD, hK⟩; have hj1 := jr_keep HJ.out hK; have hfz := jr_frozen hj1 7; have hc7 := (jr_cells hj1).2.2.2.2.2.2.2; have HJ1 := Aside0.mk hj1; have HK := Aside0.mk (KeepJ.of_keep hK); have HD := Aside0.mk hD; clear hD hK hj1 WW HJ h0)
  go_ret
  exact ⟨rfl, jr_set7 HJ1.out _, disk_setJ HJ1.out HD.out _ _, HK.out.trans (keepJ_jr HJ1.out _ _)⟩
theorem jflush_walk (base gj g : Nat) (j : Jr) (s : St) (w : World) (hj : JrAt base w gj g j) (h : DiskAt base w g s) (hf : s.fuse ≤ 9223372036854775807) (hi : InR s) :
    Calls Try.prog 32 #[.pointer (some ⟨gj, 0, none⟩)] w fun e w' => e = .returned (.int .i64 (Flush s).1) ∧ JrAt base w' gj g { j with down := (Flush s).1 != 0 } ∧ DiskAt base w' g (Flush s).2 ∧ KeepJ base w w' := by
  have WW := Aside0.mk (flush_any base g s w h hf hi)
  have HJ := Aside0.mk hj
  obtain ⟨h0, -⟩ := jr_cells hj
  clear h hj
  obtain ⟨r, hr⟩ : ∃ r, Flush s = r := ⟨_, rfl⟩
  rw [hr] at WW ⊢
  clear hr
  obtain ⟨er, sr⟩ := r
  go_enter Try.func32, Try.ntmps32
  go_wp2_with (go_at_call 26; refine WW.out.mono ?_; rintro e w1 ⟨rfl, hD, hK⟩; have hj1 := jr_keep HJ.out hK; have hfz := jr_frozen hj1 7; have hc7 := (jr_cells hj1).2.2.2.2.2.2.2; have HJ1 := Aside0.mk hj1; have HK := Aside0.mk (KeepJ.of_keep hK); have HD := Aside0.mk hD; clear hD hK hj1 WW HJ h0)
  go_ret
  exact ⟨rfl, jr_set7 HJ1.out _, disk_setJ HJ1.out HD.out _ _, HK.out.trans (keepJ_jr HJ1.out _ _)⟩
/-- What Commit answers, and what it leaves. -/
def commitF (j : Jr) (s : St) : Int × Jr × St := if stateF j = 0 then ((Flush s).1, { j with down := (Flush s).1 != 0 }, (Flush s).2) else (stateF j, j, s)
theorem commit_walk (base gj g : Nat) (j : Jr) (s : St) (w : World) (hj : JrAt base w gj g j) (h : DiskAt base w g s) (hf : s.fuse ≤ 9223372036854775807) (hi : InR s) :
    Calls Try.prog 11 #[.pointer (some ⟨gj, 0, none⟩)] w fun e w' => e = .returned (.int .i64 (commitF j s).1) ∧ JrAt base w' gj g (commitF j s).2.1 ∧ DiskAt base w' g (commitF j s).2.2 ∧ KeepJ base w w' := by
  have SW := Aside0.mk (state_walk base gj g j w hj)
  have FW := Aside0.mk (jflush_walk base gj g j s w hj h hf hi)
  have HJ := Aside0.mk hj
  have HD := Aside0.mk h
  clear h hj hi
  unfold commitF
  obtain ⟨e1, he1⟩ : ∃ r, stateF j = r := ⟨_, rfl⟩
  rw [he1] at SW ⊢
  clear he1
  by_cases hz : e1 = 0
  · subst hz
    rw [if_pos rfl]
    go_enter Try.func11, Try.ntmps11
    go_wp2_with (first | (go_at_call 29; refine SW.out.mono ?_; rintro e w1 ⟨rfl, rfl⟩) | (go_at_call 32; refine FW.out.mono ?_; rintro e w1 ⟨rfl, hJ, hD, hK⟩; have HJ1 := Aside0.mk hJ; have HD1 := Aside0.mk hD; have HK1 := Aside0.mk hK; clear hJ hD hK))
    go_ret
    exact ⟨rfl, HJ1.out, HD1.out, HK1.out⟩
  · rw [if_neg hz]
    have hz' : (e1 == 0) = false := by simpa using hz
    go_enter Try.func11, Try.ntmps11
    go_wp2_with (go_at_call 29; refine SW.out.mono ?_; rintro e w1 ⟨rfl, rfl⟩)
    go_ret
    exact ⟨rfl, HJ.out, HD.out, KeepJ.refl _ _⟩
/-! ### Format -/
def formatF (s : St) (slot : Int) (l : List Int) : Int × St :=
  if mayF s slot = false then (1, s) else if (packF 1 0 slot l).1 ≠ 0 then ((packF 1 0 slot l).1, s)
  else if (putAll ((packF 1 0 slot l).2.length / 32) s 0 (packF 1 0 slot l).2).1 ≠ 0 then putAll ((packF 1 0 slot l).2.length / 32) s 0 (packF 1 0 slot l).2
  else Flush (putAll ((packF 1 0 slot l).2.length / 32) s 0 (packF 1 0 slot l).2).2
theorem format_nil (slot : Int) (v : Value) (w : World) : Calls Try.prog 8 #[.pointer none, .int .i64 slot, v] w fun e w' => e = .returned (.int .i64 1) ∧ w = w' := by
  go_enter Try.func8, Try.ntmps8
  go_wp2_with (go_at_call 23; refine (may_nil _ _).mono ?_; rintro e w1 ⟨rfl, rfl⟩)
  go_ret
  exact ⟨rfl, rfl⟩
theorem packF_len (epoch seq slot : Int) (l : List Int) : (packF epoch seq slot l).2.length = 32 * ((packF epoch seq slot l).2.length / 32) ∧ (packF epoch seq slot l).2.length / 32 ≤ 4000 ∧ ((packF epoch seq slot l).1 = 0 → ((packF epoch seq slot l).2.length : Int) ≤ slot * 32) := by
  unfold packF
  split
  · simp
  · rename_i h
    split
    · simp
    · rename_i h2
      have := packed_len epoch seq l
      refine ⟨?_, ?_, fun _ => ?_⟩
      · simp only; omega
      · simp only; rw [this]; unfold sectors; omega
      · simp only; omega
theorem putAll_fine : ∀ (m : Nat) (s : St) (a : Int) (b : List Int), Fine s → b.length = 32 * m → Bytes b → Fine (putAll m s a b).2 ∧ (putAll m s a b).2.good = s.good ∧ (putAll m s a b).2.cache.length ≤ s.cache.length + m ∧ (putAll m s a b).2.fuse ≤ s.fuse := by
  intro m
  induction m with
  | zero => intro s a b h _ _; rw [putAll]; exact ⟨h, rfl, Nat.le_refl _, Int.le_refl _⟩
  | succ m ih =>
    intro s a b h hl hb
    have h1 : (b.take 32).length = 32 := by rw [List.length_take]; omega
    have h2 : (b.drop 32).length = 32 * m := by rw [List.length_drop]; omega
    have hk := write_keeps s a (b.take 32) ⟨h.inr, h.once⟩
    have hf := write_fuse_le s a (b.take 32)
    have hbt : Bytes (b.take 32) := fun c hc => hb c (List.mem_of_mem_take hc)
    have hfine : Fine (Write s a (b.take 32)).2 := ⟨by rw [hk.2.1]; exact h.good, by
      unfold Write
      split
      · split
        · intro x hx
          rcases (put_ok (i := a) (b := b.take 32) h.once).2.2 x hx with rfl | hx
          · exact ⟨h1, hbt⟩
          · exact h.cache x hx
        · exact h.cache
      · exact h.cache, hk.1.inr, hk.1.once⟩
    rw [putAll]
    split
    · obtain ⟨i1, i2, i3, i4⟩ := ih _ (a + 1) (b.drop 32) hfine h2 (fun c hc => hb c (List.mem_of_mem_drop hc))
      exact ⟨i1, i2.trans hk.2.1, by have := hk.2.2; omega, Int.le_trans i4 hf⟩
    · exact ⟨hfine, hk.2.1, by have := hk.2.2; omega, hf⟩
theorem cut_bytes (d mk : List Int) (ks : List Nat) (hd : Bytes d) (hm : Bytes mk) : Bytes (cuts d mk ks) := by
  intro c hc
  unfold cuts at hc
  obtain ⟨k, -, hc⟩ := List.mem_flatMap.1 hc
  rcases List.mem_append.1 hc with hc | hc
  · exact hd c (List.mem_of_mem_drop (List.mem_of_mem_take hc))
  · exact hm c hc
theorem be4_bytes (n : Int) : Bytes (be4 n) := by
  intro c hc
  unfold be4 at hc
  simp only [List.mem_cons, List.not_mem_nil, or_false] at hc
  rcases hc with rfl | rfl | rfl | rfl <;> omega
theorem be2_bytes (n : Int) : Bytes (be2 n) := by
  intro c hc
  unfold be2 at hc
  simp only [List.mem_cons, List.not_mem_nil, or_false] at hc
  rcases hc with rfl | rfl <;> omega
end Go.Proofs.Ytglpelhbncdkmaa.XJour
