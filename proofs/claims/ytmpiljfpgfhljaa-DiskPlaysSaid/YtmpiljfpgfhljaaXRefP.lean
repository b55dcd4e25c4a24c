/-
  The program's disk and the reference's, as plain data: what each act does to both.
-/
import Derived.Laws.CopyOwn
import Derived.ArgAppend
import Derived.Below
import Derived.BigQuiet
import Derived.Deep.AppendLies
import Derived.Deep.CutBlock
import Derived.Deep.DeepCutAuto
import Derived.Deep.Draws
import Derived.Deep.LoopGhost
import Derived.Deep.OwnRows
import Derived.Deep.QuietTactic
import Derived.Deep.RegionHeld3
import Derived.Deep.WholeRow
import Derived.KernelRfl
import Derived.Laws.BitsLemmas
import Derived.Laws.BytesArg
import Derived.Laws.IdiomCopy
import Derived.Laws.MakeOwn
import Derived.Laws.OwnMore
import Derived.Laws.Rows
import Derived.Laws.Slices
import Derived.Lib.AppendStr
import Derived.Lib.ConvBytes
import Derived.Lib.Hide
import Derived.Maps.AppendAt
import Derived.OrdersHeld
import Derived.Outline
import Derived.OwnWalk
import Derived.RowKit
import Derived.RowKit3
import Derived.Tactics
import Derived.WalkKit
import Derived.WideLaws
import Derived.Test.YtmpiljfpgfhljaaProg
import Derived.Test.YtmpiljfpgfhljaaWApart
import Derived.Test.YtmpiljfpgfhljaaWArr
import Derived.Test.YtmpiljfpgfhljaaWAt
import Derived.Test.YtmpiljfpgfhljaaWEqStruct
import Derived.Test.YtmpiljfpgfhljaaWFoot
import Derived.Test.YtmpiljfpgfhljaaWFootNe
import Derived.Test.YtmpiljfpgfhljaaWFour
import Derived.Test.YtmpiljfpgfhljaaWGuard
import Derived.Test.YtmpiljfpgfhljaaWInv
import Derived.Test.YtmpiljfpgfhljaaWInvWords
import Derived.Test.YtmpiljfpgfhljaaWKept
import Derived.Test.YtmpiljfpgfhljaaWLast
import Derived.Test.YtmpiljfpgfhljaaWMore
import Derived.Test.YtmpiljfpgfhljaaWN
import Derived.Test.YtmpiljfpgfhljaaWNEv
import Derived.Test.YtmpiljfpgfhljaaWQPut
import Derived.Test.YtmpiljfpgfhljaaWRepsOne
import Derived.Test.YtmpiljfpgfhljaaWShare
import Derived.Test.YtmpiljfpgfhljaaWTab
import Derived.Test.YtmpiljfpgfhljaaWWords
import Derived.Test.YtmpiljfpgfhljaaWZeros
import Derived.Test.YtmpiljfpgfhljaaXSlices

import Derived.Test.YtmpiljfpgfhljaaXRefD7
namespace Go.Proofs.Ytmpiljfpgfhljaa.XRefD
open Go.RowKit Go.Proofs.YtmpiljfpgfhljaaW.PrintWords Go.Proofs.YtmpiljfpgfhljaaW.PrintLast Go.Proofs.YtmpiljfpgfhljaaW.PrintMore XDisk
set_option linter.unusedVariables false
set_option linter.unusedSimpArgs false
/-- What is cached of a sector, else b. -/
def lk (i : Int) (b : List Int) : List (Int × List Int) → List Int
  | [] => b
  | x :: c => if x.1 = i then x.2 else lk i b c
theorem lk_loc (i : Int) (b : List Int) : ∀ (c : List (Int × List Int)) (k : Nat), (if 0 ≤ locF i c k then (c.getD (locF i c k - k).toNat (0, [])).2 else b) = lk i b c
  | [], k => by rw [locF, if_neg (by decide)]; rfl
  | x :: c, k => by
    by_cases h : x.1 = i
    · have e2 : locF i (x :: c) k = (k : Int) := by rw [locF, if_pos (by simpa using h)]
      rw [e2, lk, if_pos h, if_pos (by omega), Int.sub_self]; rfl
    · have e2 : locF i (x :: c) k = locF i c (k + 1) := by rw [locF, if_neg (by simpa using h)]
      rw [e2, lk, if_neg h, ← lk_loc i b c (k + 1)]
      rcases locF_range i c (k + 1) with e | ⟨j, hj, e, -⟩
      · rw [e]; rfl
      · have h1 : (0 : Int) ≤ ((k + 1 + j : Nat) : Int) := by omega
        rw [e, if_pos h1, if_pos h1, show (((k + 1 + j : Nat) : Int) - k).toNat = j + 1 from by omega, show (((k + 1 + j : Nat) : Int) - ((k + 1 : Nat) : Int)).toNat = j from by omega]
        rfl
theorem lk_loc0 (i : Int) (b : List Int) (c : List (Int × List Int)) : (if 0 ≤ locF i c 0 then (c.getD (locF i c 0).toNat (0, [])).2 else b) = lk i b c := by
  have := lk_loc i b c 0
  rwa [Int.natCast_zero, Int.sub_zero] at this
def putR (i : Int) (b : List Int) : List (Int × List Int) → List (Int × List Int)
  | [] => [(i, b)]
  | x :: c => if x.1 = i then (i, b) :: c else x :: putR i b c
theorem put_loc (i : Int) (b : List Int) : ∀ (c : List (Int × List Int)) (k : Nat), (if 0 ≤ locF i c k then c.set (locF i c k - k).toNat (i, b) else c ++ [(i, b)]) = putR i b c
  | [], k => by rw [locF, if_neg (by decide)]; rfl
  | x :: c, k => by
    by_cases h : x.1 = i
    · have e2 : locF i (x :: c) k = (k : Int) := by rw [locF, if_pos (by simpa using h)]
      rw [e2, putR, if_pos h, if_pos (by omega), Int.sub_self]; rfl
    · have e2 : locF i (x :: c) k = locF i c (k + 1) := by rw [locF, if_neg (by simpa using h)]
      rw [e2, putR, if_neg h, ← put_loc i b c (k + 1)]
      rcases locF_range i c (k + 1) with e | ⟨j, hj, e, -⟩
      · rw [e]; rfl
      · have h1 : (0 : Int) ≤ ((k + 1 + j : Nat) : Int) := by omega
        rw [e, if_pos h1, if_pos h1, show (((k + 1 + j : Nat) : Int) - k).toNat = j + 1 from by omega, show (((k + 1 + j : Nat) : Int) - ((k + 1 : Nat) : Int)).toNat = j from by omega]
        rfl
theorem put_R (i : Int) (b : List Int) (c : List (Int × List Int)) : put c i b = putR i b c := by
  have := put_loc i b c 0
  rwa [Int.natCast_zero, Int.sub_zero] at this
theorem lk_put (i a : Int) (b v : List Int) : ∀ c : List (Int × List Int), lk i b (putR a v c) = if a = i then v else lk i b c
  | [] => rfl
  | x :: c => by
    rw [putR]
    by_cases h : x.1 = a
    · rw [if_pos h, lk, lk]
      by_cases e : a = i
      · rw [if_pos e, if_pos e]
      · rw [if_neg e, if_neg e, if_neg (by rw [h]; exact e)]
    · rw [if_neg h, lk, lk]
      by_cases e : x.1 = i
      · rw [if_pos e, if_pos e, if_neg (fun q => h (by rw [e, q]))]
      · rw [if_neg e, if_neg e]
        exact lk_put i a b v c
theorem any_cons (x a : Int) (l : List Int) : ((x :: l).any (· == a)) = ((x == a) || l.any (· == a)) := rfl
theorem keys_put (a : Int) (v : List Int) : ∀ c : List (Int × List Int), (putR a v c).map (·.1) = oneMore (c.map (·.1)) a
  | [] => rfl
  | x :: c => by
    have ih := keys_put a v c
    unfold oneMore at *
    rw [putR, List.map_cons, any_cons]
    by_cases h : x.1 = a
    · rw [if_pos h, show (x.1 == a) = true from by simpa using h, Bool.true_or, if_pos rfl, List.map_cons, ← h]
    · rw [if_neg h, show (x.1 == a) = false from by simpa using h, Bool.false_or, List.map_cons, ih]
      split <;> rfl
/-- What is cached, of all that was written. -/
def cacheOf (l : List (Int × List Int)) : List (Int × List Int) := l.foldl (fun c x => putR x.1 x.2 c) []
theorem cache_snoc (l : List (Int × List Int)) (x : Int × List Int) : cacheOf (l ++ [x]) = putR x.1 x.2 (cacheOf l) := by
  unfold cacheOf
  rw [List.foldl_append]
  rfl
theorem cache_keys (l : List (Int × List Int)) : (cacheOf l).map (·.1) = orderF l := by
  have key : ∀ (l c : List (Int × List Int)), (l.foldl (fun c x => putR x.1 x.2 c) c).map (·.1) = l.foldl (fun o x => oneMore o x.1) (c.map (·.1)) := by
    intro l
    induction l with
    | nil => intro c; rfl
    | cons x l ih => intro c; rw [List.foldl_cons, List.foldl_cons, ih, keys_put]
  exact key l []
theorem cache_lk (i : Int) (b : List Int) (l : List (Int × List Int)) : lk i b (cacheOf l) = lastF i b l := by
  have key : ∀ (l c : List (Int × List Int)), lk i b (l.foldl (fun c x => putR x.1 x.2 c) c) = l.foldl (fun b x => if x.1 = i then x.2 else b) (lk i b c) := by
    intro l
    induction l with
    | nil => intro c; rfl
    | cons x l ih => intro c; rw [List.foldl_cons, List.foldl_cons, ih, lk_put]
  exact key l []
theorem cache_once (l : List (Int × List Int)) : Once (cacheOf l) := by
  have key : ∀ (l c : List (Int × List Int)), Once c → Once (l.foldl (fun c x => putR x.1 x.2 c) c) := by
    intro l
    induction l with
    | nil => intro c h; exact h
    | cons x l ih => intro c h; rw [List.foldl_cons]; exact ih _ (by rw [← put_R]; exact (put_ok h).1)
  exact key l [] trivial
theorem cache_mem (P : Int × List Int → Prop) (l : List (Int × List Int)) (hl : ∀ x ∈ l, P x) : ∀ x ∈ cacheOf l, P x := by
  have key : ∀ (l c : List (Int × List Int)), (∀ x ∈ l, P x) → Once c → (∀ x ∈ c, P x) → ∀ x ∈ l.foldl (fun c x => putR x.1 x.2 c) c, P x := by
    intro l
    induction l with
    | nil => intro c _ _ h; exact h
    | cons x l ih =>
      intro c hl ho h
      rw [List.foldl_cons]
      have hp := put_ok (i := x.1) (b := x.2) ho
      rw [put_R] at hp
      refine ih _ (fun y hy => hl y (List.mem_cons_of_mem _ hy)) hp.1 (fun y hy => ?_)
      rcases hp.2.2 y hy with e | e
      · rw [e]; exact hl x (List.mem_cons_self ..)
      · exact h y e
  exact key l [] hl trivial (fun x hx => by cases hx)
theorem lk_mem (b : List Int) : ∀ (c : List (Int × List Int)), Once c → ∀ x ∈ c, lk x.1 b c = x.2
  | [], _, x, hx => by cases hx
  | y :: c, h, x, hx => by
    rw [lk]
    rcases List.mem_cons.1 hx with rfl | hx
    · rw [if_pos rfl]
    · rw [if_neg (fun e => h.1 x hx e.symm)]
      exact lk_mem b c h.2 x hx
/-- What is for good behind a flush, sector by sector. -/
theorem over_log (i : Nat) : ∀ (l : List (Int × List Int)) (g : List (List Int)), (∀ x ∈ l, 0 ≤ x.1) → i < g.length → (over g l).getD i [] = lastF (i : Int) (g.getD i []) l
  | [], g, _, _ => rfl
  | x :: l, g, h, hi => by
    have h0 := h x (List.mem_cons_self ..)
    show (over (g.set x.1.toNat x.2) l).getD i [] = lastF (i : Int) (if x.1 = (i : Int) then x.2 else g.getD i []) l
    rw [over_log i l _ (fun y hy => h y (List.mem_cons_of_mem _ hy)) (by rw [List.length_set]; exact hi)]
    congr 1
    by_cases e : x.1 = (i : Int)
    · rw [if_pos e, e, Int.toNat_natCast, List.getD_eq_getElem?_getD, List.getElem?_set_self hi]; rfl
    · rw [if_neg e, List.getD_eq_getElem?_getD, List.getElem?_set_ne (by omega), ← List.getD_eq_getElem?_getD]
theorem over_same (g : List (List Int)) (l : List (Int × List Int)) (h : ∀ x ∈ l, 0 ≤ x.1) : over g (cacheOf l) = over g l := by
  refine List.ext_getElem (by rw [over_len, over_len]) (fun i h1 h2 => ?_)
  have hi : i < g.length := by rw [over_len] at h1; exact h1
  have e1 := over_get i (cacheOf l) g (cache_mem (fun x => 0 ≤ x.1) l h) (cache_once l) hi
  have e2 := over_log i l g h hi
  rw [lk_loc0, cache_lk, ← e2, List.getD_eq_getElem?_getD, List.getD_eq_getElem?_getD, List.getElem?_eq_getElem h1, List.getElem?_eq_getElem h2] at e1
  exact e1
theorem and1 (k : IntKind) (hk : k = .i64 ∨ k = .u64) (x : Int) : (Go.bits .and k x 1 == 1) = decide (x % 2 = 1) := by
  have key : (BitVec.ofInt 64 x &&& BitVec.ofInt 64 1).toNat = (x % 2).toNat := by
    rw [BitVec.toNat_and, BitVec.toNat_ofInt, BitVec.toNat_ofInt]
    show (x % 18446744073709551616).toNat &&& 1 = _
    rw [Nat.and_one_is_mod]
    omega
  rcases hk with rfl | rfl
  · have e : Go.bits .and .i64 x 1 = IntKind.i64.wrap (((BitVec.ofInt 64 x &&& BitVec.ofInt 64 1).toNat : Nat) : Int) := rfl
    rw [e, key, i64_w, Bool.eq_iff_iff, beq_iff_eq, decide_eq_true_eq]
    unfold wrap64
    omega
  · have e : Go.bits .and .u64 x 1 = IntKind.u64.wrap (((BitVec.ofInt 64 x &&& BitVec.ofInt 64 1).toNat : Nat) : Int) := rfl
    have e2 : ∀ n : Int, IntKind.u64.wrap n = n % 18446744073709551616 := fun n => by simp [IntKind.wrap, IntKind.bits, IntKind.signed]
    rw [e, key, e2, Bool.eq_iff_iff, beq_iff_eq, decide_eq_true_eq]
    omega
theorem mod_div (x : Int) (a b : Int) (ha : 0 < a) (hb : 0 < b) : (x % (a * b)) / a = x / a % b := by
  have h1 : x = a * b * (x / (a * b)) + x % (a * b) := (Int.mul_ediv_add_emod x (a * b)).symm
  have hab : 0 < a * b := Int.mul_pos ha hb
  have h2 : 0 ≤ x % (a * b) := Int.emod_nonneg _ (by omega)
  have h3 : x % (a * b) < a * b := Int.emod_lt_of_pos _ hab
  have h4 : x / a = x % (a * b) / a + b * (x / (a * b)) := by
    conv => lhs; rw [h1, Int.add_comm, Int.mul_assoc]
    exact Int.add_mul_ediv_left _ _ (by omega)
  rw [h4, Int.add_mul_emod_self_left]
  exact (Int.emod_eq_of_lt (Int.ediv_nonneg h2 (by omega)) (Int.ediv_lt_of_lt_mul ha (by rw [Int.mul_comm b a]; exact h3))).symm
theorem bit_same (keep : Int) (n : Nat) : rBit keep n = Bit keep n := by
  unfold rBit Bit
  by_cases h : (n : Int) < 62
  · rw [decide_eq_true h, Bool.true_and, Bool.true_and, and1 _ (.inr rfl), and1 _ (.inl rfl)]
    have e2 : IntKind.u64.wrap keep = keep % 18446744073709551616 := by simp [IntKind.wrap, IntKind.bits, IntKind.signed]
    have hn : n < 62 := by omega
    have e3 : (18446744073709551616 : Int) = 2 ^ n * (2 ^ (63 - n) * 2) := by
      rw [← Int.mul_assoc, ← Int.pow_add, show n + (63 - n) = 63 from by omega]; rfl
    rw [e2, e3, mod_div keep (2 ^ n) _ (Int.pow_pos (by decide)) (Int.mul_pos (Int.pow_pos (by decide)) (by decide))]
    congr 1
    rw [Int.emod_emod_of_dvd _ (Int.dvd_mul_left ..)]
  · rw [decide_eq_false h, Bool.false_and, Bool.false_and]
/-- The two disks are one. -/
structure Sim (s : St) (r : Rf) (n : Nat) : Prop where
  good : s.good = r.good
  g32 : ∀ b ∈ r.good, b.length = 32
  cache : s.cache = cacheOf r.log
  log : ∀ x ∈ r.log, (0 ≤ x.1 ∧ x.1 < (r.good.length : Nat)) ∧ x.2.length = 32
  len : r.log.length ≤ n
  fuse : s.fuse = mx r.fuse (-1)
  fmax : r.fuse ≤ 9223372036854775807
  size : r.good.length ≤ 1024
theorem sim_has {s : St} {r : Rf} {n : Nat} (h : Sim s r n) (i : Int) : has s i = rHas r i := by unfold has rHas; rw [h.good]
theorem sim_read {s : St} {r : Rf} {n : Nat} (h : Sim s r n) (i : Int) : readB s i = rReadB r i ∧ readE s i = rReadE r i := by
  unfold readB rReadB readE rReadE
  rw [sim_has h]
  refine ⟨?_, rfl⟩
  split
  · unfold nowAt rNow
    rw [lk_loc0, h.cache, cache_lk, h.good]
  · rfl
theorem sim_count {s : St} {r : Rf} {n : Nat} (h : Sim s r n) : s.cache.length = (orderF r.log).length := by
  rw [h.cache, ← cache_keys, List.length_map]
theorem sim_burn {s : St} {r : Rf} {n : Nat} (h : Sim s r n) : (Burn s).1 = (rBurn r).1 ∧ Sim (Burn s).2 (rBurn r).2 n := by
  have hf := h.fuse
  have hm := h.fmax
  unfold Burn rBurn
  by_cases h0 : r.fuse = 0
  · have : s.fuse = 0 := by rw [hf, h0]; rfl
    rw [if_pos h0, if_pos this]
    exact ⟨rfl, h⟩
  · have h0' : s.fuse ≠ 0 := by rw [hf]; unfold mx; omega
    rw [if_neg h0, if_neg h0']
    by_cases h1 : 0 < r.fuse
    · have h1' : 0 < s.fuse := by rw [hf]; unfold mx; omega
      rw [if_pos h1, if_pos h1']
      exact ⟨rfl, h.good, h.g32, h.cache, h.log, h.len, by show s.fuse - 1 = mx (r.fuse - 1) (-1); rw [hf]; unfold mx; omega, by show r.fuse - 1 ≤ _; omega, h.size⟩
    · have h1' : ¬ 0 < s.fuse := by rw [hf]; unfold mx; omega
      rw [if_neg h1, if_neg h1']
      exact ⟨rfl, h⟩
theorem Sim.more {s : St} {r : Rf} {n m : Nat} (h : Sim s r n) (hm : n ≤ m) : Sim s r m := ⟨h.good, h.g32, h.cache, h.log, Nat.le_trans h.len hm, h.fuse, h.fmax, h.size⟩
theorem sim_write {s : St} {r : Rf} {n : Nat} (h : Sim s r n) (i : Int) (b : List Int) : (Write s i b).1 = (rWrite r i b).1 ∧ Sim (Write s i b).2 (rWrite r i b).2 (n + 1) := by
  have hb := sim_burn h
  have e : (decide (0 ≤ i) && decide (i < (s.good.length : Nat))) = rHas r i := by unfold rHas; rw [h.good]
  have hs1 := burn_same s
  have hs2 := rburn_same r
  unfold Write rWrite
  by_cases hc : rHas r i = true
  · by_cases h32 : b.length = 32
    · have c1 : (rHas r i && decide (b.length = 32)) = true := by rw [hc, decide_eq_true h32]; rfl
      rw [if_pos c1, if_pos (by rw [e]; exact ⟨hc, h32⟩), hb.1]
      split
      · refine ⟨rfl, ?_⟩
        have hr : 0 ≤ i ∧ i < (r.good.length : Nat) := by
          unfold rHas at hc
          rw [Bool.and_eq_true, decide_eq_true_eq, decide_eq_true_eq] at hc
          exact hc
        refine ⟨hb.2.good, hb.2.g32, ?_, ?_, ?_, hb.2.fuse, hb.2.fmax, hb.2.size⟩
        · show put _ i b = cacheOf (r.log ++ [(i, b)])
          rw [cache_snoc, put_R, ← h.cache]
          try rw [hs1.2]
        · intro x hx
          show (0 ≤ x.1 ∧ x.1 < ((rBurn r).2.good.length : Nat)) ∧ _
          rw [hs2.1]
          rcases List.mem_append.1 hx with hx | hx
          · exact h.log x hx
          · rw [List.mem_singleton.1 hx]; exact ⟨hr, h32⟩
        · show (r.log ++ [(i, b)]).length ≤ n + 1
          have := h.len
          simp; omega
      · exact ⟨rfl, h.more (by omega)⟩
    · have c1 : ¬ (rHas r i && decide (b.length = 32)) = true := by rw [hc, decide_eq_false h32]; decide
      rw [if_neg c1, if_neg (fun q => h32 q.2)]
      exact ⟨rfl, h.more (by omega)⟩
  · have c1 : ¬ (rHas r i && decide (b.length = 32)) = true := fun q => hc (by rw [Bool.and_eq_true] at q; exact q.1)
    rw [if_neg c1, if_neg (fun q => hc (by rw [← e]; exact q.1))]
    exact ⟨rfl, h.more (by omega)⟩
theorem sim_flush {s : St} {r : Rf} {n : Nat} (h : Sim s r n) : (Flush s).1 = (rFlush r).1 ∧ Sim (Flush s).2 (rFlush r).2 (n + 1) := by
  have hb := sim_burn h
  have hs1 := burn_same s
  have hs2 := rburn_same r
  unfold Flush rFlush
  rw [hb.1]
  split
  · refine ⟨rfl, ?_⟩
    have e : over s.good s.cache = over r.good r.log := by rw [h.cache, h.good, over_same _ _ (fun x hx => (h.log x hx).1.1)]
    refine ⟨e, ?_, rfl, (fun x hx => by cases hx), by show 0 ≤ n + 1; omega, hb.2.fuse, hb.2.fmax, by show (over r.good r.log).length ≤ _; rw [over_len]; exact h.size⟩
    intro b hb'
    change b ∈ over r.good r.log at hb'
    obtain ⟨i, hi, rfl⟩ := List.mem_iff_getElem.1 hb'
    have hi' : i < r.good.length := by rw [over_len] at hi; exact hi
    have e1 := over_log i r.log r.good (fun x hx => (h.log x hx).1.1) hi'
    rw [List.getD_eq_getElem?_getD, List.getElem?_eq_getElem hi, List.getD_eq_getElem?_getD, List.getElem?_eq_getElem hi'] at e1
    rw [show (over r.good r.log)[i] = lastF (i : Int) r.good[i] r.log from e1]
    exact lastF_all (fun b => b.length = 32) _ _ _ (h.g32 _ (List.getElem_mem hi')) (fun x hx => (h.log x hx).2)
  · exact ⟨rfl, h.more (by omega)⟩
theorem crashed_same (keep torn cut : Int) (r : Rf) (hg : ∀ b ∈ r.good, b.length = 32) (hl : ∀ x ∈ r.log, (0 ≤ x.1 ∧ x.1 < (r.good.length : Nat)) ∧ x.2.length = 32) : ∀ n, n ≤ (orderF r.log).length → crashed keep torn cut r.good (cacheOf r.log) n = rCrashed keep torn cut r.log r.good (orderF r.log) n
  | 0, _ => rfl
  | n + 1, hn => by
    have ih := crashed_same keep torn cut r hg hl n (by omega)
    have hr : ∀ a ∈ orderF r.log, 0 ≤ a ∧ a < (r.good.length : Nat) := fun a ha => by
      obtain ⟨x, hx, rfl⟩ := order_mem r.log a ha
      exact (hl x hx).1
    have h32 := rCrashed_32 keep torn cut r.log r.good (orderF r.log) hg (fun x hx => (hl x hx).2) hr n (by omega)
    have hlen := rCrashed_len keep torn cut r.log r.good (orderF r.log) n
    have hk := cache_keys r.log
    have hnc : n < (cacheOf r.log).length := by have := congrArg List.length hk; rw [List.length_map] at this; omega
    show hit _ _ _ _ _ _ = rHit _ _ _ _ _ _ _
    rw [ih]
    obtain ⟨g, hgd⟩ : ∃ z, rCrashed keep torn cut r.log r.good (orderF r.log) n = z := ⟨_, rfl⟩
    rw [hgd] at h32 hlen ⊢
    rw [List.getD_eq_getElem?_getD, List.getElem?_eq_getElem hnc, List.getD_eq_getElem?_getD, List.getElem?_eq_getElem (by omega : n < (orderF r.log).length), Option.getD_some, Option.getD_some]
    have hx1 : (orderF r.log)[n] = ((cacheOf r.log)[n]).1 := by
      have := List.getElem_map (f := (·.1)) (l := cacheOf r.log) (i := n) (h := by rw [List.length_map]; exact hnc)
      rw [← this]
      congr 1
      exact hk.symm
    have hxm : (cacheOf r.log)[n] ∈ cacheOf r.log := List.getElem_mem hnc
    rw [hx1]
    generalize (cacheOf r.log)[n] = x at hxm ⊢
    have hxr := cache_mem (fun x => (0 ≤ x.1 ∧ x.1 < (r.good.length : Nat)) ∧ x.2.length = 32) r.log hl x hxm
    have hj : x.1.toNat < g.length := by omega
    have hv : ∀ b, lastF x.1 b r.log = x.2 := fun b => by rw [← cache_lk]; exact lk_mem b _ (cache_once _) x hxm
    unfold hit rHit
    rw [hv, List.getD_eq_getElem?_getD, List.getElem?_eq_getElem hj, Option.getD_some]
    have h1 := h32 _ (List.getElem_mem hj)
    by_cases ht : (n : Int) = torn
    · rw [if_pos ht, show rMany keep torn cut n = cut from by unfold rMany; rw [if_pos ht]]
    · rw [if_neg ht]
      by_cases hb : Bit keep n = true
      · rw [if_pos hb, show rMany keep torn cut n = 32 from by unfold rMany; rw [if_neg ht, bit_same, if_pos hb], show cutAt 32 = 32 from rfl]
        congr 1
        unfold mixed
        rw [List.take_of_length_le (by omega), List.drop_of_length_le (by omega), List.append_nil]
      · rw [if_neg hb, show rMany keep torn cut n = 0 from by unfold rMany; rw [if_neg ht, bit_same, if_neg hb], show cutAt 0 = 0 from rfl]
        unfold mixed
        rw [List.take_zero, List.drop_zero, List.nil_append, List.set_getElem_self]
theorem sim_crash {s : St} {r : Rf} {n : Nat} (h : Sim s r n) (keep torn cut : Int) : Sim (Crash s keep torn cut) (rCrash r keep torn cut) (n + 1) := by
  have hr : ∀ a ∈ orderF r.log, 0 ≤ a ∧ a < (r.good.length : Nat) := fun a ha => by
    obtain ⟨x, hx, rfl⟩ := order_mem r.log a ha
    exact (h.log x hx).1
  have e : crashed keep torn cut s.good s.cache s.cache.length = rCrashed keep torn cut r.log r.good (orderF r.log) (orderF r.log).length := by
    rw [sim_count h, h.good, h.cache]
    exact crashed_same keep torn cut r h.g32 h.log _ (Nat.le_refl _)
  refine ⟨e, ?_, rfl, (fun x hx => by cases hx), by show 0 ≤ n + 1; omega, rfl, by show (-1 : Int) ≤ _; decide, by show (rCrashed _ _ _ _ _ _ _).length ≤ _; rw [rCrashed_len]; exact h.size⟩
  exact rCrashed_32 keep torn cut r.log r.good _ h.g32 (fun x hx => (h.log x hx).2) hr _ (Nat.le_refl _)
theorem sim_fuse {s : St} {r : Rf} {n : Nat} (h : Sim s r n) (k : Int) (hk : k ≤ 9223372036854775807) : Sim { s with fuse := mx k (-1) } { r with fuse := k } (n + 1) :=
  ⟨h.good, h.g32, h.cache, h.log, Nat.le_trans h.len (by omega), rfl, hk, h.size⟩
theorem sim_new (n : Nat) (hn : n ≤ 1024) : Sim (fresh n) (rfresh n) 0 :=
  ⟨rfl, fun b hb => by rw [show b = List.replicate 32 0 from List.eq_of_mem_replicate hb]; rfl, rfl, (fun x hx => by cases hx), Nat.le_refl _, rfl, by show (-1 : Int) ≤ _; decide, by show (List.replicate n _).length ≤ _; rw [List.length_replicate]; exact hn⟩
end Go.Proofs.Ytmpiljfpgfhljaa.XRefD
