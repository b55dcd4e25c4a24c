import Derived.RangeFuncNested
import Derived.RangeFuncBound
import Derived.RangeFuncCalls
import Derived.RangeFuncLeaves
import Derived.RangeFuncBox
import Derived.Shelf.Abstract
import Derived.WalkKit
import Derived.OwnWalkIn
import Derived.TacticsInMore
import Derived.LoopNIn
import Derived.LoopIn
import Derived.Maps.AppendAt
import Derived.Sort.QuietIn
import Derived.Sort.BigQuietIn
import Derived.Test.YtglpelhbncdkmaaXSlices
import Derived.Test.YtglpelhbncdkmaaXCheck
namespace Go.Proofs.Ytglpelhbncdkmaa.XChunk
open Go.RowKit Go.Shelf Go.Proofs.YtglpelhbncdkmaaW.PrintWords Go.Proofs.YtglpelhbncdkmaaW.PrintLast Go.Proofs.YtglpelhbncdkmaaW.PrintMore
attribute [local go_sem] Oper.semAt_some
/-- What a round keeps: all below n₀, but for one block. -/
def KeepX (n₀ B : Nat) (W W' : World) : Prop := W.heap.size ≤ W'.heap.size ∧ ∀ k, k < n₀ → k ≠ B → W'.heap[k]? = W.heap[k]?
theorem KeepX.refl (n₀ B : Nat) (W : World) : KeepX n₀ B W W := ⟨Nat.le_refl _, fun _ _ _ => rfl⟩
theorem KeepX.trans {n₀ B : Nat} {W W1 W2 : World} (h : KeepX n₀ B W W1) (h' : KeepX n₀ B W1 W2) : KeepX n₀ B W W2 := ⟨Nat.le_trans h.1 h'.1, fun k hk hB => (h'.2 k hk hB).trans (h.2 k hk hB)⟩
theorem KeepX.cell {n₀ B : Nat} {W W' : World} (h : KeepX n₀ B W W') {p : Addr} (hp : p.block < n₀) (hB : p.block ≠ B) : W'.cell? p = W.cell? p := by simp [World.cell?, h.2 _ hp hB]
/-- A row of 24 bytes, out of the middle. -/
def piece (b j : Nat) : Array Value := #[.slice (some ⟨b, 24 * j, none⟩) 24 24]
theorem range_prefix {k m : Nat} (h : k ≤ m) : List.range k <+: List.range m := by
  have e : List.range k = (List.range m).take k := by rw [List.take_range, Nat.min_eq_left h]
  rw [e]; exact List.take_prefix _ _
set_option maxRecDepth 100000 in
set_option maxHeartbeats 2000000 in
theorem chunk1_in (n : Nat) (hn : 1 ≤ n) (l Bs Bn n₀ B b cap m : Nat) (hm : 24 * m ≤ cap) (hreach : cap ≤ 9223372036854775807) (hb : Bs < n₀ ∧ Bs ≠ B ∧ Bn < n₀ ∧ Bn ≠ B) (J Jx : List { j : Nat // j < m } → World → Prop)
    (hY : ∀ pre x W, J pre W → pre.length < m → YieldAt Fence.wide (n - 1) Try.prog l (piece b x.1) W fun e W' =>
      (e = .returned (.bool true) ∧ J (pre ++ [x]) W' ∧ KeepX n₀ B W W') ∨ (e = .returned (.bool false) ∧ Jx (pre ++ [x]) W'))
    (hJd : ∀ pre W q, J pre W → J pre (W.drewN q)) (W : World) (hBs : W.cell? ⟨Bs, 0, none⟩ = some (.slice (some ⟨b, 0, none⟩) (24 * m) cap)) (hBn : W.cell? ⟨Bn, 0, none⟩ = some (.int .i64 24)) (h0 : J [] W) :
    CallsIn Fence.wide n Try.prog 54 #[.func (.yield l) #[] #[], .pointer (some ⟨Bs, 0, none⟩), .pointer (some ⟨Bn, 0, none⟩)] W fun e W' => (∃ v, e = .returned v) ∧
      ((∃ ys, ys.map (·.1) = List.range m ∧ J ys W') ∨ (∃ pre, pre.map (·.1) <+: List.range m ∧ Jx pre W')) := by
  refine callsIn_of_wp Try.func54 rfl trivial ?_ rfl
  simp only [Try.ntmps54, List.size_toArray, List.length_cons, List.length_nil, Nat.reduceAdd, Nat.reduceSub, Array.replicate_succ, Array.replicate_zero, List.push_toArray, List.append_toArray, List.nil_append, List.cons_append]
  gi_wp2
  gi_loopw [4] (fun i wr => ∃ k : Nat, k ≤ m ∧ i = .int .i64 (24 * k : Nat) ∧ (∃ pre : List { j : Nat // j < m }, pre.map (·.1) = List.range k ∧ J pre wr) ∧ KeepX n₀ B W wr)
    (fun i _ => 24 * m - (intOf i).toNat)
  case atStart => exact ⟨0, Nat.zero_le _, rfl, ⟨[], rfl, h0⟩, KeepX.refl _ _ _⟩
  case round =>
    obtain ⟨k, hk, rfl, ⟨pre, hpre, hJs⟩, hnx⟩ := hrel
    have hs1 : wr.cell? ⟨Bs, 0, none⟩ = some (.slice (some ⟨b, 0, none⟩) (24 * m) cap) := (hnx.cell (p := ⟨Bs, 0, none⟩) hb.1 hb.2.1).trans hBs
    have hs2 : wr.cell? ⟨Bn, 0, none⟩ = some (.int .i64 24) := (hnx.cell (p := ⟨Bn, 0, none⟩) hb.2.2.1 hb.2.2.2).trans hBn
    by_cases hlt : k < m
    · have hlen : pre.length < m := by have := congrArg List.length hpre; rw [List.length_map, List.length_range] at this; omega
      have hsn : (pre ++ [(⟨k, hlt⟩ : { j : Nat // j < m })]).map (fun x => x.1) = List.range (k + 1) := by rw [List.map_append, hpre, List.range_succ]; rfl
      have hi : ((24 * k : Nat) : Int) < ((24 * m : Nat) : Int) := by omega
      have e2 : ¬ (((24 * (m - k) : Nat) : Int) < 24) := by omega
      have e4 : min (24 : Int) (24 * ((m - k : Nat) : Int)) = 24 := by omega
      have e3 : 24 * k ≤ cap := by omega
      have e1 : (24 * m - 24 * k : Nat) = 24 * (m - k) := by omega
      gi_wp2
      gi_big_quiet (fail)
      obtain ⟨fn, tmps, assign, body, hy, hR⟩ := hY _ ⟨k, hlt⟩ (wr.drewN nq) (hJd _ _ _ hJs) hlen
      unfold piece at hy
      dsimp only at hy
      gi_wp2
      refine hR.mono ?_
      rintro e W3 (⟨rfl, hJ3, hk3⟩ | ⟨rfl, hJx3⟩)
      · have hk4 : KeepX n₀ B wr W3 := hk3
        have hk5 := hnx.trans hk4
        have hs3 : W3.cell? ⟨Bn, 0, none⟩ = some (.int .i64 24) := (hk5.cell (p := ⟨Bn, 0, none⟩) hb.2.2.1 hb.2.2.2).trans hBn
        gi_wp2
        go_roundw
        case rel => exact ⟨k + 1, by omega, by go_num, ⟨_, hsn, hJ3⟩, hk5⟩
        case measure => simp [intOf]; omega
      · gi_wp2
        refine bodyPost_ret (results_none rfl _ _ _) rfl ?_
        exact ⟨⟨_, rfl⟩, .inr ⟨_, by rw [hsn]; exact range_prefix hlt, hJx3⟩⟩
    · obtain rfl : k = m := by omega
      gi_wp2
      go_end0
      exact ⟨⟨_, rfl⟩, .inl ⟨_, hpre, hJs⟩⟩

set_option maxHeartbeats 1000000 in
/-- slices.Chunk: what it is handed lies in two new boxes; they are what the function value captured. -/
theorem chunk_walk (A : Option Addr) (n c : Nat) (w : World) : Calls Try.prog 44 #[.slice A n c, .int .i64 24] w fun e w' => e = .returned (.func (.func 54) #[] #[.pointer (some ⟨w.heap.size, 0, none⟩), .pointer (some ⟨w.heap.size + 1, 0, none⟩)]) ∧ w' = (w.alloc (.cells #[.slice A n c] 23)).alloc (.cells #[.int .i64 24] 3) := by
  go_enter Try.func44, Try.ntmps44
  go_wp2
  go_ret
  exact ⟨rfl, rfl⟩
theorem chunk_stops (n : Nat) (hn : 1 ≤ n) (Bs Bn n₀ B b cap m : Nat) (hm : 24 * m ≤ cap) (hreach : cap ≤ 9223372036854775807) (hb : Bs < n₀ ∧ Bs ≠ B ∧ Bn < n₀ ∧ Bn ≠ B) (w : World) (hn₀ : n₀ ≤ w.heap.size)
    (hBs : w.cell? ⟨Bs, 0, none⟩ = some (.slice (some ⟨b, 0, none⟩) (24 * m) cap)) (hBn : w.cell? ⟨Bn, 0, none⟩ = some (.int .i64 24)) :
    SeqStopsK Fence.wide n Try.prog 54 #[.pointer (some ⟨Bs, 0, none⟩), .pointer (some ⟨Bn, 0, none⟩)] (fun x : { j : Nat // j < m } => piece b x.1) (KeepX n₀ B) (fun ys => ys.map (·.1) = List.range m) (fun pre => pre.map (·.1) <+: List.range m) m w := fun l J Jx W hW hJ _ hY h0 =>
  chunk1_in n hn l Bs Bn n₀ B b cap m hm hreach hb J Jx hY (fun pre W1 q h => hJ pre W1 _ none h ⟨rfl, rfl, rfl, Nat.le_refl _, fun _ _ _ => rfl⟩ (fun r e => by cases e)) W ((hW.cell (p := ⟨Bs, 0, none⟩) (Nat.lt_of_lt_of_le hb.1 hn₀)).trans hBs) ((hW.cell (p := ⟨Bn, 0, none⟩) (Nat.lt_of_lt_of_le hb.2.2.1 hn₀)).trans hBn) h0
theorem keepX_t {n₀ B : Nat} {W W1 W2 : World} (h : KeepX n₀ B W W1) (h' : KeepX n₀ B W1 W2) : KeepX n₀ B W W2 := h.trans h'
theorem keepX_b {n₀ B N : Nat} (hn : n₀ ≤ N) (W : World) (l : Nat) (o o' : Obj) (hl : N ≤ l) (_ : W.heap[l]? = some o) (_ : o.isCells = false) (_ : o.isWalk = false) : KeepX n₀ B W (W.putObj l o') :=
  ⟨by simp, fun k hk _ => World.putObj_heap_other (by omega)⟩
/-! ### what Pack packs -/
def be4 (n : Int) : List Int := [n / 16777216 % 256, n / 65536 % 256, n / 256 % 256, n % 256]
def be2 (n : Int) : List Int := [n / 256 % 256, n % 256]
def stampOf (a s : Int) : List Int := be4 a ++ be4 s
def sectors (n : Nat) : Nat := (n + 29) / 24
def sumOf (a s : Int) (l : List Int) : Int := XCheck.fr (XCheck.fr (XCheck.fr 4294967295 (stampOf a s)) (be2 (l.length : Nat))) l
def body (a s : Int) (l : List Int) : List Int := be2 (l.length : Nat) ++ (be4 (sumOf a s l) ++ l)
def filled (a s : Int) (l : List Int) : List Int := body a s l ++ List.replicate (24 * sectors l.length - (l.length + 6)) 0
def cuts (d m : List Int) (ks : List Nat) : List Int := ks.flatMap fun j => (d.drop (24 * j)).take 24 ++ m
def cut (d m : List Int) (k : Nat) : List Int := cuts d m (List.range k)
def packed (a s : Int) (l : List Int) : List Int := cut (filled a s l) (stampOf a s) (sectors l.length)
def frame_Pack.f (a0 a1 : Int) (l2 : List Int) : Option (List Int × Int) :=
  if 0 ≤ a0 ∧ a0 < 4294967296 ∧ 0 ≤ a1 ∧ a1 < 4294967296 then (if l2.length > 65535 then some ([], 2) else if l2.all (fun c => decide (0 ≤ c ∧ c < 256)) = true then some (packed a0 a1 l2, 0) else none) else some ([], 1)
theorem be4_len (n : Int) : (be4 n).length = 4 := rfl
theorem be2_len (n : Int) : (be2 n).length = 2 := rfl
theorem stamp_len (a s : Int) : (stampOf a s).length = 8 := rfl
theorem be4_range (n : Int) : ∀ c ∈ be4 n, 0 ≤ c ∧ c < 256 := by
  intro c hc; simp only [be4, List.mem_cons, List.not_mem_nil, or_false] at hc; rcases hc with rfl | rfl | rfl | rfl <;> omega
theorem be2_range (n : Int) : ∀ c ∈ be2 n, 0 ≤ c ∧ c < 256 := by
  intro c hc; simp only [be2, List.mem_cons, List.not_mem_nil, or_false] at hc; rcases hc with rfl | rfl <;> omega
theorem stamp_range (a s : Int) : ∀ c ∈ stampOf a s, 0 ≤ c ∧ c < 256 := by
  intro c hc; rcases List.mem_append.1 hc with h | h
  · exact be4_range _ c h
  · exact be4_range _ c h
theorem body_len (a s : Int) (l : List Int) : (body a s l).length = l.length + 6 := by simp only [body, List.length_append, be2_len, be4_len]; omega
theorem sectors_le (n : Nat) : n + 6 ≤ 24 * sectors n := by unfold sectors; omega
theorem filled_len (a s : Int) (l : List Int) : (filled a s l).length = 24 * sectors l.length := by
  have := sectors_le l.length
  simp only [filled, List.length_append, body_len, List.length_replicate]; omega
theorem cut_succ (d m : List Int) (k : Nat) : cut d m (k + 1) = cut d m k ++ (d.drop (24 * k)).take 24 ++ m := by
  unfold cut cuts; rw [List.range_succ, List.flatMap_append]; simp [List.append_assoc]
theorem cut_len (d m : List Int) (k : Nat) (h : 24 * k ≤ d.length) (hm : m.length = 8) : (cut d m k).length = 32 * k := by
  induction k with
  | zero => rfl
  | succ k ih =>
    rw [cut_succ, List.length_append, List.length_append, ih (by omega), List.length_take, List.length_drop, hm, Nat.min_eq_left (by omega)]; omega
theorem packed_len (a s : Int) (l : List Int) : (packed a s l).length = 32 * sectors l.length := cut_len _ _ _ (by rw [filled_len]; exact Nat.le_refl _) (stamp_len _ _)
theorem cuts_snoc (d m : List Int) (ks : List Nat) (k : Nat) : cuts d m (ks ++ [k]) = (cuts d m ks ++ (d.drop (24 * k)).take 24) ++ m := by
  unfold cuts; rw [List.flatMap_append]; simp [List.append_assoc]
theorem cuts_len (d m : List Int) (ks : List Nat) (h : ∀ k ∈ ks, 24 * (k + 1) ≤ d.length) (hm : m.length = 8) : (cuts d m ks).length = 32 * ks.length := by
  induction ks with
  | nil => rfl
  | cons k ks ih =>
    have e : cuts d m (k :: ks) = ((d.drop (24 * k)).take 24 ++ m) ++ cuts d m ks := rfl
    have := h k (List.mem_cons_self ..)
    rw [e, List.length_append, List.length_append, ih (fun j hj => h j (List.mem_cons_of_mem _ hj)), List.length_take, List.length_drop, hm, Nat.min_eq_left (by omega), List.length_cons]; omega
theorem From_f (s : Int) (l : List Int) (hs : 0 ≤ s ∧ s < 4294967296) (hl : ∀ c ∈ l, 0 ≤ c ∧ c < 256) : XCheck.check_From.f s l = some (XCheck.fr s l) := by
  unfold XCheck.check_From.f
  rw [if_pos]
  rw [Bool.and_eq_true, decide_eq_true_eq, List.all_eq_true]
  exact ⟨hs, fun c hc => decide_eq_true (hl c hc)⟩
theorem sum_range (s : Int) (l : List Int) (h : 0 ≤ s ∧ s < 4294967296) : 0 ≤ XCheck.fr s l ∧ XCheck.fr s l < 4294967296 := XCheck.fr_range s l h
end Go.Proofs.Ytglpelhbncdkmaa.XChunk
