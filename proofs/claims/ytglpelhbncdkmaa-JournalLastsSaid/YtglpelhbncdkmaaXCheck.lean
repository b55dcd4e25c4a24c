/-
  check.From by its walk: the table of 256 sums (made by a goto), and the loop over the bytes. The contracts of check.table and check.From, for every sum and all bytes.
-/
import Derived.Test.YtglpelhbncdkmaaProg
import Derived.Test.YtglpelhbncdkmaaWMore
import Derived.WalkKit
import Derived.KernelRfl
import Derived.WalkMore
import Derived.ScopeJumps
import Derived.Laws.Rows
import Derived.Laws.NewBlocks
import Derived.Great.Walk
import Derived.Deep.WholeRow
import Derived.Lib.SlBytesConst
import Derived.Laws.CopyOwn
import Derived.Lib.Hide
namespace Go.Proofs.Ytglpelhbncdkmaa.XCheck
open Go.RowKit Go.Proofs.YtglpelhbncdkmaaW.PrintWords Go.Proofs.YtglpelhbncdkmaaW.PrintLast Go.Proofs.YtglpelhbncdkmaaW.PrintMore
def st (s : Int) : Int := if s / 2147483648 = 1 then Go.bits .xor .u32 (s * 2 % 4294967296) 79764919 else s * 2 % 4294967296
def stN : Nat → Int → Int
  | 0, s => s
  | k + 1, s => stN k (st s)
def tabRow (n : Nat) : Array Value := ((List.range 256).map fun i => Value.int .u32 (if i < n then stN 8 (((i : Nat) : Int) * 16777216 % 4294967296) else 0)).toArray
def Z256 : Array Value := tabRow 0
theorem alloc_Z (P : Act) (w : World) (o : Oper) (ho : o.op = .alloc 82) : (execOp P.eval o).run Try.prog w = .ok (.value (.pointer (some ⟨w.heap.size, 0, none⟩))) (w.alloc (.cells Z256 82)) := by
  unfold execOp
  rw [ho]
  kernel_rfl
theorem stN_succ (k : Nat) (s : Int) : stN (k + 1) s = stN k (st s) := rfl
theorem st_yes {s : Int} (h : (s / 2147483648 == 1) = true) : st s = Go.bits .xor .u32 (s * 2 % 4294967296) 79764919 := if_pos (eq_of_beq h)
theorem st_no {s : Int} (h : (s / 2147483648 == 1) = false) : st s = s * 2 % 4294967296 := if_neg (ne_of_beq_false h)
theorem first_yes {n : Nat} (hn : n < 256) (h : ((n : Int) * 16777216 / 2147483648 == 1) = true) : stN 7 (Go.bits .xor .u32 ((n : Int) * 16777216 * 2 % 4294967296) 79764919) = stN 8 ((n : Int) * 16777216 % 4294967296) := by
  rw [show ((n : Int) * 16777216 % 4294967296) = (n : Int) * 16777216 by omega]
  rw [← st_yes h]
  exact (stN_succ 7 _).symm
theorem first_no {n : Nat} (hn : n < 256) (h : ((n : Int) * 16777216 / 2147483648 == 1) = false) : stN 7 ((n : Int) * 16777216 * 2 % 4294967296) = stN 8 ((n : Int) * 16777216 % 4294967296) := by
  rw [show ((n : Int) * 16777216 % 4294967296) = (n : Int) * 16777216 by omega]
  rw [← st_no h]
  exact (stN_succ 7 _).symm
theorem next_yes {k : Nat} {s r : Int} (hk : 1 ≤ k) (h : (s / 2147483648 == 1) = true) (hs : stN k s = r) : stN (k - 1) (Go.bits .xor .u32 (s * 2 % 4294967296) 79764919) = r := by
  obtain ⟨j, rfl⟩ : ∃ j, k = j + 1 := ⟨k - 1, by omega⟩
  rw [← hs, ← st_yes h, stN_succ, Nat.add_sub_cancel]
theorem next_no {k : Nat} {s r : Int} (hk : 1 ≤ k) (h : (s / 2147483648 == 1) = false) (hs : stN k s = r) : stN (k - 1) (s * 2 % 4294967296) = r := by
  obtain ⟨j, rfl⟩ : ∃ j, k = j + 1 := ⟨k - 1, by omega⟩
  rw [← hs, ← st_no h, stN_succ, Nat.add_sub_cancel]
theorem last_yes {k : Nat} {s r : Int} (h1 : 1 ≤ k) (h0 : (k : Int) ≤ 1) (h : (s / 2147483648 == 1) = true) (hs : stN k s = r) : Go.bits .xor .u32 (s * 2 % 4294967296) 79764919 = r := by
  obtain rfl : k = 1 := by omega
  exact next_yes (Nat.le_refl 1) h hs
theorem last_no {k : Nat} {s r : Int} (h1 : 1 ≤ k) (h0 : (k : Int) ≤ 1) (h : (s / 2147483648 == 1) = false) (hs : stN k s = r) : s * 2 % 4294967296 = r := by
  obtain rfl : k = 1 := by omega
  exact next_no (Nat.le_refl 1) h hs
theorem tabRow_get {n : Nat} (h : n < 256) : (tabRow n)[n]? = some (.int .u32 0) := by simp [tabRow, h]
theorem tabRow_size (n : Nat) : (tabRow n).size = 256 := by simp [tabRow]
theorem tabRow_one (n : Nat) : (tabRow n).all (·.oneCell') = true := by
  rw [Array.all_eq_true_iff_forall_mem]
  intro v hv
  simp [tabRow] at hv
  obtain ⟨i, _, rfl⟩ := hv
  rfl
theorem tabRow_set {n : Nat} (hn : n < 256) {v : Int} (hv : v = stN 8 ((n : Int) * 16777216 % 4294967296)) : (tabRow n).setIfInBounds n (.int .u32 v) = tabRow (n + 1) := by
  subst hv
  apply Array.ext_getElem?
  intro i
  rw [Array.getElem?_setIfInBounds]
  by_cases h : n = i
  · subst h
    rw [if_pos rfl, if_pos (by rw [tabRow_size]; exact hn)]
    simp [tabRow, hn]
  · rw [if_neg h]
    by_cases hi : i < 256
    · have e : (i < n + 1) = (i < n) := by apply propext; omega
      simp [tabRow, hi, e]
    · simp [tabRow, hi]
theorem size_tab : (Try.prog.info? 82).map (·.size) = some (tabRow 256).size := by rw [tabRow_size]; kernel_rfl
attribute [local irreducible] st stN
set_option maxHeartbeats 400000 in
set_option maxRecDepth 100000 in
theorem table_walk (w : World) : Calls Try.prog 52 #[] w fun e w' => e = .returned (.agg (tabRow 256)) ∧ Below w.heap.size w w' := by
  go_enter Try.func52, Try.ntmps52
  go_wp2_with (refine Go.Great.wpList_allocTo rfl _ rfl _ _ (alloc_Z _ _ _ rfl) ?_)
  go_loopw [6] (fun v6 wr => ∃ n : Nat, n ≤ 256 ∧ v6 = .int .i64 n ∧ wr = (w.alloc (.cells Z256 82)).alloc (.cells (tabRow n) 82)) (fun v6 _ => 256 - (intOf v6).toNat)
  case atStart => exact ⟨0, by omega, rfl, rfl⟩
  case round =>
    obtain ⟨n, hn, rfl, rfl⟩ := hrel
    by_cases hlt : n < 256
    · go_wp2
      refine wp_scope_jumps 0 (fun a' w' => w' = (w.alloc (.cells Z256 82)).alloc (.cells (tabRow n) 82) ∧ ∃ (k : Nat) (s : Int) (u5 u7 u8 u9 u10 u11 u12 u13 u14 u15 u16 u17 u18 u19 u20 u21 u22 u23 u24 u25 u26 u27 : Value), a' = { tmps := #[.pointer (some ⟨w.heap.size, 0, none⟩), .pointer (some ⟨w.heap.size + 1, 0, none⟩), .int .i64 n, .int .u32 s, .int .i64 k, u5, .int .i64 n, u7, u8, u9, u10, u11, u12, u13, u14, u15, u16, u17, u18, u19, u20, u21, u22, u23, u24, u25, u26, u27, undef], defers := [] } ∧ 1 ≤ k ∧ k ≤ 7 ∧ stN k s = stN 8 ((n : Int) * 16777216 % 4294967296)) (fun a' _ => (intOf (a'.tmps.getD 4 undef)).toNat) rfl ?_ ?_
      · go_wp2
        go_step3
        go_wp2
        all_goals
          go_step3
          refine ⟨rfl, rfl, 7, _, _, _, _, _, _, _, _, _, _, _, _, _, _, _, _, _, _, _, _, _, _, _, rfl, by omega, by omega, ?_⟩
          first | exact first_yes hlt (by assumption) | exact first_no hlt (by assumption)
      · rintro a' w' ⟨rfl, k, s, u5, u7, u8, u9, u10, u11, u12, u13, u14, u15, u16, u17, u18, u19, u20, u21, u22, u23, u24, u25, u26, u27, rfl, hk1, hk2, hs⟩
        have hcell := tabRow_get hlt
        have HS := Lib.hid hs
        clear hs
        go_wp2
        all_goals first
          | (go_step3
             rw [show ((k : Int) - 1) = ((k - 1 : Nat) : Int) by omega]
             refine ⟨rfl, ⟨rfl, k - 1, _, _, _, _, _, _, _, _, _, _, _, _, _, _, _, _, _, _, _, _, _, _, _, rfl, by omega, by omega, ?_⟩, by simp [intOf]; omega⟩
             first | exact next_yes hk1 (by assumption) HS.out | exact next_no hk1 (by assumption) HS.out)
          | skip
        all_goals simp only [Exit.jump]
        all_goals go_wp2
        all_goals refine ⟨⟨n + 1, by omega, by go_num, ?_⟩, by simp [intOf]; omega⟩
        all_goals
          congr 2
          refine tabRow_set hlt ?_
          first | exact last_yes hk1 (by assumption) (by assumption) HS.out | exact last_no hk1 (by assumption) (by assumption) HS.out
    · obtain rfl : n = 256 := by omega
      go_wp2_with (first
        | (refine wpList_load_row rfl 82 _ rfl (w.heap.size + 1) rfl 82 (tabRow 256) (0, 0) _ (heap_alloc2_new w _ _) Try.underlying82 rfl size_tab ?_)
        | (refine wpList_store_row rfl 82 _ _ rfl w.heap.size (tabRow 256) rfl rfl 82 Z256 (heap_alloc2_old w _ _) size_tab rfl (tabRow_one 256) ?_))
      refine bodyPost_ret (v := .agg (tabRow 256)) (results_cell_row rfl _ _ w.heap.size 82 (tabRow 256) (0, 0) _ rfl (setRow_heap _ _ _ _ _ _ (heap_alloc2_old w _ _)) Try.underlying82 rfl size_tab) rfl ⟨rfl, ?_⟩
      exact below_setRow (((Below.refl _ _).alloc (Nat.le_refl _) _).alloc (by simp) _) (Nat.le_refl _) _
def tab (i : Int) : Int := stN 8 (i * 16777216 % 4294967296)
def ix (s c : Int) : Int := Go.bits .xor .u8 (s / 16777216) c
def fr1 (s c : Int) : Int := Go.bits .xor .u32 (s * 256 % 4294967296) (tab (ix s c))
def fr (s : Int) (l : List Int) : Int := l.foldl fr1 s
def check_From.f (a0 : Int) (l1 : List Int) : Option Int := if (decide (0 ≤ a0 ∧ a0 < 4294967296) && l1.all (fun c => decide (0 ≤ c ∧ c < 256))) = true then some (fr a0 l1) else none
theorem bits_range (op : BinOp) (k : IntKind) (x y : Int) (hk : k.signed = false) : 0 ≤ Go.bits op k x y ∧ Go.bits op k x y < 2 ^ k.bits := by
  unfold Go.bits IntKind.wrap
  simp only [hk, Bool.false_and, Bool.false_eq_true, if_false]
  exact ⟨Int.emod_nonneg _ (by have := Int.pow_pos (n := (2 : Int)) (m := k.bits) (by decide); omega), Int.emod_lt_of_pos _ (Int.pow_pos (by decide))⟩
theorem ix_range (s c : Int) : 0 ≤ ix s c ∧ ix s c < 256 := bits_range .xor .u8 _ _ rfl
theorem fr1_range (s c : Int) : 0 ≤ fr1 s c ∧ fr1 s c < 4294967296 := bits_range .xor .u32 _ _ rfl
theorem fr_range (s : Int) (l : List Int) (h : 0 ≤ s ∧ s < 4294967296) : 0 ≤ fr s l ∧ fr s l < 4294967296 := by
  induction l generalizing s with
  | nil => exact h
  | cons c l ih => exact ih (fr1 s c) (fr1_range s c)
theorem tab_cell {i : Int} (h0 : 0 ≤ i) (h1 : i < 256) : (tabRow 256)[i.toNat]? = some (.int .u32 (tab i)) := by
  have h2 : i.toNat < 256 := by omega
  have h3 : ((i.toNat : Nat) : Int) = i := by omega
  simp [tabRow, h2, tab, h3]
theorem fr_snoc (s : Int) (l : List Int) (i : Nat) (h : i < l.length) : fr s (l.take (i + 1)) = fr1 (fr s (l.take i)) l[i] := by
  unfold fr
  rw [List.take_succ_eq_append_getElem h, List.foldl_append]
  rfl
theorem fr_nil (s : Int) : fr s [] = s := rfl
theorem ix_eq (s c : Int) : ix s c = Go.bits .xor .u8 (s / 16777216) c := rfl
theorem fr1_eq (s c : Int) : fr1 s c = Go.bits .xor .u32 (s * 256 % 4294967296) (tab (ix s c)) := rfl
attribute [local irreducible] tab ix fr1 fr
set_option maxHeartbeats 800000 in
set_option maxRecDepth 100000 in
theorem check_From.calls (a0 : Int) (A1 : Option Addr) (c1 : Nat) (l1 : List Int) (r : Int) (w : World) (hr1 : Kd.C (Kd.int .u8) w A1 l1.length l1) (hc1 : l1.length ≤ c1) (h : check_From.f a0 l1 = some r) :
    Calls Try.prog 41 #[.int .u32 a0, .slice A1 l1.length c1] w fun e w' => e = .returned (.int .u32 r) ∧ Below w.heap.size w w' := by
  unfold check_From.f at h
  split at h
  rotate_left
  · cases h
  next hc =>
  injection h with h
  subst h
  rw [Bool.and_eq_true, decide_eq_true_eq, List.all_eq_true] at hc
  obtain ⟨⟨hs0, hs1⟩, hb⟩ := hc
  have hm := hr1.2.1
  by_cases hz : l1 = []
  · subst hz
    go_enter Try.func41, Try.ntmps41
    go_wp2
    go_ret
    exact ⟨by rw [fr_nil]; rfl, Below.refl _ _⟩
  · have hlen : 0 < l1.length := List.length_pos_iff.2 hz
    have hz1 : ((l1.length : Int) == 0) = false := by simp; omega
    go_enter Try.func41, Try.ntmps41
    go_wp2_with (first
      | (go_at_call 52; refine (table_walk _).mono ?_; rintro e w1 ⟨rfl, hbelow⟩)
      | (refine Go.Great.wpList_allocTo rfl _ rfl _ _ (alloc_Z _ _ _ rfl) ?_)
      | (refine wpList_store_row rfl 82 _ _ rfl _ (tabRow 256) rfl rfl 82 Z256 (heap_alloc_last _ _) size_tab rfl (tabRow_one 256) ?_; rw [World.setRow_alloc_new]))
    have hr2 : Kd.C (Kd.int .u8) (w1.alloc (.cells (tabRow 256) 82)) A1 l1.length l1 := Kd.C_below hr1 (hbelow.alloc hbelow.size _)
    go_loop [0, 15] (fun v0 v15 => ∃ i : Nat, i ≤ l1.length ∧ v15 = .int .i64 i ∧ v0 = .int .u32 (fr a0 (l1.take i))) (fun _ v15 => l1.length - (intOf v15).toNat)
    case atStart => exact ⟨0, Nat.zero_le _, rfl, by rw [List.take_zero, fr_nil]⟩
    case round =>
      obtain ⟨i, hi, rfl, rfl⟩ := hrel
      by_cases hlt : i < l1.length
      · obtain ⟨ad, rfl, hcell⟩ := Kd.at_int hr2 (i : Int) (by omega) (by omega)
        rw [Int.toNat_natCast, show rd l1 (i : Int) = l1[i] from by unfold rd; rw [Int.toNat_natCast, List.getD_eq_getElem?_getD, List.getElem?_eq_getElem hlt]; rfl] at hcell
        have hcb := of_decide_eq_true (hb l1[i] (List.getElem_mem _))
        obtain ⟨hs2, hs3⟩ := fr_range a0 (l1.take i) ⟨hs0, hs1⟩
        obtain ⟨hx0, hx1⟩ := ix_range (fr a0 (l1.take i)) l1[i]
        have hx := ix_eq (fr a0 (l1.take i)) l1[i]
        have hf := fr_snoc a0 l1 i hlt
        have hf1 := fr1_eq (fr a0 (l1.take i)) l1[i]
        have ht := tab_cell hx0 hx1
        generalize fr a0 (l1.take i) = s at *
        generalize l1[i] = c at *
        generalize ix s c = x at *
        obtain ⟨hc0, hc1'⟩ := hcb
        have HF := Lib.hid (hf.trans hf1)
        clear hf hf1 hb
        replace hx := hx.symm
        obtain ⟨xn, rfl⟩ := Int.eq_ofNat_of_zero_le hx0
        rw [Int.toNat_natCast] at ht
        go_wp2
        exact ⟨⟨i + 1, by omega, by go_num, by rw [HF.out]⟩, by simp [intOf]; omega⟩
      · have hi2 : i = l1.length := by omega
        subst hi2
        go_wp2
        go_ret
        exact ⟨rfl, hbelow.alloc hbelow.size _⟩
/-- Bytes of a constant, as a row that is read. -/
theorem C_of_marked (w : World) (xs : List Int) (e a b : Nat) (hx : xs.length ≤ 9223372036854775807) : Kd.C (Kd.int .u8) (w.alloc (.cells (xs.map (Value.int .u8)).toArray e (a, b))) (some ⟨w.heap.size, 0, none⟩) xs.length xs := by
  refine ⟨rfl, hx, fun _ => ⟨_, rfl, fun j p hp => ⟨[.int .u8 p], rfl, rfl, fun i u hu => ?_⟩⟩⟩
  have hi : i = 0 := by
    have := (List.getElem?_eq_some_iff.1 hu).1
    simp at this
    exact this
  subst hi
  simp at hu
  subst hu
  have hadd : (⟨w.heap.size, 0, none⟩ : Addr).add (j * 1 + 0) = ⟨w.heap.size, j, none⟩ := by unfold Addr.add; split <;> simp_all
  show (w.alloc _).cell? ((⟨w.heap.size, 0, none⟩ : Addr).add (j * 1 + 0)) = _
  rw [hadd, cell_of_row _ _ j _ _ _ (heap_alloc_last w _)]
  simp [hp]
end Go.Proofs.Ytglpelhbncdkmaa.XCheck
