/-
  PoolTakes: pool.Take, Count and All answer as the document says, for every mask and every number.
-/
import Derived.Test.YtpppicehpadcbaaPoolBits
import Derived.Test.YtpppicehpadcbaaQPoolTakesx2
namespace Go.Proofs.Ytpppicehpadcbaa.Pure
open Go.RowKit Go.Proofs.Ytpppicehpadcbaa.QPoolTakes Go.Proofs.Ytpppicehpadcbaa.PoolBits Go.Proofs.YtpppicehpadcbaaW.PrintWords Go.Proofs.YtpppicehpadcbaaW.PrintLast

theorem ones (m : Nat) (hm : m < 4294967296) : bits_OnesCount32.f (m : Int) = some ((pc 32 m : Nat) : Int) := ones_sum m hm
theorem count_f (a : Int) : pool_Count.f a = some ((pc 32 (a % 4294967296).toNat : Nat) : Int) := by
  have e : a % 4294967296 = (((a % 4294967296).toNat : Nat) : Int) := by omega
  unfold pool_Count.f
  rw [e, ones _ (by omega), Int.toNat_natCast]
  rfl
theorem count_nat (m : Nat) (hm : m < 4294967296) : pool_Count.f (m : Int) = some ((pc 32 m : Nat) : Int) := by
  rw [count_f, show ((m : Int) % 4294967296).toNat = m by omega]
theorem take_loop (m n : Nat) (hm : m < 4294967296) (hn : n ≤ pc 32 m) (d : Nat) : ∀ (k i : Nat), i + d = n → d < k →
    pool_Take.l0 k ((m - tk 32 m i : Nat) : Int) ((tk 32 m i : Nat) : Int) (n : Int) (i : Int) = some (((tk 32 m n : Nat) : Int), true) := by
  have hp := pc_le 32 m
  induction d with
  | zero =>
    intro k i hi hk
    obtain ⟨k, rfl⟩ : ∃ z, k = z + 1 := ⟨k - 1, by omega⟩
    obtain rfl : i = n := by omega
    simp only [pool_Take.l0]
    rw [if_neg (by omega)]
    have := tk_lt32 m i hm
    rw [show wrap64 ((tk 32 m i : Nat) : Int) = ((tk 32 m i : Nat) : Int) by unfold wrap64; omega]
  | succ d ih =>
    intro k i hi hk
    obtain ⟨k, rfl⟩ : ∃ z, k = z + 1 := ⟨k - 1, by omega⟩
    simp only [pool_Take.l0]
    rw [if_pos (by omega)]
    have hlt := tk_lt32 m i hm
    have hle := tk_le 32 m i
    have hr := pc_rest 32 m i (by omega)
    have h0 : m - tk 32 m i ≠ 0 := by
      intro h; rw [h, pc_zero] at hr; omega
    have hs := tk_succ 32 m i hm (by omega)
    have hb := lb_le 32 (m - tk 32 m i) (lt32 (by omega))
    have ho := lor_lb 32 m i hm
    have hx := lxor_lb 32 (m - tk 32 m i) (lt32 (by omega))
    rw [low32 _ h0 (by omega), xor32 _ _ (by omega) (by omega), or32 _ _ (by omega) (by omega), hx, ho, ← hs]
    rw [show wrap64 ((i : Int) + 1) = ((i + 1 : Nat) : Int) by unfold wrap64; omega]
    rw [show m - tk 32 m i - lb 32 (m - tk 32 m i) = m - tk 32 m (i + 1) by omega]
    exact ih k (i + 1) (by omega) (by omega)
theorem take_yes (k : Nat) (hk : 40 ≤ k) (free : Int) (m n : Nat) (hm : (free % 4294967296) = (m : Int)) (hn : n ≤ pc 32 m) :
    pool_Take.f k free (n : Int) = some (((tk 32 m n : Nat) : Int), true) := by
  have hp := pc_le 32 m
  obtain ⟨k, rfl⟩ : ∃ z, k = z + 1 := ⟨k - 1, by omega⟩
  unfold pool_Take.f
  rw [if_neg (by omega), count_f, hm, Int.toNat_natCast]
  simp only [Option.bind_some, pool_Take.j0]
  rw [if_neg (by simp; omega), hm]
  have := take_loop m n (by omega) hn n k 0 (by omega) (by omega)
  rw [tk_zero] at this
  exact this
theorem take_no (k : Nat) (hk : 40 ≤ k) (free n : Int) (m : Nat) (hm : (free % 4294967296) = (m : Int)) (hn : n < 0 ∨ ((pc 32 m : Nat) : Int) < n) :
    pool_Take.f k free n = some (0, false) := by
  obtain ⟨k, rfl⟩ : ∃ z, k = z + 1 := ⟨k - 1, by omega⟩
  unfold pool_Take.f
  by_cases h0 : n < 0
  · rw [if_pos h0]; rfl
  · rw [if_neg h0, count_f, hm, Int.toNat_natCast]
    simp only [Option.bind_some, pool_Take.j0]
    rw [if_pos (by simp; omega)]
theorem awake_f (k : Nat) (hk : 40 ≤ k) : prebendlaw14_awake.f k = some true := by
  have h1 := take_yes k hk 13 13 2 (by omega) (by decide)
  have h2 := take_no k hk 13 4 13 (by omega) (by right; decide)
  have e2 : tk 32 13 2 = 5 := by decide
  have e3 : pc 32 13 = 3 := by decide
  have h3 := count_nat 13 (by omega)
  have a1 : pool_All.f 3 = some 7 := by decide +kernel
  have a2 : pool_All.f 99 = some 4294967295 := by decide +kernel
  rw [e2] at h1
  rw [e3] at h3
  unfold prebendlaw14_awake.f
  rw [show (2 : Int) = ((2 : Nat) : Int) from rfl, h1, h2, a1]
  simp only [Option.bind_some]
  rw [show (13 : Int) = ((13 : Nat) : Int) from rfl, h3, a2]
  rfl

theorem dec64 (n T : Nat) (hn : n < 9223372036854775808) (h : T < n) : wrap64 (((n - T : Nat) : Int) - 1) = ((n - (T + 1) : Nat) : Int) := by unfold wrap64; omega
theorem inc64 (T : Nat) (h : T ≤ 32) : wrap64 ((T : Int) + 1) = ((T + 1 : Nat) : Int) := by unfold wrap64; omega
theorem add64 (T E : Nat) (h : T < 4294967296) (h2 : E < 4294967296) : wrap64 ((T : Int) + (E : Int)) = ((T + E : Nat) : Int) := by unfold wrap64; omega
theorem le_two (T b n : Nat) (h : ¬ n ≤ T) (h1 : b = 1) : T + b ≤ n := by omega
theorem le_two' (T b n : Nat) (h : ¬ n ≤ T) (h1 : b = 0) : T + b ≤ n := by omega
theorem i64_of (a : Int) (h : (Lit.int .i64 a).wf = true) : -9223372036854775808 ≤ a ∧ a < 9223372036854775808 := by
  simp only [Lit.wf, IntKind.min, IntKind.max, IntKind.signed, IntKind.bits, Bool.and_eq_true] at h
  simp at h
  omega
theorem tk_top (k m n : Nat) : tk (k + 1) m n = tk k m n + (if m / 2 ^ k % 2 = 1 ∧ pc k m < n then 2 ^ k else 0) := by
  induction k generalizing m n with
  | zero =>
    simp only [tk, pc, Nat.pow_zero, Nat.div_one]
    by_cases hn : n = 0
    · subst hn; simp
    · rw [if_neg hn]
      by_cases h : m % 2 = 1
      · rw [if_pos h, if_pos ⟨h, by omega⟩]
      · rw [if_neg h, if_neg (by omega)]
  | succ k ih =>
    by_cases hn : n = 0
    · subst hn; rw [tk_zero, tk_zero]; simp
    rw [tk]
    by_cases hn : n = 0
    · exact absurd hn (by assumption)
    · rw [if_neg hn]
      have e : m / 2 ^ (k + 1) = m / 2 / 2 ^ k := by rw [Nat.div_div_eq_div_mul, Nat.pow_succ, Nat.mul_comm]
      rw [e, Nat.pow_succ]
      rw [show pc (k + 1) m = m % 2 + pc k (m / 2) from rfl]
      rw [ih (m / 2) (n - 1), ih (m / 2) n]
      rw [show tk (k + 1) m n = if n = 0 then 0 else if m % 2 = 1 then 1 + 2 * tk k (m / 2) (n - 1) else 2 * tk k (m / 2) n from rfl, if_neg hn]
      by_cases h : m % 2 = 1
      · rw [if_pos h, if_pos h]
        by_cases h2 : m / 2 / 2 ^ k % 2 = 1 ∧ pc k (m / 2) < n - 1
        · rw [if_pos h2, if_pos ⟨h2.1, by omega⟩]; omega
        · rw [if_neg h2, if_neg (fun h3 => h2 ⟨h3.1, by omega⟩)]; omega
      · rw [if_neg h, if_neg h]
        by_cases h2 : m / 2 / 2 ^ k % 2 = 1 ∧ pc k (m / 2) < n
        · rw [if_pos h2, if_pos ⟨h2.1, by omega⟩]; omega
        · rw [if_neg h2, if_neg (fun h3 => h2 ⟨h3.1, by omega⟩)]; omega
theorem pc_top (k m : Nat) : pc (k + 1) m = pc k m + m / 2 ^ k % 2 := by
  rw [pc_add k 1 m]; simp [pc]
theorem tk_stop (k d m n : Nat) (h : n ≤ pc k m) : tk (k + d) m n = tk k m n := by
  induction d with
  | zero => rfl
  | succ d ih =>
    rw [← Nat.add_assoc, tk_top, ih, if_neg, Nat.add_zero]
    intro h2
    have := pc_add k d m
    omega
theorem tk_bound (k m n : Nat) : tk k m n < 2 ^ k := by
  induction k with
  | zero => simp [tk]
  | succ k ih => rw [tk_top, Nat.pow_succ]; split <;> omega
theorem bit_of (a : Int) (m k : Nat) (hm : a % 4294967296 = (m : Int)) (hk : k < 32) : (a / 2 ^ k) % 2 = ((m / 2 ^ k % 2 : Nat) : Int) := by
  have e1 : a = (m : Int) + 2 ^ k * (2 ^ (31 - k) * 2 * (a / 4294967296)) := by
    have h2 : (2 : Int) ^ k * (2 ^ (31 - k) * 2 * (a / 4294967296)) = 4294967296 * (a / 4294967296) := by
      rw [← Int.mul_assoc, ← Int.mul_assoc, ← Int.pow_add, show k + (31 - k) = 31 by omega]
      rfl
    rw [h2]; omega
  have hp : (2 : Int) ^ k ≠ 0 := Int.ne_of_gt (Int.pow_pos (by decide))
  have e2 : a / 2 ^ k = (m : Int) / 2 ^ k + 2 ^ (31 - k) * 2 * (a / 4294967296) := by
    conv => lhs; rw [e1]
    rw [Int.add_mul_ediv_left _ _ hp]
  have e3 : (2 : Int) ^ (31 - k) * 2 * (a / 4294967296) = 2 * (2 ^ (31 - k) * (a / 4294967296)) := by
    rw [Int.mul_comm (2 ^ (31 - k)) 2, Int.mul_assoc]
  have e4 : ((m / 2 ^ k : Nat) : Int) = (m : Int) / 2 ^ k := by simp
  rw [e2, e3]
  generalize (2 : Int) ^ (31 - k) * (a / 4294967296) = z
  omega
theorem and_one (z : Int) : Go.bits .and .i64 z 1 = z % 2 := by
  show IntKind.i64.wrap (((BitVec.ofInt 64 z &&& BitVec.ofInt 64 1).toNat : Nat) : Int) = _
  have h1 : BitVec.ofInt 64 1 = 1#64 := rfl
  rw [h1, BitVec.toNat_and, BitVec.toNat_ofInt, show (1#64).toNat = 1 from rfl, Nat.and_one_is_mod, IntKind.wrap_i64]
  omega
theorem has_f (a : Int) (m k : Nat) (hm : a % 4294967296 = (m : Int)) (hk : k < 32) : prebendref14_Has.f a (k : Int) = some (decide (m / 2 ^ k % 2 = 1)) := by
  have hw : IntKind.u64.wrap (k : Int) = (k : Int) := by simp [IntKind.wrap, IntKind.bits, IntKind.signed]; omega
  unfold prebendref14_Has.f
  rw [hw, if_pos (by omega), and_one]
  have hs : shr .i64 a (k : Int) = a / 2 ^ k := by
    unfold shr
    rw [Int.toNat_natCast, Nat.min_eq_left (by show k ≤ 64; omega)]
  rw [hs, bit_of a m k hm hk]
  congr 1
  by_cases h : m / 2 ^ k % 2 = 1
  · rw [h]; rfl
  · rw [show m / 2 ^ k % 2 = 0 by omega]; rfl
theorem shl_f (k : Nat) (hk : k < 32) : shl .i64 1 (IntKind.u64.wrap (k : Int)) = ((2 ^ k : Nat) : Int) ∧ 0 ≤ IntKind.u64.wrap (k : Int) := by
  have hw : IntKind.u64.wrap (k : Int) = (k : Int) := by simp [IntKind.wrap, IntKind.bits, IntKind.signed]; omega
  rw [hw]
  refine ⟨?_, by omega⟩
  unfold shl
  rw [Int.toNat_natCast, Nat.min_eq_left (by show k ≤ 64; omega), IntKind.wrap_i64]
  have h1 : 2 ^ k < 2 ^ 32 := Nat.pow_lt_pow_right (by decide) hk
  have h2 : ((2 ^ k : Nat) : Int) = 2 ^ k := by simp
  rw [← h2]
  generalize 2 ^ k = E at *
  omega
theorem pow_lt32 (k : Nat) (hk : k < 32) : 2 ^ k < 4294967296 := Nat.pow_lt_pow_right (a := 2) (by decide) hk
theorem pow_le32 (k : Nat) (hk : k ≤ 32) : 2 ^ k ≤ 4294967296 := Nat.pow_le_pow_right (n := 2) (by decide) hk
theorem reftake_loop (a : Int) (m n : Nat) (hn : n < 9223372036854775808) (hm : a % 4294967296 = (m : Int)) (d : Nat) : ∀ (f k : Nat), k + d = 32 → 2 * d + 2 ≤ f → pc k m ≤ n →
    prebendref14_Take.l0 f a ((tk k m n : Nat) : Int) ((n - pc k m : Nat) : Int) (k : Int) = some (if n ≤ pc 32 m then (((tk 32 m n : Nat) : Int), true) else (0, false)) := by
  induction d with
  | zero =>
    intro f k hk hf hle
    obtain ⟨f, rfl⟩ : ∃ z, f = z + 2 := ⟨f - 2, by omega⟩
    obtain rfl : k = 32 := by omega
    simp only [prebendref14_Take.l0]
    rw [if_neg (by omega)]
    simp only [prebendref14_Take.j1]
    rw [if_neg (by decide)]
    by_cases h : n ≤ pc 32 m
    · rw [if_pos (by omega), if_pos h]
    · rw [if_neg (by omega), if_neg h]
  | succ d ih =>
    intro f k hk hf hle
    obtain ⟨f, rfl⟩ : ∃ z, f = z + 2 := ⟨f - 2, by omega⟩
    have a1 : k + 1 + d = 32 := by omega
    have a2 : 2 * d + 2 ≤ f := by omega
    have a3 : k < 32 := by omega
    simp only [prebendref14_Take.l0]
    rw [if_pos (by omega)]
    simp only [prebendref14_Take.j1]
    by_cases h0 : n ≤ pc k m
    · rw [if_neg (by simp; omega), if_pos (by omega)]
      have h3 := pc_add k (32 - k) m
      rw [show k + (32 - k) = 32 by omega] at h3
      rw [if_pos (by omega)]
      have h4 := tk_stop k (32 - k) m n h0
      rw [show k + (32 - k) = 32 by omega] at h4
      rw [h4]
    · rw [if_pos (by simp; omega), has_f a m k hm (by omega)]
      simp only [Option.bind_some]
      have ht := tk_top k m n
      have hp := pc_top k m
      have hb := tk_bound k m n
      have hk2 := pow_lt32 k (by omega)
      obtain ⟨hs, hw⟩ := shl_f k (by omega)
      have hk1 : wrap64 ((k : Int) + 1) = ((k + 1 : Nat) : Int) := by unfold wrap64; omega
      by_cases h1 : m / 2 ^ k % 2 = 1
      · rw [if_pos (by rw [h1]; rfl), if_pos hw, hs]
        rw [if_pos ⟨h1, Nat.lt_of_not_le h0⟩] at ht
        have e1 : wrap64 (((tk k m n : Nat) : Int) + ((2 ^ k : Nat) : Int)) = ((tk (k + 1) m n : Nat) : Int) := by
          rw [ht]; exact add64 _ _ (Nat.lt_trans hb hk2) hk2
        have e2 : wrap64 (((n - pc k m : Nat) : Int) - 1) = ((n - pc (k + 1) m : Nat) : Int) := by
          rw [hp, h1]; exact dec64 _ _ hn (Nat.lt_of_not_le h0)
        rw [e1, e2, hk1]
        exact ih f (k + 1) a1 a2 (by rw [hp]; exact le_two _ _ _ h0 h1)
      · have h2 : m / 2 ^ k % 2 = 0 := by omega
        rw [if_neg (by simp; omega), hk1]
        rw [if_neg (fun h => h1 h.1)] at ht
        have ht2 : tk (k + 1) m n = tk k m n := ht
        rw [h2] at hp
        have hp2 : pc (k + 1) m = pc k m := hp
        rw [← ht2, ← hp2]
        exact ih f (k + 1) a1 a2 (by rw [hp2]; exact hle)
theorem reftake_f (f : Nat) (hf : 70 ≤ f) (a : Int) (m n : Nat) (hn : n < 9223372036854775808) (hm : a % 4294967296 = (m : Int)) :
    prebendref14_Take.f f a (n : Int) = some (if n ≤ pc 32 m then (((tk 32 m n : Nat) : Int), true) else (0, false)) := by
  have h := reftake_loop a m n hn hm 32 f 0 (by omega) (by omega) (by simp [pc])
  exact h
theorem reftake_neg (f : Nat) (hf : 70 ≤ f) (a n : Int) (hn : n < 0) : prebendref14_Take.f f a n = some (0, false) := by
  obtain ⟨f, rfl⟩ : ∃ z, f = z + 2 := ⟨f - 2, by omega⟩
  unfold prebendref14_Take.f
  simp only [prebendref14_Take.l0]
  rw [if_pos (by decide)]
  simp only [prebendref14_Take.j1]
  rw [if_neg (by simp; omega), if_neg (by omega)]
theorem refcount_loop (a : Int) (m : Nat) (hm : a % 4294967296 = (m : Int)) (d : Nat) : ∀ (f k : Nat), k + d = 32 → d + 1 ≤ f →
    prebendref14_Count.l0 f a ((pc k m : Nat) : Int) (k : Int) = some ((pc 32 m : Nat) : Int) := by
  induction d with
  | zero =>
    intro f k hk hf
    obtain ⟨f, rfl⟩ : ∃ z, f = z + 1 := ⟨f - 1, by omega⟩
    obtain rfl : k = 32 := by omega
    simp only [prebendref14_Count.l0]
    rw [if_neg (by omega)]
  | succ d ih =>
    intro f k hk hf
    obtain ⟨f, rfl⟩ : ∃ z, f = z + 1 := ⟨f - 1, by omega⟩
    have a1 : k + 1 + d = 32 := by omega
    have a2 : d + 1 ≤ f := by omega
    have a3 : k ≤ 32 := by omega
    simp only [prebendref14_Count.l0]
    rw [if_pos (by omega), has_f a m k hm (by omega)]
    simp only [Option.bind_some]
    have hp := pc_top k m
    have hle := pc_le k m
    have hk1 : wrap64 ((k : Int) + 1) = ((k + 1 : Nat) : Int) := by unfold wrap64; omega
    by_cases h1 : m / 2 ^ k % 2 = 1
    · rw [if_pos (by rw [h1]; rfl), hk1]
      have e2 : wrap64 (((pc k m : Nat) : Int) + 1) = ((pc (k + 1) m : Nat) : Int) := by
        rw [hp, h1]; exact inc64 _ (Nat.le_trans hle a3)
      rw [e2]
      exact ih f (k + 1) a1 a2
    · have h2 : m / 2 ^ k % 2 = 0 := by omega
      rw [h2] at hp
      have hp2 : pc (k + 1) m = pc k m := hp
      rw [if_neg (by simp; omega), hk1, ← hp2]
      exact ih f (k + 1) a1 a2
theorem refcount_f (f : Nat) (hf : 70 ≤ f) (a : Int) (m : Nat) (hm : a % 4294967296 = (m : Int)) : prebendref14_Count.f f a = some ((pc 32 m : Nat) : Int) :=
  refcount_loop a m hm 32 f 0 (by omega) (by omega)
theorem refall_loop (n : Int) (s : Nat) (hs : s ≤ 32) (h : (s = 32 ∧ 32 ≤ n) ∨ (n = (s : Int))) (d : Nat) : ∀ (f k : Nat), k + d = s → d + 1 ≤ f →
    prebendref14_All.l0 f n ((2 ^ k - 1 : Nat) : Int) (k : Int) = some ((2 ^ s - 1 : Nat) : Int) := by
  induction d with
  | zero =>
    intro f k hk hf
    obtain ⟨f, rfl⟩ : ∃ z, f = z + 1 := ⟨f - 1, by omega⟩
    obtain rfl : k = s := by omega
    simp only [prebendref14_All.l0]
    by_cases h1 : k < 32
    · rw [if_pos (by omega), if_neg (by omega)]
    · rw [if_neg (by omega)]
  | succ d ih =>
    intro f k hk hf
    obtain ⟨f, rfl⟩ : ∃ z, f = z + 1 := ⟨f - 1, by omega⟩
    simp only [prebendref14_All.l0]
    obtain ⟨hs1, hw⟩ := shl_f k (by omega)
    have hk2 := pow_lt32 k (by omega)
    have hk1 : wrap64 ((k : Int) + 1) = ((k + 1 : Nat) : Int) := by unfold wrap64; omega
    rw [if_pos (by omega), if_pos (by omega), if_pos hw, hs1, hk1]
    have e1 : wrap64 (((2 ^ k - 1 : Nat) : Int) + ((2 ^ k : Nat) : Int)) = ((2 ^ (k + 1) - 1 : Nat) : Int) := by
      rw [Nat.pow_succ]
      have : 0 < 2 ^ k := Nat.two_pow_pos k
      generalize 2 ^ k = E at *
      unfold wrap64; omega
    rw [e1]
    exact ih f (k + 1) (by omega) (by omega)
theorem all_both (f : Nat) (hf : 70 ≤ f) (n : Int) : ∃ r, pool_All.f n = some r ∧ prebendref14_All.f f n = some r := by
  by_cases h0 : n < 0
  · refine ⟨0, ?_, ?_⟩
    · unfold pool_All.f mx mn
      rw [if_neg (show ¬ (32 : Int) < n by omega), if_neg (by omega)]
      decide +kernel
    · obtain ⟨f, rfl⟩ : ∃ z, f = z + 1 := ⟨f - 1, by omega⟩
      unfold prebendref14_All.f
      simp only [prebendref14_All.l0]
      rw [if_pos (by decide), if_neg (by omega)]
  · have key : ∀ s : Nat, s ≤ 32 → mx 0 (mn n 32) = (s : Int) → pool_All.f n = some ((2 ^ s - 1 : Nat) : Int) := by
      intro s hs he
      unfold pool_All.f
      rw [he, Int.toNat_natCast]
      have hk2 := pow_le32 s hs
      have hp : 0 < 2 ^ s := Nat.two_pow_pos s
      have h2 : ((2 ^ s : Nat) : Int) = 2 ^ s := by simp
      rw [← h2]
      generalize 2 ^ s = E at *
      congr 1
      unfold wrap64; omega
    by_cases h1 : 32 ≤ n
    · exact ⟨_, key 32 (by omega) (by unfold mx mn; split <;> split <;> omega), refall_loop n 32 (by omega) (Or.inl ⟨rfl, h1⟩) 32 f 0 (by omega) (by omega)⟩
    · obtain ⟨s, rfl⟩ := Int.eq_ofNat_of_zero_le (show 0 ≤ n by omega)
      exact ⟨_, key s (by omega) (by unfold mx mn; split <;> split <;> omega), refall_loop s s (by omega) (Or.inr rfl) s f 0 (by omega) (by omega)⟩
theorem PoolTakes : prebendlaw14_PoolTakes.Pure := by
  intro a0 a1 w0 w1
  obtain ⟨p0, p1⟩ := i64_of a1 w1
  refine ⟨70, ?_⟩
  obtain ⟨m, hm⟩ := Int.eq_ofNat_of_zero_le (show 0 ≤ a0 % 4294967296 by omega)
  have ha := awake_f 70 (by omega)
  have hc := count_f a0
  rw [hm, Int.toNat_natCast] at hc
  obtain ⟨r, hr1, hr2⟩ := all_both 70 (by omega) a1
  have hrc := refcount_f 70 (by omega) a0 m hm
  have ht : ∃ q, pool_Take.f 70 a0 a1 = some q ∧ prebendref14_Take.f 70 a0 a1 = some q := by
    by_cases h0 : a1 < 0
    · exact ⟨_, take_no 70 (by omega) a0 a1 m hm (Or.inl h0), reftake_neg 70 (by omega) a0 a1 h0⟩
    · obtain ⟨n, rfl⟩ := Int.eq_ofNat_of_zero_le (show 0 ≤ a1 by omega)
      have h := reftake_f 70 (by omega) a0 m n (by omega) hm
      by_cases h1 : n ≤ pc 32 m
      · rw [if_pos h1] at h
        exact ⟨_, take_yes 70 (by omega) a0 m n hm h1, h⟩
      · rw [if_neg h1] at h
        exact ⟨_, take_no 70 (by omega) a0 n m hm (Or.inr (by omega)), h⟩
  obtain ⟨q, ht1, ht2⟩ := ht
  unfold prebendlaw14_PoolTakes.f
  rw [ht1, ht2, ha, hc, hrc, hr1, hr2]
  simp

end Go.Proofs.Ytpppicehpadcbaa.Pure
