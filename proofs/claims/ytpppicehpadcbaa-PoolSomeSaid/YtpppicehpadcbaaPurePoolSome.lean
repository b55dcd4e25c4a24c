/-
  PoolSome: what pool.Take takes is so many of the free nodes, all of them free, and none of those that stay is lower. For every input.
-/
import Derived.Test.YtpppicehpadcbaaPoolBits
import Derived.Test.YtpppicehpadcbaaQPoolSomex1
namespace Go.Proofs.Ytpppicehpadcbaa.Pure
open Go.RowKit Go.Proofs.Ytpppicehpadcbaa.QPoolSome Go.Proofs.Ytpppicehpadcbaa.PoolBits Go.Proofs.YtpppicehpadcbaaW.PrintWords Go.Proofs.YtpppicehpadcbaaW.PrintLast

theorem ones (m : Nat) (hm : m < 4294967296) : bits_OnesCount32.f (m : Int) = some ((pc 32 m : Nat) : Int) := ones_sum m hm
theorem count_f (a : Int) : pool_Count.f a = some ((pc 32 (a % 4294967296).toNat : Nat) : Int) := by
  have e : a % 4294967296 = (((a % 4294967296).toNat : Nat) : Int) := by omega
  unfold pool_Count.f
  rw [e, ones _ (by omega), Int.toNat_natCast]
  rfl
theorem count_nat (m : Nat) (hm : m < 4294967296) : pool_Count.f (m : Int) = some ((pc 32 m : Nat) : Int) := by
  rw [count_f, show ((m : Int) % 4294967296).toNat = m by omega]
theorem take_loop (m n : Nat) (hm : m < 4294967296) (hn : n ≤ pc 32 m) (d : Nat) : ∀ (k i : Nat), i + d = n → d < k →
    pool_Take.l0 k ((m - tk 32 m i : Nat) : Int) ((tk 32 m i : Nat) : Int) (n : Int) (i : Int) = some (((tk 32 m n : Nat) : Int), true) := by
  have hp := pc_le 32 m
  induction d with
  | zero =>
    intro k i hi hk
    obtain ⟨k, rfl⟩ : ∃ z, k = z + 1 := ⟨k - 1, by omega⟩
    obtain rfl : i = n := by omega
    simp only [pool_Take.l0]
    rw [if_neg (by omega)]
    have := tk_lt32 m i hm
    rw [show wrap64 ((tk 32 m i : Nat) : Int) = ((tk 32 m i : Nat) : Int) by unfold wrap64; omega]
  | succ d ih =>
    intro k i hi hk
    obtain ⟨k, rfl⟩ : ∃ z, k = z + 1 := ⟨k - 1, by omega⟩
    simp only [pool_Take.l0]
    rw [if_pos (by omega)]
    have hlt := tk_lt32 m i hm
    have hle := tk_le 32 m i
    have hr := pc_rest 32 m i (by omega)
    have h0 : m - tk 32 m i ≠ 0 := by
      intro h; rw [h, pc_zero] at hr; omega
    have hs := tk_succ 32 m i hm (by omega)
    have hb := lb_le 32 (m - tk 32 m i) (lt32 (by omega))
    have ho := lor_lb 32 m i hm
    have hx := lxor_lb 32 (m - tk 32 m i) (lt32 (by omega))
    rw [low32 _ h0 (by omega), xor32 _ _ (by omega) (by omega), or32 _ _ (by omega) (by omega), hx, ho, ← hs]
    rw [show wrap64 ((i : Int) + 1) = ((i + 1 : Nat) : Int) by unfold wrap64; omega]
    rw [show m - tk 32 m i - lb 32 (m - tk 32 m i) = m - tk 32 m (i + 1) by omega]
    exact ih k (i + 1) (by omega) (by omega)
theorem take_yes (k : Nat) (hk : 40 ≤ k) (free : Int) (m n : Nat) (hm : (free % 4294967296) = (m : Int)) (hn : n ≤ pc 32 m) :
    pool_Take.f k free (n : Int) = some (((tk 32 m n : Nat) : Int), true) := by
  have hp := pc_le 32 m
  obtain ⟨k, rfl⟩ : ∃ z, k = z + 1 := ⟨k - 1, by omega⟩
  unfold pool_Take.f
  rw [if_neg (by omega), count_f, hm, Int.toNat_natCast]
  simp only [Option.bind_some, pool_Take.j0]
  rw [if_neg (by simp; omega), hm]
  have := take_loop m n (by omega) hn n k 0 (by omega) (by omega)
  rw [tk_zero] at this
  exact this
theorem take_no (k : Nat) (hk : 40 ≤ k) (free n : Int) (m : Nat) (hm : (free % 4294967296) = (m : Int)) (hn : n < 0 ∨ ((pc 32 m : Nat) : Int) < n) :
    pool_Take.f k free n = some (0, false) := by
  obtain ⟨k, rfl⟩ : ∃ z, k = z + 1 := ⟨k - 1, by omega⟩
  unfold pool_Take.f
  by_cases h0 : n < 0
  · rw [if_pos h0]; rfl
  · rw [if_neg h0, count_f, hm, Int.toNat_natCast]
    simp only [Option.bind_some, pool_Take.j0]
    rw [if_pos (by simp; omega)]
theorem awake_f (k : Nat) (hk : 40 ≤ k) : prebendlaw14_awake.f k = some true := by
  have h1 := take_yes k hk 13 13 2 (by omega) (by decide)
  have h2 := take_no k hk 13 4 13 (by omega) (by right; decide)
  have e2 : tk 32 13 2 = 5 := by decide
  have e3 : pc 32 13 = 3 := by decide
  have h3 := count_nat 13 (by omega)
  have a1 : pool_All.f 3 = some 7 := by decide +kernel
  have a2 : pool_All.f 99 = some 4294967295 := by decide +kernel
  rw [e2] at h1
  rw [e3] at h3
  unfold prebendlaw14_awake.f
  rw [show (2 : Int) = ((2 : Nat) : Int) from rfl, h1, h2, a1]
  simp only [Option.bind_some]
  rw [show (13 : Int) = ((13 : Nat) : Int) from rfl, h3, a2]
  rfl

theorem u32_of (a : Int) (h : (Lit.int .u32 a).wf = true) : 0 ≤ a ∧ a < 4294967296 := by
  simp only [Lit.wf, IntKind.min, IntKind.max, IntKind.signed, IntKind.bits, Bool.and_eq_true] at h
  simp at h
  omega
theorem u8_of (a : Int) (h : (Lit.int .u8 a).wf = true) : 0 ≤ a ∧ a < 256 := by
  simp only [Lit.wf, IntKind.min, IntKind.max, IntKind.signed, IntKind.bits, Bool.and_eq_true] at h
  simp at h
  omega

theorem PoolSome : prebendlaw14_PoolSome.Pure := by
  intro a0 a1 w0 w1
  obtain ⟨p0, p1⟩ := u32_of a0 w0
  obtain ⟨q0, q1⟩ := u8_of a1 w1
  refine ⟨40, ?_⟩
  obtain ⟨m, rfl⟩ := Int.eq_ofNat_of_zero_le p0
  obtain ⟨u, rfl⟩ := Int.eq_ofNat_of_zero_le q0
  have hm : m < 4294967296 := by omega
  have e0 : wrap64 (m : Int) = (m : Int) := by unfold wrap64; omega
  obtain ⟨n, hn⟩ : ∃ n : Nat, n = u % 34 := ⟨_, rfl⟩
  have e1 : wrap64 (Int.tmod (u : Int) 34) = (n : Int) := by
    rw [Int.tmod_eq_emod_of_nonneg (by omega)]
    unfold wrap64; omega
  have hc := count_nat m hm
  have ha := awake_f 40 (by omega)
  unfold prebendlaw14_PoolSome.f
  rw [e0, e1, hc, ha]
  have hmm : ((m : Int) % 4294967296) = (m : Int) := by omega
  by_cases h : n ≤ pc 32 m
  · have ht := tk_lt32 m n hm
    have hle := tk_le 32 m n
    rw [take_yes 40 (by omega) m m n hmm h]
    simp only [Option.bind_some]
    rw [if_neg (by simp; omega)]
    simp only [if_true]
    have n1 := andNot64 (tk 32 m n) m (by omega) (by omega)
    rw [land_tk] at n1
    have n2 := andNot64 m (tk 32 m n) (by omega) (by omega)
    rw [Nat.and_comm, land_tk] at n2
    rw [n1, n2, if_pos (by omega), count_nat _ ht, count_nat _ (by omega)]
    simp only [Option.bind_some]
    rw [pc_tk 32 m n h, if_pos rfl, pc_rest 32 m n h]
    rw [if_pos (by unfold wrap64; have := pc_le 32 m; omega)]
    by_cases hr : m - tk 32 m n = 0
    · rw [if_pos (by omega)]
    · rw [if_neg (by omega)]
      rw [low64 _ hr (by omega)]
      have hpr := pc_rest 32 m n h
      have hpos := pc_pos (w := 32) (m := m - tk 32 m n) (lt32 (by omega)) hr
      have hlt := tk_lt 32 m n hm (by omega)
      rw [if_pos (by omega)]
  · rw [take_no 40 (by omega) m n m hmm (by omega)]
    simp only [Option.bind_some]
    rw [if_neg (by simp; omega)]
    simp only [Bool.false_eq_true, if_false, if_true]
    rfl

end Go.Proofs.Ytpppicehpadcbaa.Pure
