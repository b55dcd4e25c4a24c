/-
  PoolTwice: nodes that pool.Take takes one after the other are those that it takes at once, and none is taken twice. For every input.
-/
import Derived.Test.YtpppicehpadcbaaPoolBits
import Derived.Test.YtpppicehpadcbaaQPoolTwicex1
namespace Go.Proofs.Ytpppicehpadcbaa.Pure
open Go.RowKit Go.Proofs.Ytpppicehpadcbaa.QPoolTwice Go.Proofs.Ytpppicehpadcbaa.PoolBits Go.Proofs.YtpppicehpadcbaaW.PrintWords Go.Proofs.YtpppicehpadcbaaW.PrintLast

theorem ones (m : Nat) (hm : m < 4294967296) : bits_OnesCount32.f (m : Int) = some ((pc 32 m : Nat) : Int) := ones_sum m hm
theorem count_f (a : Int) : pool_Count.f a = some ((pc 32 (a % 4294967296).toNat : Nat) : Int) := by
  have e : a % 4294967296 = (((a % 4294967296).toNat : Nat) : Int) := by omega
  unfold pool_Count.f
  rw [e, ones _ (by omega), Int.toNat_natCast]
  rfl
theorem count_nat (m : Nat) (hm : m < 4294967296) : pool_Count.f (m : Int) = some ((pc 32 m : Nat) : Int) := by
  rw [count_f, show ((m : Int) % 4294967296).toNat = m by omega]
theorem take_loop (m n : Nat) (hm : m < 4294967296) (hn : n ≤ pc 32 m) (d : Nat) : ∀ (k i : Nat), i + d = n → d < k →
    pool_Take.l0 k ((m - tk 32 m i : Nat) : Int) ((tk 32 m i : Nat) : Int) (n : Int) (i : Int) = some (((tk 32 m n : Nat) : Int), true) := by
  have hp := pc_le 32 m
  induction d with
  | zero =>
    intro k i hi hk
    obtain ⟨k, rfl⟩ : ∃ z, k = z + 1 := ⟨k - 1, by omega⟩
    obtain rfl : i = n := by omega
    simp only [pool_Take.l0]
    rw [if_neg (by omega)]
    have := tk_lt32 m i hm
    rw [show wrap64 ((tk 32 m i : Nat) : Int) = ((tk 32 m i : Nat) : Int) by unfold wrap64; omega]
  | succ d ih =>
    intro k i hi hk
    obtain ⟨k, rfl⟩ : ∃ z, k = z + 1 := ⟨k - 1, by omega⟩
    simp only [pool_Take.l0]
    rw [if_pos (by omega)]
    have hlt := tk_lt32 m i hm
    have hle := tk_le 32 m i
    have hr := pc_rest 32 m i (by omega)
    have h0 : m - tk 32 m i ≠ 0 := by
      intro h; rw [h, pc_zero] at hr; omega
    have hs := tk_succ 32 m i hm (by omega)
    have hb := lb_le 32 (m - tk 32 m i) (lt32 (by omega))
    have ho := lor_lb 32 m i hm
    have hx := lxor_lb 32 (m - tk 32 m i) (lt32 (by omega))
    rw [low32 _ h0 (by omega), xor32 _ _ (by omega) (by omega), or32 _ _ (by omega) (by omega), hx, ho, ← hs]
    rw [show wrap64 ((i : Int) + 1) = ((i + 1 : Nat) : Int) by unfold wrap64; omega]
    rw [show m - tk 32 m i - lb 32 (m - tk 32 m i) = m - tk 32 m (i + 1) by omega]
    exact ih k (i + 1) (by omega) (by omega)
theorem take_yes (k : Nat) (hk : 40 ≤ k) (free : Int) (m n : Nat) (hm : (free % 4294967296) = (m : Int)) (hn : n ≤ pc 32 m) :
    pool_Take.f k free (n : Int) = some (((tk 32 m n : Nat) : Int), true) := by
  have hp := pc_le 32 m
  obtain ⟨k, rfl⟩ : ∃ z, k = z + 1 := ⟨k - 1, by omega⟩
  unfold pool_Take.f
  rw [if_neg (by omega), count_f, hm, Int.toNat_natCast]
  simp only [Option.bind_some, pool_Take.j0]
  rw [if_neg (by simp; omega), hm]
  have := take_loop m n (by omega) hn n k 0 (by omega) (by omega)
  rw [tk_zero] at this
  exact this
theorem take_no (k : Nat) (hk : 40 ≤ k) (free n : Int) (m : Nat) (hm : (free % 4294967296) = (m : Int)) (hn : n < 0 ∨ ((pc 32 m : Nat) : Int) < n) :
    pool_Take.f k free n = some (0, false) := by
  obtain ⟨k, rfl⟩ : ∃ z, k = z + 1 := ⟨k - 1, by omega⟩
  unfold pool_Take.f
  by_cases h0 : n < 0
  · rw [if_pos h0]; rfl
  · rw [if_neg h0, count_f, hm, Int.toNat_natCast]
    simp only [Option.bind_some, pool_Take.j0]
    rw [if_pos (by simp; omega)]
theorem awake_f (k : Nat) (hk : 40 ≤ k) : prebendlaw14_awake.f k = some true := by
  have h1 := take_yes k hk 13 13 2 (by omega) (by decide)
  have h2 := take_no k hk 13 4 13 (by omega) (by right; decide)
  have e2 : tk 32 13 2 = 5 := by decide
  have e3 : pc 32 13 = 3 := by decide
  have h3 := count_nat 13 (by omega)
  have a1 : pool_All.f 3 = some 7 := by decide +kernel
  have a2 : pool_All.f 99 = some 4294967295 := by decide +kernel
  rw [e2] at h1
  rw [e3] at h3
  unfold prebendlaw14_awake.f
  rw [show (2 : Int) = ((2 : Nat) : Int) from rfl, h1, h2, a1]
  simp only [Option.bind_some]
  rw [show (13 : Int) = ((13 : Nat) : Int) from rfl, h3, a2]
  rfl

theorem u32_of (a : Int) (h : (Lit.int .u32 a).wf = true) : 0 ≤ a ∧ a < 4294967296 := by
  simp only [Lit.wf, IntKind.min, IntKind.max, IntKind.signed, IntKind.bits, Bool.and_eq_true] at h
  simp at h
  omega
theorem u8_of (a : Int) (h : (Lit.int .u8 a).wf = true) : 0 ≤ a ∧ a < 256 := by
  simp only [Lit.wf, IntKind.min, IntKind.max, IntKind.signed, IntKind.bits, Bool.and_eq_true] at h
  simp at h
  omega

theorem sub_mod (m T : Nat) (h : m < 4294967296) : (((m - T : Nat) : Int) % 4294967296) = ((m - T : Nat) : Int) := by omega
theorem sub_lt (m T : Nat) (h : m < 4294967296) : m - T < 4294967296 := by omega
theorem lt62 {T : Nat} (h : T < 4294967296) : T < 4611686018427387904 := by omega
theorem le_of_rest (P a b q : Nat) (h : a + b ≤ P) (hq : q = P - a) : b ≤ q := by omega
theorem no_of_rest (P a b q : Nat) (ha : a ≤ P) (h : ¬ a + b ≤ P) (hq : q = P - a) : (b : Int) < 0 ∨ (q : Int) < (b : Int) := by omega
theorem no_of (P : Nat) (b : Nat) (h : ¬ b ≤ P) : (b : Int) < 0 ∨ (P : Int) < (b : Int) := by omega
theorem PoolTwice : prebendlaw14_PoolTwice.Pure := by
  intro a0 a1 a2 w0 w1 w2
  obtain ⟨p0, p1⟩ := u32_of a0 w0
  obtain ⟨q0, q1⟩ := u8_of a1 w1
  obtain ⟨r0, r1⟩ := u8_of a2 w2
  refine ⟨40, ?_⟩
  obtain ⟨m, rfl⟩ := Int.eq_ofNat_of_zero_le p0
  obtain ⟨u, rfl⟩ := Int.eq_ofNat_of_zero_le q0
  obtain ⟨v, rfl⟩ := Int.eq_ofNat_of_zero_le r0
  have hm : m < 4294967296 := by omega
  have e0 : wrap64 (m : Int) = (m : Int) := by unfold wrap64; omega
  obtain ⟨a, ha⟩ : ∃ n : Nat, n = u % 20 := ⟨_, rfl⟩
  obtain ⟨b, hb⟩ : ∃ n : Nat, n = v % 20 := ⟨_, rfl⟩
  have e1 : wrap64 (Int.tmod (u : Int) 20) = (a : Int) := by
    rw [Int.tmod_eq_emod_of_nonneg (by omega)]
    unfold wrap64; omega
  have e2 : wrap64 (Int.tmod (v : Int) 20) = (b : Int) := by
    rw [Int.tmod_eq_emod_of_nonneg (by omega)]
    unfold wrap64; omega
  have e3 : wrap64 ((a : Int) + (b : Int)) = ((a + b : Nat) : Int) := by unfold wrap64; omega
  have hw := awake_f 40 (by omega)
  unfold prebendlaw14_PoolTwice.f
  rw [e0, e1, e2, e3, hw]
  have hmm : ((m : Int) % 4294967296) = (m : Int) := by omega
  by_cases h : a ≤ pc 32 m
  · have ht := tk_lt32 m a hm
    have hle := tk_le 32 m a
    rw [take_yes 40 (by omega) m m a hmm h]
    simp only [Option.bind_some, if_true]
    have n2 := andNot64 m (tk 32 m a) (lt62 hm) (lt62 ht)
    rw [Nat.and_comm, land_tk] at n2
    rw [n2]
    have hr := pc_rest 32 m a h
    have hmr := sub_mod m (tk 32 m a) hm
    by_cases h2 : a + b ≤ pc 32 m
    · rw [take_yes 40 (by omega) m m (a + b) hmm h2, take_yes 40 (by omega) _ (m - tk 32 m a) b hmr (le_of_rest _ _ _ _ h2 hr)]
      have ht2 := tk_lt32 (m - tk 32 m a) b (sub_lt _ _ hm)
      obtain ⟨t1, t2⟩ := tk_two 32 m a b h2
      have u1 := and64 _ _ (lt62 ht) (lt62 ht2)
      have u2 := or64 _ _ (lt62 ht) (lt62 ht2)
      rw [t1] at u1
      rw [t2] at u2
      generalize tk 32 (m - tk 32 m a) b = T2 at *
      generalize tk 32 m (a + b) = T3 at *
      generalize tk 32 m a = T at *
      simp only [Option.bind_some]
      rw [u1, u2]
      simp
    · rw [take_no 40 (by omega) m ((a + b : Nat) : Int) m hmm (no_of _ _ h2), take_no 40 (by omega) _ (b : Int) (m - tk 32 m a) hmr (no_of_rest _ _ _ _ h h2 hr)]
      have hz := and64 (tk 32 m a) 0 (lt62 ht) (by omega)
      rw [Nat.and_zero] at hz
      have hz' : Go.bits .and .i64 ((tk 32 m a : Nat) : Int) 0 = 0 := hz
      generalize tk 32 m a = T at *
      simp only [Option.bind_some]
      rw [hz']
      simp
  · rw [take_no 40 (by omega) m a m hmm (no_of _ _ h)]
    simp only [Option.bind_some, Bool.false_eq_true, if_false]

end Go.Proofs.Ytpppicehpadcbaa.Pure
