/-
 The bits of numbers below 2^32: how many there are, the lowest ones, and what the machine's operations on bits make of them. Plain lemmas for the three statements on pools of nodes; no condition.
-/
import Derived.Laws.Entries
import Derived.Laws.BitsLemmas
import Derived.Test.YtijeigiilgapdaaWAll
namespace Go.Proofs.Ytijeigiilgapdaa.XPoolBits
open Go.RowKit Go.Proofs.YtijeigiilgapdaaW.PrintWords

theorem land2 (a b : Nat) : a &&& b = (a % 2) * (b % 2) + 2 * (a / 2 &&& b / 2) := by
 have h1 := Nat.and_div_two (a := a) (b := b)
 have h2 : (a &&& b) % 2 = (a % 2) * (b % 2) := by
  have h3 := Nat.and_mod_two_eq_one (a := a) (b := b)
  rcases Nat.mod_two_eq_zero_or_one a with h | h <;> rcases Nat.mod_two_eq_zero_or_one b with h' | h' <;> rw [h, h'] at h3 ⊢ <;> omega
 omega
theorem lor2 (a b : Nat) : a ||| b = (a % 2 + b % 2 - (a % 2) * (b % 2)) + 2 * (a / 2 ||| b / 2) := by
 have h1 := Nat.or_div_two (a := a) (b := b)
 have h2 : (a ||| b) % 2 = (a % 2 + b % 2 - (a % 2) * (b % 2)) := by
  have h3 := Nat.or_mod_two_eq_one (a := a) (b := b)
  rcases Nat.mod_two_eq_zero_or_one a with h | h <;> rcases Nat.mod_two_eq_zero_or_one b with h' | h' <;> rw [h, h'] at h3 ⊢ <;> omega
 omega
theorem lxor2 (a b : Nat) : a ^^^ b = (a + b) % 2 + 2 * (a / 2 ^^^ b / 2) := by
 have h1 := Nat.xor_div_two (a := a) (b := b)
 have h2 : (a ^^^ b) % 2 = (a + b) % 2 := by
  have h3 := Nat.xor_mod_two_eq_one (a := a) (b := b)
  rcases Nat.mod_two_eq_zero_or_one a with h | h <;> rcases Nat.mod_two_eq_zero_or_one b with h' | h' <;> rw [h, h'] at h3 <;> omega
 omega

/-- How many of the lowest w bits are 1. -/
def pc : Nat → Nat → Nat
 | 0, _ => 0
 | w + 1, m => m % 2 + pc w (m / 2)
theorem pc_le (w m : Nat) : pc w m ≤ w := by
 induction w generalizing m with
 | zero => simp [pc]
 | succ w ih => have := ih (m / 2); simp only [pc]; omega
theorem pc_add (a b m : Nat) : pc (a + b) m = pc a m + pc b (m / 2 ^ a) := by
 induction a generalizing m with
 | zero => simp [pc]
 | succ a ih =>
  rw [Nat.succ_add]
  simp only [pc, ih]
  rw [Nat.div_div_eq_div_mul, show 2 * 2 ^ a = 2 ^ (a + 1) by rw [Nat.pow_succ]; omega]
  omega
theorem pc_mod (w m : Nat) : pc w (m % 2 ^ w) = pc w m := by
 induction w generalizing m with
 | zero => simp [pc]
 | succ w ih =>
  simp only [pc]
  have h1 : m % 2 ^ (w + 1) % 2 = m % 2 := by
   rw [Nat.mod_mod_of_dvd]; exact ⟨2 ^ w, by rw [Nat.pow_succ]; omega⟩
  have h2 : m % 2 ^ (w + 1) / 2 = m / 2 % 2 ^ w := by
   rw [Nat.pow_succ, Nat.mul_comm, Nat.mod_mul_right_div_self]
  rw [h1, h2, ih]
theorem pc_zero (w : Nat) : pc w 0 = 0 := by
 induction w with
 | zero => rfl
 | succ w ih => simp [pc, ih]
theorem pc_pos {w m : Nat} (h : m < 2 ^ w) (h0 : m ≠ 0) : 0 < pc w m := by
 induction w generalizing m with
 | zero => simp at h; omega
 | succ w ih =>
  simp only [pc]
  rw [Nat.pow_succ] at h
  by_cases h1 : m / 2 = 0
  ·omega
  ·have := ih (m := m / 2) (by omega) h1
   omega

/-- The lowest n of the lowest w bits that are 1. -/
def tk : Nat → Nat → Nat → Nat
 | 0, _, _ => 0
 | w + 1, m, n => if n = 0 then 0 else if m % 2 = 1 then 1 + 2 * tk w (m / 2) (n - 1) else 2 * tk w (m / 2) n
/-- The lowest bit that is 1. -/
def lb : Nat → Nat → Nat
 | 0, _ => 0
 | w + 1, m => if m % 2 = 1 then 1 else 2 * lb w (m / 2)

theorem tk_zero (w m : Nat) : tk w m 0 = 0 := by cases w <;> simp [tk]
theorem tk_le (w m n : Nat) : tk w m n ≤ m := by
 induction w generalizing m n with
 | zero => simp [tk]
 | succ w ih =>
  simp only [tk]
  have h1 := ih (m / 2) (n - 1)
  have h2 := ih (m / 2) n
  split
  ·omega
  ·split <;> omega
/-- What stays: its bits. -/
theorem rest_step (w m n : Nat) (hn : n ≠ 0) : (m - tk (w + 1) m n) % 2 = 0 ∧ (m - tk (w + 1) m n) / 2 = m / 2 - tk w (m / 2) (if m % 2 = 1 then n - 1 else n) := by
 have h1 := tk_le w (m / 2) (n - 1)
 have h2 := tk_le w (m / 2) n
 simp only [tk, hn, if_false]
 split <;> omega
theorem pc_tk (w m n : Nat) (h : n ≤ pc w m) : pc w (tk w m n) = n := by
 induction w generalizing m n with
 | zero => simp [pc] at h; simp [pc, h]
 | succ w ih =>
  by_cases hn : n = 0
  ·subst hn; rw [tk_zero, pc_zero]
  ·simp only [pc] at h ⊢
   simp only [tk, hn, if_false]
   split
   ·rw [show (1 + 2 * tk w (m / 2) (n - 1)) / 2 = tk w (m / 2) (n - 1) by omega, ih _ _ (by omega)]; omega
   ·rw [show (2 * tk w (m / 2) n) / 2 = tk w (m / 2) n by omega, ih _ _ (by omega)]; omega
theorem pc_rest (w m n : Nat) (h : n ≤ pc w m) : pc w (m - tk w m n) = pc w m - n := by
 induction w generalizing m n with
 | zero => simp [pc]
 | succ w ih =>
  by_cases hn : n = 0
  ·subst hn; rw [tk_zero]; rfl
  ·have hr := rest_step w m n hn
   simp only [pc] at h ⊢
   rw [hr.1, hr.2]
   split
   ·rw [ih _ _ (by omega)]; omega
   ·rw [ih _ _ (by omega)]; omega
theorem land_tk (w m n : Nat) : tk w m n &&& m = tk w m n := by
 induction w generalizing m n with
 | zero => simp [tk]
 | succ w ih =>
  rw [land2]
  by_cases hn : n = 0
  ·subst hn; rw [tk_zero]; simp
  ·simp only [tk, hn, if_false]
   split
   next h => rw [show (1 + 2 * tk w (m / 2) (n - 1)) / 2 = tk w (m / 2) (n - 1) by omega, ih, h]; omega
   next h => rw [show (2 * tk w (m / 2) n) / 2 = tk w (m / 2) n by omega, ih, show m % 2 = 0 by omega]; omega
/-- The lowest bit of what stays is the next one that is taken. -/
theorem tk_succ (w m n : Nat) (hm : m < 2 ^ w) (h : n < pc w m) : tk w m (n + 1) = tk w m n + lb w (m - tk w m n) := by
 induction w generalizing m n with
 | zero => simp [pc] at h
 | succ w ih =>
  rw [Nat.pow_succ] at hm
  by_cases hn : n = 0
  ·subst hn
   rw [tk_zero, Nat.zero_add, Nat.sub_zero]
   simp only [pc] at h
   simp only [tk, lb]
   by_cases h1 : m % 2 = 1
   ·rw [if_neg (by decide), if_pos h1, if_pos h1, tk_zero]
   ·have := ih (m / 2) 0 (by omega) (by omega)
    rw [tk_zero, Nat.zero_add, Nat.sub_zero] at this
    rw [if_neg (by decide), if_neg h1, if_neg h1, this]
    omega
  ·have hr := rest_step w m n hn
   have h1 : lb (w + 1) (m - tk (w + 1) m n) = 2 * lb w (m / 2 - tk w (m / 2) (if m % 2 = 1 then n - 1 else n)) := by
    simp only [lb]
    rw [if_neg (by omega), hr.2]
   rw [h1]
   simp only [pc] at h
   simp only [tk, hn, if_false, Nat.succ_ne_zero]
   split
   next h2 =>
    have := ih (m / 2) (n - 1) (by omega) (by omega)
    rw [show n - 1 + 1 = n by omega] at this
    rw [show n + 1 - 1 = n by omega, this]; omega
   next h2 =>
    have := ih (m / 2) n (by omega) (by omega)
    rw [this]; omega
theorem lb_le (w m : Nat) (hm : m < 2 ^ w) : lb w m ≤ m := by
 induction w generalizing m with
 | zero => simp [lb]
 | succ w ih =>
  rw [Nat.pow_succ] at hm
  have := ih (m / 2) (by omega)
  simp only [lb]
  split <;> omega
/-- m &&& -m in w bits. -/
theorem compl_land (w h : Nat) (hh : h < 2 ^ w) : h &&& (2 ^ w - 1 - h) = 0 := by
 induction w generalizing h with
 | zero => simp at hh; subst hh; rfl
 | succ w ih =>
  rw [Nat.pow_succ] at hh
  rw [land2, Nat.pow_succ]
  have h1 : (2 ^ w * 2 - 1 - h) / 2 = 2 ^ w - 1 - h / 2 := by omega
  rw [h1, ih (h / 2) (by omega)]
  rcases Nat.mod_two_eq_zero_or_one h with h2 | h2
  ·simp [h2]
  ·have : (2 ^ w * 2 - 1 - h) % 2 = 0 := by omega
   simp [this]
theorem low_bit (w m : Nat) (h0 : m ≠ 0) (hm : m < 2 ^ w) : m &&& (2 ^ w - m) = lb w m := by
 induction w generalizing m with
 | zero => simp at hm; omega
 | succ w ih =>
  rw [Nat.pow_succ] at hm
  rw [land2, Nat.pow_succ]
  simp only [lb]
  split
  next h1 =>
   have h2 : (2 ^ w * 2 - m) / 2 = 2 ^ w - 1 - m / 2 := by omega
   have h3 : (2 ^ w * 2 - m) % 2 = 1 := by omega
   rw [h1, h2, h3, compl_land w (m / 2) (by omega)]
  next h1 =>
   have h2 : (2 ^ w * 2 - m) / 2 = 2 ^ w - m / 2 := by omega
   rw [h2, ih (m / 2) (by omega) (by omega), show m % 2 = 0 by omega]; omega
theorem lxor_lb (w m : Nat) (hm : m < 2 ^ w) : m ^^^ lb w m = m - lb w m := by
 induction w generalizing m with
 | zero => simp [lb]
 | succ w ih =>
  rw [Nat.pow_succ] at hm
  rw [lxor2]
  simp only [lb]
  split
  next h1 => simp; omega
  next h1 =>
   have hl := lb_le w (m / 2) (by omega)
   rw [show 2 * lb w (m / 2) / 2 = lb w (m / 2) by omega, ih (m / 2) (by omega)]; omega
theorem lor_lb (w m n : Nat) (hm : m < 2 ^ w) : tk w m n ||| lb w (m - tk w m n) = tk w m n + lb w (m - tk w m n) := by
 induction w generalizing m n with
 | zero => simp [tk, lb]
 | succ w ih =>
  rw [Nat.pow_succ] at hm
  by_cases hn : n = 0
  ·subst hn; rw [tk_zero]; simp
  ·have hr := rest_step w m n hn
   have h1 : lb (w + 1) (m - tk (w + 1) m n) = 2 * lb w (m / 2 - tk w (m / 2) (if m % 2 = 1 then n - 1 else n)) := by
    simp only [lb]
    rw [if_neg (by omega), hr.2]
   rw [h1, lor2]
   simp only [tk, hn, if_false]
   split
   next h2 =>
    rw [show (1 + 2 * tk w (m / 2) (n - 1)) / 2 = tk w (m / 2) (n - 1) by omega]
    rw [show 2 * lb w (m / 2 - tk w (m / 2) (n - 1)) / 2 = lb w (m / 2 - tk w (m / 2) (n - 1)) by omega]
    rw [ih (m / 2) (n - 1) (by omega)]
    rw [show 2 * lb w (m / 2 - tk w (m / 2) (n - 1)) % 2 = 0 by omega]
    omega
   next h2 =>
    rw [show (2 * tk w (m / 2) n) / 2 = tk w (m / 2) n by omega]
    rw [show 2 * lb w (m / 2 - tk w (m / 2) n) / 2 = lb w (m / 2 - tk w (m / 2) n) by omega]
    rw [ih (m / 2) n (by omega)]
    rw [show 2 * lb w (m / 2 - tk w (m / 2) n) % 2 = 0 by omega]
    omega
/-- What is taken is below the lowest bit of what stays. -/
theorem tk_lt (w m n : Nat) (hm : m < 2 ^ w) (h : n < pc w m) : tk w m n < lb w (m - tk w m n) := by
 induction w generalizing m n with
 | zero => simp [pc] at h
 | succ w ih =>
  rw [Nat.pow_succ] at hm
  simp only [pc] at h
  by_cases hn : n = 0
  ·subst hn
   rw [tk_zero, Nat.sub_zero]
   simp only [lb]
   split
   ·omega
   ·have := ih (m / 2) 0 (by omega) (by omega)
    rw [tk_zero, Nat.sub_zero] at this
    omega
  ·have hr := rest_step w m n hn
   have h1 : lb (w + 1) (m - tk (w + 1) m n) = 2 * lb w (m / 2 - tk w (m / 2) (if m % 2 = 1 then n - 1 else n)) := by
    simp only [lb]
    rw [if_neg (by omega), hr.2]
   rw [h1]
   simp only [tk, hn, if_false]
   split
   next h2 => have := ih (m / 2) (n - 1) (by omega) (by omega); omega
   next h2 => have := ih (m / 2) n (by omega) (by omega); omega
/-- One behind the other, or at once. -/
theorem tk_two (w m a b : Nat) (h : a + b ≤ pc w m) : tk w m a &&& tk w (m - tk w m a) b = 0 ∧ tk w m a ||| tk w (m - tk w m a) b = tk w m (a + b) := by
 induction w generalizing m a b with
 | zero => simp [tk]
 | succ w ih =>
  by_cases ha : a = 0
  ·subst ha; rw [tk_zero]; simp
  by_cases hb : b = 0
  ·subst hb; simp [tk_zero]
  have hr := rest_step w m a ha
  simp only [pc] at h
  have hx : tk (w + 1) (m - tk (w + 1) m a) b = 2 * tk w (m / 2 - tk w (m / 2) (if m % 2 = 1 then a - 1 else a)) b := by
   rw [tk]
   rw [if_neg hb, if_neg (by omega), hr.2]
  have hab : a + b ≠ 0 := by omega
  rw [hx, land2, lor2]
  simp only [tk, ha, hab, if_false]
  split
  next h2 =>
   obtain ⟨i1, i2⟩ := ih (m / 2) (a - 1) b (by omega)
   rw [show (1 + 2 * tk w (m / 2) (a - 1)) / 2 = tk w (m / 2) (a - 1) by omega]
   rw [show 2 * tk w (m / 2 - tk w (m / 2) (a - 1)) b / 2 = tk w (m / 2 - tk w (m / 2) (a - 1)) b by omega]
   rw [show 2 * tk w (m / 2 - tk w (m / 2) (a - 1)) b % 2 = 0 by omega]
   rw [i1, i2, show a - 1 + b = a + b - 1 by omega]
   omega
  next h2 =>
   obtain ⟨i1, i2⟩ := ih (m / 2) a b (by omega)
   rw [show (2 * tk w (m / 2) a) / 2 = tk w (m / 2) a by omega]
   rw [show 2 * tk w (m / 2 - tk w (m / 2) a) b / 2 = tk w (m / 2 - tk w (m / 2) a) b by omega]
   rw [show 2 * tk w (m / 2 - tk w (m / 2) a) b % 2 = 0 by omega]
   rw [i1, i2]
   omega

theorem lt32 {a : Nat} (h : a < 4294967296) : a < 2 ^ 32 := h
theorem and32 (a b : Nat) (ha : a < 4294967296) (hb : b < 4294967296) : Go.bits .and .u32 (a : Int) (b : Int) = ((a &&& b : Nat) : Int) :=
 (bits_nat .u32 32 (by decide) (fun n h0 h1 => by rw [IntKind.wrap_u32]; omega) a b ha hb).1
theorem or32 (a b : Nat) (ha : a < 4294967296) (hb : b < 4294967296) : Go.bits .or .u32 (a : Int) (b : Int) = ((a ||| b : Nat) : Int) :=
 (bits_nat .u32 32 (by decide) (fun n h0 h1 => by rw [IntKind.wrap_u32]; omega) a b ha hb).2
theorem xor32 (a b : Nat) (ha : a < 4294967296) (hb : b < 4294967296) : Go.bits .xor .u32 (a : Int) (b : Int) = ((a ^^^ b : Nat) : Int) := by
 have h : a ^^^ b < 2 ^ 32 := Nat.xor_lt_two_pow ha hb
 have ha' : a % 2 ^ 32 = a := Nat.mod_eq_of_lt ha
 have hb' : b % 2 ^ 32 = b := Nat.mod_eq_of_lt hb
 show IntKind.u32.wrap (((BitVec.ofInt 32 (a : Int) ^^^ BitVec.ofInt 32 (b : Int)).toNat : Nat) : Int) = _
 rw [BitVec.ofInt_natCast, BitVec.ofInt_natCast, BitVec.toNat_xor, BitVec.toNat_ofNat, BitVec.toNat_ofNat, ha', hb', IntKind.wrap_u32]; omega
theorem and64 (a b : Nat) (ha : a < 4611686018427387904) (hb : b < 4611686018427387904) : Go.bits .and .i64 (a : Int) (b : Int) = ((a &&& b : Nat) : Int) :=
 (bits_nat .i64 62 (by decide) (fun n h0 h1 => by rw [IntKind.wrap_i64]; omega) a b ha hb).1
theorem or64 (a b : Nat) (ha : a < 4611686018427387904) (hb : b < 4611686018427387904) : Go.bits .or .i64 (a : Int) (b : Int) = ((a ||| b : Nat) : Int) :=
 (bits_nat .i64 62 (by decide) (fun n h0 h1 => by rw [IntKind.wrap_i64]; omega) a b ha hb).2
theorem land_compl (w a b : Nat) (ha : a < 2 ^ w) (hb : b < 2 ^ w) : a &&& (2 ^ w - 1 - b) = a - (a &&& b) ∧ (a &&& b) ≤ a := by
 induction w generalizing a b with
 | zero => simp at ha hb; subst ha hb; simp
 | succ w ih =>
  rw [Nat.pow_succ] at ha hb ⊢
  obtain ⟨i1, i2⟩ := ih (a / 2) (b / 2) (by omega) (by omega)
  have e1 : (2 ^ w * 2 - 1 - b) / 2 = 2 ^ w - 1 - b / 2 := by omega
  have e2 : (2 ^ w * 2 - 1 - b) % 2 = 1 - b % 2 := by omega
  rw [land2 a (2 ^ w * 2 - 1 - b), land2 a b, e1, e2, i1]
  rcases Nat.mod_two_eq_zero_or_one a with h | h <;> rcases Nat.mod_two_eq_zero_or_one b with h' | h' <;> rw [h, h'] <;> omega
theorem andNot64 (a b : Nat) (ha : a < 4611686018427387904) (hb : b < 4611686018427387904) : Go.bits .andNot .i64 (a : Int) (b : Int) = ((a - (a &&& b) : Nat) : Int) := by
 have h := land_compl 64 a b (by omega) (by omega)
 have ha' : a % 2 ^ 64 = a := Nat.mod_eq_of_lt (by omega)
 have hb' : b % 2 ^ 64 = b := Nat.mod_eq_of_lt (by omega)
 show IntKind.i64.wrap (((BitVec.ofInt 64 (a : Int) &&& ~~~BitVec.ofInt 64 (b : Int)).toNat : Nat) : Int) = _
 rw [BitVec.ofInt_natCast, BitVec.ofInt_natCast, BitVec.toNat_and, BitVec.toNat_not, BitVec.toNat_ofNat, BitVec.toNat_ofNat, ha', hb', h.1, IntKind.wrap_i64]; omega
/-- The lowest bit, as the code reckons it. -/
theorem low32 (m : Nat) (h0 : m ≠ 0) (hm : m < 4294967296) : Go.bits .and .u32 (m : Int) ((-(m : Int)) % 4294967296) = ((lb 32 m : Nat) : Int) := by
 have e : (-(m : Int)) % 4294967296 = ((4294967296 - m : Nat) : Int) := by omega
 rw [e, and32 _ _ hm (by omega)]
 exact congrArg _ (low_bit 32 m h0 hm)
theorem low64 (m : Nat) (h0 : m ≠ 0) (hm : m < 4294967296) : Go.bits .and .i64 (m : Int) (wrap64 (-(m : Int))) = ((lb 32 m : Nat) : Int) := by
 have e : BitVec.ofInt 64 (wrap64 (-(m : Int))) = BitVec.ofNat 64 (2 ^ 64 - m) := by
  apply BitVec.eq_of_toNat_eq
  rw [BitVec.toNat_ofInt, BitVec.toNat_ofNat]
  unfold wrap64
  omega
 have h := low_bit 64 m h0 (by omega)
 have hl : lb 64 m = lb 32 m := by
  have aux : ∀ w m, m ≠ 0 → m < 2 ^ w → ∀ d, lb (w + d) m = lb w m := by
   intro w
   induction w with
   | zero => intro m h0 hm; simp at hm; omega
   | succ w ih =>
    intro m h0 hm d
    rw [Nat.pow_succ] at hm
    rw [Nat.succ_add]
    simp only [lb]
    split
    ·rfl
    ·rw [ih (m / 2) (by omega) (by omega)]
  exact aux 32 m h0 hm 32
 have ha' : m % 2 ^ 64 = m := Nat.mod_eq_of_lt (by omega)
 have hb' : (2 ^ 64 - m) % 2 ^ 64 = 2 ^ 64 - m := Nat.mod_eq_of_lt (by omega)
 show IntKind.i64.wrap (((BitVec.ofInt 64 (m : Int) &&& BitVec.ofInt 64 (wrap64 (-(m : Int)))).toNat : Nat) : Int) = _
 rw [e, BitVec.ofInt_natCast, BitVec.toNat_and, BitVec.toNat_ofNat, BitVec.toNat_ofNat, ha', hb', h, hl, IntKind.wrap_i64]
 have := lb_le 32 m (by omega)
 omega
theorem tk_lt32 (m n : Nat) (hm : m < 4294967296) : tk 32 m n < 4294967296 := Nat.lt_of_le_of_lt (tk_le 32 m n) hm

def popTab : ByteArray := ⟨#[0, 1, 1, 2, 1, 2, 2, 3, 1, 2, 2, 3, 2, 3, 3, 4, 1, 2, 2, 3, 2, 3, 3, 4, 2, 3, 3, 4, 3, 4, 4, 5, 1, 2, 2, 3, 2, 3, 3, 4, 2, 3, 3, 4, 3, 4, 4, 5, 2, 3, 3, 4, 3, 4, 4, 5, 3, 4, 4, 5, 4, 5, 5, 6, 1, 2, 2, 3, 2, 3, 3, 4, 2, 3, 3, 4, 3, 4, 4, 5, 2, 3, 3, 4, 3, 4, 4, 5, 3, 4, 4, 5, 4, 5, 5, 6, 2, 3, 3, 4, 3, 4, 4, 5, 3, 4, 4, 5, 4, 5, 5, 6, 3, 4, 4, 5, 4, 5, 5, 6, 4, 5, 5, 6, 5, 6, 6, 7, 1, 2, 2, 3, 2, 3, 3, 4, 2, 3, 3, 4, 3, 4, 4, 5, 2, 3, 3, 4, 3, 4, 4, 5, 3, 4, 4, 5, 4, 5, 5, 6, 2, 3, 3, 4, 3, 4, 4, 5, 3, 4, 4, 5, 4, 5, 5, 6, 3, 4, 4, 5, 4, 5, 5, 6, 4, 5, 5, 6, 5, 6, 6, 7, 2, 3, 3, 4, 3, 4, 4, 5, 3, 4, 4, 5, 4, 5, 5, 6, 3, 4, 4, 5, 4, 5, 5, 6, 4, 5, 5, 6, 5, 6, 6, 7, 3, 4, 4, 5, 4, 5, 5, 6, 4, 5, 5, 6, 5, 6, 6, 7, 4, 5, 5, 6, 5, 6, 6, 7, 5, 6, 6, 7, 6, 7, 7, 8]⟩
theorem popTab_at : ∀ b : Fin 256, bt popTab ((b.val : Nat) : Int) = ((pc 8 b.val : Nat) : Int) := by decide +kernel
theorem popTab_at' (b : Nat) (h : b < 256) : bt popTab (b : Int) = ((pc 8 b : Nat) : Int) := popTab_at ⟨b, h⟩
theorem and255 (a : Nat) (ha : a < 4294967296) : Go.bits .and .u32 (a : Int) 255 = ((a % 256 : Nat) : Int) := by
 have h := and32 a 255 ha (by omega)
 rw [Nat.and_two_pow_sub_one_eq_mod a 8] at h
 exact h
theorem pc32_parts (m : Nat) : pc 32 m = pc 8 (m / 16777216) + pc 8 (m / 65536 % 256) + pc 8 (m / 256 % 256) + pc 8 (m % 256) := by
 have e0 := pc_mod 8 m
 have e1 := pc_mod 8 (m / 256)
 have e2 := pc_mod 8 (m / 65536)
 have a1 := pc_add 8 24 m
 have a2 := pc_add 8 16 (m / 256)
 have a3 := pc_add 8 8 (m / 65536)
 rw [show (2 : Nat) ^ 8 = 256 from rfl] at *
 rw [Nat.div_div_eq_div_mul] at a2 a3
 simp only [Nat.reduceMul, Nat.reduceAdd] at a1 a2 a3
 omega
theorem ones_sum (m : Nat) (hm : m < 4294967296) :
  (if 0 ≤ ((m : Int) / 16777216) then (if ((m : Int) / 16777216) < 256 then (if 0 ≤ (Go.bits .and .u32 ((m : Int) / 65536) 255) then (if (Go.bits .and .u32 ((m : Int) / 65536) 255) < 256 then (if 0 ≤ (Go.bits .and .u32 ((m : Int) / 256) 255) then (if (Go.bits .and .u32 ((m : Int) / 256) 255) < 256 then (if 0 ≤ (Go.bits .and .u32 (m : Int) 255) then (if (Go.bits .and .u32 (m : Int) 255) < 256 then (some (((((((bt popTab ((m : Int) / 16777216)) + (bt popTab (Go.bits .and .u32 ((m : Int) / 65536) 255))) % 256) + (bt popTab (Go.bits .and .u32 ((m : Int) / 256) 255))) % 256) + (bt popTab (Go.bits .and .u32 (m : Int) 255))) % 256)) else (none)) else (none)) else (none)) else (none)) else (none)) else (none)) else (none)) else (none)) = some ((pc 32 m : Nat) : Int) := by
 have d1 : ((m : Int) / 16777216) = ((m / 16777216 : Nat) : Int) := by omega
 have d2 : ((m : Int) / 65536) = ((m / 65536 : Nat) : Int) := by omega
 have d3 : ((m : Int) / 256) = ((m / 256 : Nat) : Int) := by omega
 rw [d1, d2, d3, and255 _ (by omega), and255 _ (by omega), and255 _ hm]
 rw [popTab_at' _ (by omega), popTab_at' _ (by omega), popTab_at' _ (by omega), popTab_at' _ (by omega)]
 rw [if_pos (by omega), if_pos (by omega), if_pos (by omega), if_pos (by omega), if_pos (by omega), if_pos (by omega), if_pos (by omega), if_pos (by omega)]
 have h1 := pc_le 8 (m / 16777216)
 have h2 := pc_le 8 (m / 65536 % 256)
 have h3 := pc_le 8 (m / 256 % 256)
 have h4 := pc_le 8 (m % 256)
 have h := pc32_parts m
 have e : ((((((pc 8 (m / 16777216) : Nat) : Int) + ((pc 8 (m / 65536 % 256) : Nat) : Int)) % 256 + ((pc 8 (m / 256 % 256) : Nat) : Int)) % 256 + ((pc 8 (m % 256) : Nat) : Int)) % 256) = ((pc 32 m : Nat) : Int) := by
  generalize pc 8 (m / 16777216) = x1 at *
  generalize pc 8 (m / 65536 % 256) = x2 at *
  generalize pc 8 (m / 256 % 256) = x3 at *
  generalize pc 8 (m % 256) = x4 at *
  generalize pc 32 m = x at *
  omega
 rw [e]

end Go.Proofs.Ytijeigiilgapdaa.XPoolBits
