/-
  The sum of bytes as steps on words of 32 bits: linear, and no nonzero word comes to nothing: so bits that are turned within 32 of one another turn the sum. Plain lemmas, without condition.
-/
import Derived.Test.YtglpelhbncdkmaaXCheck
namespace Go.Proofs.Ytglpelhbncdkmaa.XCheck

/-! The sum's step on words of 32 bits. -/
def P32 : BitVec 32 := 79764919#32
def sb (v : BitVec 32) : BitVec 32 := (v <<< 1) ^^^ (if v.msb then P32 else 0#32)
def sbN : Nat → BitVec 32 → BitVec 32
  | 0, v => v
  | k + 1, v => sbN k (sb v)
def bw (b : Bool) : BitVec 32 := if b then 2147483648#32 else 0#32
/-- Bits, one after the other. -/
def run (v : BitVec 32) (l : List Bool) : BitVec 32 := l.foldl (fun s b => sb (s ^^^ bw b)) v
def word : List Bool → BitVec 32
  | [] => 0#32
  | b :: l => bw b ^^^ (word l >>> 1)

theorem sb_xor (u v : BitVec 32) : sb (u ^^^ v) = sb u ^^^ sb v := by
  unfold sb
  rw [BitVec.msb_xor, BitVec.shiftLeft_xor_distrib]
  cases hu : u.msb <;> cases hv : v.msb
  · simp
  · simp only [Bool.false_bne, Bool.false_eq_true, if_true, if_false, BitVec.xor_zero]; ac_rfl
  · simp only [Bool.bne_false, Bool.false_eq_true, if_true, if_false, BitVec.xor_zero]; ac_rfl
  · simp only [Bool.xor_self, Bool.false_eq_true, if_true, if_false, BitVec.xor_zero]
    rw [show (u <<< 1 ^^^ P32) ^^^ (v <<< 1 ^^^ P32) = (u <<< 1 ^^^ v <<< 1) ^^^ (P32 ^^^ P32) by ac_rfl, BitVec.xor_self, BitVec.xor_zero]
theorem sbN_xor (k : Nat) (u v : BitVec 32) : sbN k (u ^^^ v) = sbN k u ^^^ sbN k v := by
  induction k generalizing u v with
  | zero => rfl
  | succ k ih => simp only [sbN]; rw [sb_xor, ih]
theorem sb_zero : sb 0#32 = 0#32 := by decide
theorem sb_inj {v : BitVec 32} (h : sb v = 0#32) : v = 0#32 := by
  have h0 : (sb v).getLsbD 0 = v.msb := by
    unfold sb
    cases hv : v.msb <;> simp [P32]
  rw [h] at h0
  have hm : v.msb = false := by rw [← h0]; simp
  unfold sb at h
  rw [hm] at h
  simp only [Bool.false_eq_true, if_false, BitVec.xor_zero] at h
  apply BitVec.eq_of_getLsbD_eq
  intro i hi
  by_cases hi2 : i = 31
  · subst hi2
    rw [BitVec.msb_eq_getLsbD_last] at hm
    simpa using hm
  · have h2 : (v <<< 1).getLsbD (i + 1) = false := by rw [h]; simp
    rw [BitVec.getLsbD_shiftLeft] at h2
    have : i + 1 < 32 := by omega
    simpa [this] using h2
theorem sbN_inj {k : Nat} {v : BitVec 32} (h : sbN k v = 0#32) : v = 0#32 := by
  induction k generalizing v with
  | zero => exact h
  | succ k ih => exact sb_inj (ih h)
theorem run_append (v : BitVec 32) (a b : List Bool) : run v (a ++ b) = run (run v a) b := by unfold run; rw [List.foldl_append]
/-- Linear. -/
theorem run_xor (a : List Bool) : ∀ (u v : BitVec 32) (b : List Bool), a.length = b.length → run u a ^^^ run v b = run (u ^^^ v) (List.zipWith xor a b) := by
  induction a with
  | nil => intro u v b h; obtain rfl := List.eq_nil_of_length_eq_zero h.symm; rfl
  | cons x a ih =>
    intro u v b h
    cases b with
    | nil => cases h
    | cons y b =>
      have := ih (sb (u ^^^ bw x)) (sb (v ^^^ bw y)) b (by simpa using h)
      show run (sb (u ^^^ bw x)) a ^^^ run (sb (v ^^^ bw y)) b = run (sb ((u ^^^ v) ^^^ bw (xor x y))) (List.zipWith xor a b)
      rw [this, ← sb_xor]
      congr 2
      have hb : bw (xor x y) = bw x ^^^ bw y := by cases x <;> cases y <;> decide
      rw [hb]
      ac_rfl
theorem run_zeros (n : Nat) : run 0#32 (List.replicate n false) = 0#32 := by
  induction n with
  | zero => rfl
  | succ n ih =>
    rw [List.replicate_succ]
    show run (sb (0#32 ^^^ bw false)) _ = _
    rw [show sb (0#32 ^^^ bw false) = 0#32 by decide]
    exact ih
theorem run_zeros_inj {n : Nat} {v : BitVec 32} (h : run v (List.replicate n false) = 0#32) : v = 0#32 := by
  induction n generalizing v with
  | zero => exact h
  | succ n ih =>
    rw [List.replicate_succ] at h
    have := sb_inj (ih h)
    rwa [show bw false = 0#32 from rfl, BitVec.xor_zero] at this
/-- A word's low bits. -/
theorem word_low (l : List Bool) : ∀ i, i + l.length < 32 → (word l).getLsbD i = false := by
  induction l with
  | nil => intro i _; simp [word]
  | cons b l ih =>
    intro i h
    simp only [List.length_cons] at h
    simp only [word, BitVec.getLsbD_xor, BitVec.getLsbD_ushiftRight]
    rw [ih (1 + i) (by omega)]
    have : i ≠ 31 := by omega
    unfold bw
    cases b
    · simp
    · have h2 : i < 31 := by omega
      have h3 : (2147483648#32).getLsbD i = false := by
        rw [show (2147483648#32) = BitVec.twoPow 32 31 by decide, BitVec.getLsbD_twoPow]
        simp
        omega
      simp [h3]
theorem sb_shift {w : BitVec 32} (h : w.getLsbD 0 = false) : sb (w >>> 1) = w := by
  have hm : (w >>> 1).msb = false := by
    rw [BitVec.msb_eq_getLsbD_last]
    simp
  unfold sb
  rw [hm]
  simp only [Bool.false_eq_true, if_false, BitVec.xor_zero]
  apply BitVec.eq_of_getLsbD_eq
  intro i hi
  rw [BitVec.getLsbD_shiftLeft, BitVec.getLsbD_ushiftRight]
  by_cases h0 : i = 0
  · subst h0; rw [h]; simp
  · have : 1 + (i - 1) = i := by omega
    simp [hi, this]
    omega
/-- Up to 32 bits come to so many steps of their word. -/
theorem run_word (l : List Bool) : ∀ (t : BitVec 32), l.length ≤ 32 → run t l = sbN l.length (t ^^^ word l) := by
  induction l with
  | nil => intro t _; simp [run, word, sbN]
  | cons b l ih =>
    intro t h
    simp only [List.length_cons] at h
    show run (sb (t ^^^ bw b)) l = sbN l.length (sb (t ^^^ (bw b ^^^ (word l >>> 1))))
    rw [ih _ (by omega), ← BitVec.xor_assoc, sb_xor (t ^^^ bw b), sb_shift (word_low l 0 (by omega))]
theorem word_ne (l : List Bool) (h : l.length ≤ 32) (hw : word l = 0#32) : ∀ b ∈ l, b = false := by
  induction l with
  | nil => simp
  | cons b l ih =>
    simp only [List.length_cons] at h
    have hb : b = false := by
      have h1 : (word (b :: l)).getLsbD 31 = false := by rw [hw]; simp
      simp only [word, BitVec.getLsbD_xor, BitVec.getLsbD_ushiftRight] at h1
      cases b
      · rfl
      · simp [bw] at h1
    subst hb
    have h2 : word l = 0#32 := by
      have h3 : word l >>> 1 = 0#32 := by
        have : word (false :: l) = 0#32 ^^^ (word l >>> 1) := rfl
        rw [this, BitVec.zero_xor] at hw
        exact hw
      have h4 := sb_shift (word_low l 0 (by omega))
      rw [h3] at h4
      rw [← h4, sb_zero]
    intro c hc
    rcases List.mem_cons.1 hc with rfl | hm
    · rfl
    · exact ih (by omega) h2 c hm
/-- Bits that are turned within 32 of one another turn the sum. -/
theorem run_burst (a c : Nat) (l : List Bool) (hl : l.length ≤ 32) (h : run 0#32 (List.replicate a false ++ l ++ List.replicate c false) = 0#32) : ∀ b ∈ l, b = false := by
  rw [run_append, run_append, run_zeros] at h
  have h1 := run_zeros_inj h
  rw [run_word l _ hl, BitVec.zero_xor] at h1
  exact word_ne l hl (sbN_inj h1)
/-! From numbers to words. -/
def enc (v : BitVec 32) : Int := (v.toNat : Int)
theorem enc_lt (v : BitVec 32) : 0 ≤ enc v ∧ enc v < 4294967296 := by
  have := v.isLt
  unfold enc
  omega
theorem enc_inj {u v : BitVec 32} (h : enc u = enc v) : u = v := by
  unfold enc at h
  exact BitVec.eq_of_toNat_eq (by omega)
theorem xor_enc (u v : BitVec 32) : Go.bits .xor .u32 (enc u) (enc v) = enc (u ^^^ v) := by
  show IntKind.u32.wrap (((BitVec.ofInt 32 (u.toNat : Int) ^^^ BitVec.ofInt 32 (v.toNat : Int)).toNat : Nat) : Int) = _
  rw [BitVec.ofInt_natCast, BitVec.ofInt_natCast, BitVec.ofNat_toNat, BitVec.ofNat_toNat, BitVec.setWidth_eq, BitVec.setWidth_eq, IntKind.wrap_u32]
  have := (u ^^^ v).isLt
  unfold enc
  omega
theorem shl_enc (v : BitVec 32) : (enc v * (2 : Int) % (4294967296 : Int) : Int) = enc (v <<< (1 : Nat)) := by
  unfold enc
  rw [BitVec.toNat_shiftLeft, Nat.shiftLeft_eq]
  omega
theorem msb_enc (v : BitVec 32) : (enc v / 2147483648 = 1) ↔ v.msb = true := by
  have := v.isLt
  unfold enc
  rw [BitVec.msb_eq_decide]
  simp
  omega
theorem st_enc (v : BitVec 32) : st (enc v) = enc (sb v) := by
  unfold st sb
  rw [shl_enc]
  by_cases h : v.msb = true
  · rw [if_pos ((msb_enc v).2 h), if_pos h, show (79764919 : Int) = enc P32 by decide, xor_enc]
  · rw [if_neg (fun h2 => h ((msb_enc v).1 h2)), if_neg h, BitVec.xor_zero]
theorem stN_enc (k : Nat) : ∀ v : BitVec 32, stN k (enc v) = enc (sbN k v) := by
  induction k with
  | zero => intro v; rfl
  | succ k ih => intro v; rw [stN_succ, st_enc, ih]; rfl
def bits8 (c : Int) : List Bool := [c.toNat.testBit 7, c.toNat.testBit 6, c.toNat.testBit 5, c.toNat.testBit 4, c.toNat.testBit 3, c.toNat.testBit 2, c.toNat.testBit 1, c.toNat.testBit 0]
theorem word8' : ∀ c : Fin 256, word (bits8 ((c.val : Nat) : Int)) = BitVec.ofNat 32 (c.val * 16777216) := by decide +kernel
theorem word8 (c : Nat) (h : c < 256) : word (bits8 (c : Int)) = BitVec.ofNat 32 (c * 16777216) := word8' ⟨c, h⟩
/-- Steps over what has no high bits are shifts. -/
theorem sbN_low (k : Nat) : ∀ v : BitVec 32, v.toNat * 2 ^ k < 4294967296 → sbN k v = BitVec.ofNat 32 (v.toNat * 2 ^ k) := by
  induction k with
  | zero => intro v h; simp [sbN]
  | succ k ih =>
    intro v h
    rw [Nat.pow_succ] at h
    have h1 : v.toNat * 2 < 4294967296 := by
      have : 1 ≤ 2 ^ k := Nat.one_le_two_pow
      have h2 : v.toNat * 2 * 1 ≤ v.toNat * 2 * 2 ^ k := Nat.mul_le_mul_left _ this
      rw [show v.toNat * (2 ^ k * 2) = v.toNat * 2 * 2 ^ k by rw [Nat.mul_comm (2 ^ k) 2, Nat.mul_assoc]] at h
      omega
    have hm : v.msb = false := by
      rw [BitVec.msb_eq_decide]
      simp
      omega
    have hs : sb v = BitVec.ofNat 32 (v.toNat * 2) := by
      unfold sb
      rw [hm]
      simp only [Bool.false_eq_true, if_false, BitVec.xor_zero]
      apply BitVec.eq_of_toNat_eq
      rw [BitVec.toNat_shiftLeft, BitVec.toNat_ofNat, Nat.shiftLeft_eq]
    have ht : (BitVec.ofNat 32 (v.toNat * 2)).toNat = v.toNat * 2 := by rw [BitVec.toNat_ofNat]; omega
    show sbN k (sb v) = _
    rw [hs, ih _ (by rw [ht, Nat.mul_assoc, Nat.mul_comm 2]; exact h), ht, Nat.pow_succ, Nat.mul_assoc, Nat.mul_comm 2]
theorem xor_u8 (a b : Nat) (ha : a < 256) (hb : b < 256) : Go.bits .xor .u8 (a : Int) (b : Int) = ((a ^^^ b : Nat) : Int) ∧ a ^^^ b < 256 := by
  have h : a ^^^ b < 2 ^ 8 := Nat.xor_lt_two_pow ha hb
  refine ⟨?_, h⟩
  have ha' : a % 2 ^ 8 = a := Nat.mod_eq_of_lt ha
  have hb' : b % 2 ^ 8 = b := Nat.mod_eq_of_lt hb
  show IntKind.u8.wrap (((BitVec.ofInt 8 (a : Int) ^^^ BitVec.ofInt 8 (b : Int)).toNat : Nat) : Int) = _
  rw [BitVec.ofInt_natCast, BitVec.ofInt_natCast, BitVec.toNat_xor, BitVec.toNat_ofNat, BitVec.toNat_ofNat, ha', hb', IntKind.wrap_u8]
  omega
theorem word_enc (z : Nat) : (((z : Nat) : Int) * (16777216 : Int) % (4294967296 : Int) : Int) = enc (BitVec.ofNat 32 (z * 16777216)) := by
  unfold enc
  rw [BitVec.toNat_ofNat]
  omega
/-- One byte, by the table, or bit by bit. -/
theorem fr1_enc (v : BitVec 32) (c : Nat) (hc : c < 256) : fr1 (enc v) (c : Int) = enc (run v (bits8 (c : Int))) := by
  have hv := v.isLt
  have hrun : run v (bits8 (c : Int)) = sbN 8 (v ^^^ BitVec.ofNat 32 (c * 16777216)) := by
    rw [run_word _ v (Nat.le_of_lt (by show 8 < 32; decide)), word8 c hc]; rfl
  have hix : ix (enc v) (c : Int) = ((v.toNat / 16777216 ^^^ c : Nat) : Int) := by
    rw [ix_eq]
    have : enc v / 16777216 = ((v.toNat / 16777216 : Nat) : Int) := by unfold enc; omega
    rw [this]
    exact (xor_u8 _ _ (by omega) hc).1
  have hlt : v.toNat / 16777216 ^^^ c < 256 := (xor_u8 _ _ (by omega) hc).2
  have htab : tab ((v.toNat / 16777216 ^^^ c : Nat) : Int) = enc (sbN 8 (BitVec.ofNat 32 ((v.toNat / 16777216 ^^^ c) * 16777216))) := by
    rw [← stN_enc, ← word_enc]
    rfl
  have hlow : enc v * 256 % 4294967296 = enc (sbN 8 (BitVec.ofNat 32 (v.toNat % 16777216))) := by
    have h1 : (BitVec.ofNat 32 (v.toNat % 16777216)).toNat = v.toNat % 16777216 := by rw [BitVec.toNat_ofNat]; omega
    rw [sbN_low 8 _ (by rw [h1]; omega), h1]
    unfold enc
    rw [BitVec.toNat_ofNat]
    omega
  rw [fr1_eq, hix, htab, hlow, xor_enc, ← sbN_xor, hrun]
  congr 2
  apply BitVec.eq_of_getLsbD_eq
  intro i hi
  simp only [BitVec.getLsbD_xor, BitVec.getLsbD_ofNat]
  have hvi : v.getLsbD i = v.toNat.testBit i := rfl
  rw [hvi]
  have e1 : (v.toNat % 16777216).testBit i = (decide (i < 24) && v.toNat.testBit i) := by
    rw [show (16777216 : Nat) = 2 ^ 24 from rfl, Nat.testBit_mod_two_pow]
  have e2 : ∀ z : Nat, (z * 16777216).testBit i = (decide (24 ≤ i) && z.testBit (i - 24)) := by
    intro z
    rw [show (16777216 : Nat) = 2 ^ 24 from rfl, Nat.testBit_mul_two_pow]
  have e3 : (v.toNat / 16777216 ^^^ c).testBit (i - 24) = ((v.toNat / 16777216).testBit (i - 24) ^^ c.testBit (i - 24)) := Nat.testBit_xor ..
  rw [e1, e2, e2, e3]
  by_cases h24 : 24 ≤ i
  · have h3 : (v.toNat / 16777216).testBit (i - 24) = v.toNat.testBit i := by
      rw [show (16777216 : Nat) = 2 ^ 24 from rfl, Nat.testBit_div_two_pow]
      congr 1
      omega
    rw [h3]
    have h4 : ¬ i < 24 := by omega
    simp [hi, h24, h4]
  · have h4 : i < 24 := by omega
    simp [hi, h24, h4]
def bitsOf (l : List Int) : List Bool := l.flatMap bits8
theorem byte_of {c : Int} (h : 0 ≤ c ∧ c < 256) : ∃ n : Nat, c = (n : Int) ∧ n < 256 := ⟨c.toNat, by omega, by omega⟩
theorem fr_enc (l : List Int) (hl : ∀ c ∈ l, 0 ≤ c ∧ c < 256) : ∀ v : BitVec 32, fr (enc v) l = enc (run v (bitsOf l)) := by
  induction l with
  | nil => intro v; rfl
  | cons c l ih =>
    intro v
    obtain ⟨n, rfl, hn⟩ := byte_of (hl c (List.mem_cons_self))
    show fr (fr1 (enc v) (n : Int)) l = enc (run v (bits8 (n : Int) ++ bitsOf l))
    rw [fr1_enc v n hn, ih (fun c hc => hl c (List.mem_cons_of_mem _ hc)), run_append]
theorem enc_of (s : Int) (h : 0 ≤ s ∧ s < 4294967296) : ∃ v : BitVec 32, s = enc v := by
  refine ⟨BitVec.ofNat 32 s.toNat, ?_⟩
  unfold enc
  rw [BitVec.toNat_ofNat]
  omega
theorem start_enc : (4294967295 : Int) = enc 4294967295#32 := by decide
theorem From_f (s : Int) (l : List Int) (hs : 0 ≤ s ∧ s < 4294967296) (hl : ∀ c ∈ l, 0 ≤ c ∧ c < 256) : check_From.f s l = some (fr s l) := by
  unfold check_From.f
  rw [if_pos]
  rw [Bool.and_eq_true, decide_eq_true_eq, List.all_eq_true]
  exact ⟨hs, fun c hc => decide_eq_true (hl c hc)⟩
theorem fr_append (s : Int) (a b : List Int) : fr s (a ++ b) = fr (fr s a) b := by unfold fr; rw [List.foldl_append]
/-- The sums of two texts of one length are one just if the bits that part them come to nothing. -/
theorem sums_eq (a b : List Int) (ha : ∀ c ∈ a, 0 ≤ c ∧ c < 256) (hb : ∀ c ∈ b, 0 ≤ c ∧ c < 256) (hab : a.length = b.length) (s : Int) (hs : 0 ≤ s ∧ s < 4294967296) :
    fr s a = fr s b ↔ run 0#32 (List.zipWith xor (bitsOf a) (bitsOf b)) = 0#32 := by
  obtain ⟨v, rfl⟩ := enc_of s hs
  rw [fr_enc a ha, fr_enc b hb]
  have hlen : ∀ l : List Int, (bitsOf l).length = 8 * l.length := by
    intro l
    induction l with
    | nil => rfl
    | cons c l ih =>
      show (bits8 c ++ bitsOf l).length = _
      rw [List.length_append, ih, List.length_cons]
      show 8 + _ = _
      omega
  have hx := run_xor (bitsOf a) v v (bitsOf b) (by rw [hlen, hlen, hab])
  rw [BitVec.xor_self] at hx
  rw [← hx]
  constructor
  · intro h; rw [enc_inj h, BitVec.xor_self]
  · intro h
    have h2 : run v (bitsOf a) = run v (bitsOf b) := by
      have h3 : run v (bitsOf a) ^^^ run v (bitsOf b) ^^^ run v (bitsOf b) = 0#32 ^^^ run v (bitsOf b) := by rw [h]
      rw [BitVec.xor_assoc, BitVec.xor_self, BitVec.xor_zero, BitVec.zero_xor] at h3
      exact h3
    rw [h2]
end Go.Proofs.Ytglpelhbncdkmaa.XCheck
