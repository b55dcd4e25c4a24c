/-
  CheckFour: four bytes behind any others (2000 at most, as the statement has it): unlike ones have unlike sums.
-/
import Derived.Test.YtpppicehpadcbaaXCheckMath
import Derived.Test.YtpppicehpadcbaaQCheckFourx1
namespace Go.Proofs.Ytpppicehpadcbaa.Pure
open Go.RowKit Go.Proofs.Ytpppicehpadcbaa.QCheckFour Go.Proofs.Ytpppicehpadcbaa.XCheck Go.Proofs.YtpppicehpadcbaaW.PrintWords Go.Proofs.YtpppicehpadcbaaW.PrintLast
theorem u8_of (a : Int) (h : (Lit.int .u8 a).wf = true) : 0 ≤ a ∧ a < 256 := by
  simp only [Lit.wf, IntKind.min, IntKind.max, IntKind.signed, IntKind.bits, Bool.and_eq_true] at h
  simp at h
  omega
theorem u16_of (a : Int) (h : (Lit.int .u16 a).wf = true) : 0 ≤ a ∧ a < 65536 := by
  simp only [Lit.wf, IntKind.min, IntKind.max, IntKind.signed, IntKind.bits, Bool.and_eq_true] at h
  simp at h
  omega
theorem u32_of (a : Int) (h : (Lit.int .u32 a).wf = true) : 0 ≤ a ∧ a < 4294967296 := by
  simp only [Lit.wf, IntKind.min, IntKind.max, IntKind.signed, IntKind.bits, Bool.and_eq_true] at h
  simp at h
  omega
theorem short_f (l : List Int) (hl : ∀ x ∈ l, (Lit.int .u8 x).wf = true) : ∃ m : List Int, prebendlaw04_short.f l = some m ∧ m.length ≤ 2000 ∧ ∀ c ∈ m, 0 ≤ c ∧ c < 256 := by
  refine ⟨l.take 2000, ?_, by rw [List.length_take]; omega, fun c hc => u8_of c (hl c (List.mem_of_mem_take hc))⟩
  unfold prebendlaw04_short.f
  by_cases h : (l.length : Int) > 2000
  · rw [if_pos h, if_pos (by omega)]
  · rw [if_neg h, List.take_of_length_le (by omega)]
theorem fromf (s : Int) (l : List Int) (hs : 0 ≤ s ∧ s < 4294967296) (hl : ∀ c ∈ l, 0 ≤ c ∧ c < 256) : QCheckFour.check_From.f s l = some (fr s l) := From_f s l hs hl
theorem Of_f (l : List Int) (hl : ∀ c ∈ l, 0 ≤ c ∧ c < 256) : check_Of.f l = some (fr 4294967295 l) := by
  unfold check_Of.f
  rw [fromf _ l (by omega) hl]
  rfl

/-- A number's four bytes, the highest one first. -/
def be4 (m : Nat) : List Int := [((m / 16777216 % 256 : Nat) : Int), ((m / 65536 % 256 : Nat) : Int), ((m / 256 % 256 : Nat) : Int), ((m % 256 : Nat) : Int)]
theorem be4_range (m : Nat) : ∀ c ∈ be4 m, 0 ≤ c ∧ c < 256 := by
  intro c hc
  simp only [be4, List.mem_cons, List.not_mem_nil, or_false] at hc
  omega
def val8 (l : List Bool) : Nat := l.foldl (fun s b => 2 * s + (if b then 1 else 0)) 0
theorem val8_bits' : ∀ c : Fin 256, val8 (bits8 ((c.val : Nat) : Int)) = c.val := by decide +kernel
theorem bits8_inj {a b : Nat} (ha : a < 256) (hb : b < 256) (h : bits8 (a : Int) = bits8 (b : Int)) : a = b := by
  have h1 := val8_bits' ⟨a, ha⟩
  have h2 := val8_bits' ⟨b, hb⟩
  simp only at h1 h2
  rw [← h1, ← h2, h]
theorem zip_false (a : List Bool) : ∀ b : List Bool, a.length = b.length → (∀ x ∈ List.zipWith xor a b, x = false) → a = b := by
  induction a with
  | nil => intro b h _; exact (List.eq_nil_of_length_eq_zero h.symm).symm
  | cons x a ih =>
    intro b h hf
    cases b with
    | nil => cases h
    | cons y b =>
      have h1 := hf (xor x y) (by simp)
      have h2 := ih b (by simpa using h) (fun z hz => hf z (by simp [hz]))
      rw [h2]
      cases x <;> cases y <;> simp_all
theorem be4_inj {m n : Nat} (hm : m < 4294967296) (hn : n < 4294967296) (h : bitsOf (be4 m) = bitsOf (be4 n)) : m = n := by
  have e : ∀ z : Nat, bitsOf (be4 z) = bits8 ((z / 16777216 % 256 : Nat) : Int) ++ (bits8 ((z / 65536 % 256 : Nat) : Int) ++ (bits8 ((z / 256 % 256 : Nat) : Int) ++ (bits8 ((z % 256 : Nat) : Int) ++ []))) := fun z => rfl
  rw [e, e] at h
  have l8 : ∀ c : Int, (bits8 c).length = 8 := fun c => rfl
  obtain ⟨h1, h⟩ := List.append_inj h (by rw [l8, l8])
  obtain ⟨h2, h⟩ := List.append_inj h (by rw [l8, l8])
  obtain ⟨h3, h⟩ := List.append_inj h (by rw [l8, l8])
  obtain ⟨h4, _⟩ := List.append_inj h (by rw [l8, l8])
  have g1 := bits8_inj (by omega) (by omega) h1
  have g2 := bits8_inj (by omega) (by omega) h2
  have g3 := bits8_inj (by omega) (by omega) h3
  have g4 := bits8_inj (by omega) (by omega) h4
  omega
theorem four_sums (x : List Int) (m n : Nat) (hm : m < 4294967296) (hn : n < 4294967296) :
    fr 4294967295 (x ++ be4 m) = fr 4294967295 (x ++ be4 n) ↔ m = n := by
  constructor
  · intro h
    rw [fr_append, fr_append] at h
    rw [sums_eq (be4 m) (be4 n) (be4_range m) (be4_range n) rfl _ (fr_range _ x (by omega))] at h
    have hz : List.replicate 0 false ++ List.zipWith xor (bitsOf (be4 m)) (bitsOf (be4 n)) ++ List.replicate 0 false = List.zipWith xor (bitsOf (be4 m)) (bitsOf (be4 n)) := by simp
    have hb := run_burst 0 0 (List.zipWith xor (bitsOf (be4 m)) (bitsOf (be4 n))) (by rw [List.length_zipWith]; exact Nat.le_refl 32) (by rw [hz]; exact h)
    exact be4_inj hm hn (zip_false _ _ rfl hb)
  · intro h; rw [h]
theorem byte_at (m : Nat) (j : Nat) (hj : j ≤ 3) : (shr .u32 (m : Int) (IntKind.u64.wrap (wrap64 (8 * (j : Int))))) % 256 = ((m / 2 ^ (8 * j) % 256 : Nat) : Int) ∧ 0 ≤ IntKind.u64.wrap (wrap64 (8 * (j : Int))) := by
  have h1 : wrap64 (8 * (j : Int)) = ((8 * j : Nat) : Int) := by unfold wrap64; omega
  have h2 : IntKind.u64.wrap ((8 * j : Nat) : Int) = ((8 * j : Nat) : Int) := by simp [IntKind.wrap, IntKind.bits, IntKind.signed]; omega
  rw [h1, h2]
  refine ⟨?_, by omega⟩
  unfold shr
  rw [Int.toNat_natCast, Nat.min_eq_left (by show 8 * j ≤ 32; omega)]
  simp
theorem CheckFour : prebendlaw04_CheckFour.Pure := by
  intro l0 a1 a2 _ _ w0 w1 w2
  obtain ⟨x, x1, x2, x3⟩ := short_f l0 w0
  obtain ⟨m0, m1⟩ := u32_of a1 w1
  obtain ⟨n0, n1⟩ := u32_of a2 w2
  obtain ⟨m, rfl⟩ := Int.eq_ofNat_of_zero_le m0
  obtain ⟨n, rfl⟩ := Int.eq_ofNat_of_zero_le n0
  refine ⟨6, ?_⟩
  unfold prebendlaw04_CheckFour.f
  rw [x1]
  simp only [Option.bind_some, List.nil_append]
  rw [if_pos (by rw [List.length_nil]; omega), if_pos (by rw [List.length_nil]; omega)]
  have step : ∀ (k j : Nat) (u v : List Int), j ≤ 3 → u.length ≤ 2010 → v.length ≤ 2010 → prebendlaw04_CheckFour.l0 (k + 1) (m : Int) (n : Int) u v (j : Int) = prebendlaw04_CheckFour.l0 k (m : Int) (n : Int) (u ++ [((m / 2 ^ (8 * j) % 256 : Nat) : Int)]) (v ++ [((n / 2 ^ (8 * j) % 256 : Nat) : Int)]) ((j : Int) - 1) := by
    intro k j u v hj hu hv
    simp only [prebendlaw04_CheckFour.l0]
    rw [if_pos (by omega), (byte_at m j hj).1, (byte_at n j hj).1, if_pos (byte_at m j hj).2, if_pos (by omega), if_pos (by omega), show wrap64 ((j : Int) - 1) = (j : Int) - 1 by unfold wrap64; omega]
  have s3 := step 5 3 x x (by omega) (by omega) (by omega)
  have s2 := step 4 2 (x ++ [((m / 2 ^ (8 * 3) % 256 : Nat) : Int)]) (x ++ [((n / 2 ^ (8 * 3) % 256 : Nat) : Int)]) (by omega) (by simp; omega) (by simp; omega)
  have s1 := step 3 1 _ _ (by omega) (show (x ++ [((m / 2 ^ (8 * 3) % 256 : Nat) : Int)] ++ [((m / 2 ^ (8 * 2) % 256 : Nat) : Int)]).length ≤ 2010 by simp; omega) (show (x ++ [((n / 2 ^ (8 * 3) % 256 : Nat) : Int)] ++ [((n / 2 ^ (8 * 2) % 256 : Nat) : Int)]).length ≤ 2010 by simp; omega)
  have s0 := step 2 0 _ _ (by omega) (show (x ++ [((m / 2 ^ (8 * 3) % 256 : Nat) : Int)] ++ [((m / 2 ^ (8 * 2) % 256 : Nat) : Int)] ++ [((m / 2 ^ (8 * 1) % 256 : Nat) : Int)]).length ≤ 2010 by simp; omega) (show (x ++ [((n / 2 ^ (8 * 3) % 256 : Nat) : Int)] ++ [((n / 2 ^ (8 * 2) % 256 : Nat) : Int)] ++ [((n / 2 ^ (8 * 1) % 256 : Nat) : Int)]).length ≤ 2010 by simp; omega)
  have c3 : (((3 : Nat) : Int) - 1) = ((2 : Nat) : Int) := rfl
  have c2 : (((2 : Nat) : Int) - 1) = ((1 : Nat) : Int) := rfl
  have c1 : (((1 : Nat) : Int) - 1) = ((0 : Nat) : Int) := rfl
  rw [show (3 : Int) = ((3 : Nat) : Int) from rfl, s3, c3, s2, c2, s1, c1, s0]
  have fin : ∀ z : Nat, x ++ [((z / 2 ^ (8 * 3) % 256 : Nat) : Int)] ++ [((z / 2 ^ (8 * 2) % 256 : Nat) : Int)] ++ [((z / 2 ^ (8 * 1) % 256 : Nat) : Int)] ++ [((z / 2 ^ (8 * 0) % 256 : Nat) : Int)] = x ++ be4 z := by
    intro z
    simp [be4]
  rw [fin, fin]
  simp only [prebendlaw04_CheckFour.l0]
  rw [if_neg (by decide), show prebendlaw04_awake.f = some true from rfl]
  simp only [Option.bind_some, if_true]
  rw [Of_f _ (fun c hc => (List.mem_append.1 hc).elim (x3 c) (be4_range m c)), Of_f _ (fun c hc => (List.mem_append.1 hc).elim (x3 c) (be4_range n c))]
  simp only [Option.bind_some]
  have h := four_sums x m n (by omega) (by omega)
  by_cases hmn : m = n
  · subst hmn; simp
  · have h1 : ¬ fr 4294967295 (x ++ be4 m) = fr 4294967295 (x ++ be4 n) := fun h2 => hmn (h.1 h2)
    have h2 : ¬ ((m : Int) = (n : Int)) := by omega
    rw [beq_eq_false_iff_ne.2 h1, beq_eq_false_iff_ne.2 h2]
    rfl

end Go.Proofs.Ytpppicehpadcbaa.Pure
