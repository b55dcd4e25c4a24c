/-
  CheckOf: check.From and check.Of answer as the document says, for any sum and any bytes (the statement looks at 2000 of them at most).
-/
import Derived.Test.YtpppicehpadcbaaXCheckMath
import Derived.Test.YtpppicehpadcbaaQCheckOfx1
namespace Go.Proofs.Ytpppicehpadcbaa.Pure
open Go.RowKit Go.Proofs.Ytpppicehpadcbaa.QCheckOf Go.Proofs.Ytpppicehpadcbaa.XCheck Go.Proofs.YtpppicehpadcbaaW.PrintWords Go.Proofs.YtpppicehpadcbaaW.PrintLast
theorem u8_of (a : Int) (h : (Lit.int .u8 a).wf = true) : 0 ≤ a ∧ a < 256 := by
  simp only [Lit.wf, IntKind.min, IntKind.max, IntKind.signed, IntKind.bits, Bool.and_eq_true] at h
  simp at h
  omega
theorem u16_of (a : Int) (h : (Lit.int .u16 a).wf = true) : 0 ≤ a ∧ a < 65536 := by
  simp only [Lit.wf, IntKind.min, IntKind.max, IntKind.signed, IntKind.bits, Bool.and_eq_true] at h
  simp at h
  omega
theorem u32_of (a : Int) (h : (Lit.int .u32 a).wf = true) : 0 ≤ a ∧ a < 4294967296 := by
  simp only [Lit.wf, IntKind.min, IntKind.max, IntKind.signed, IntKind.bits, Bool.and_eq_true] at h
  simp at h
  omega
theorem short_f (l : List Int) (hl : ∀ x ∈ l, (Lit.int .u8 x).wf = true) : ∃ m : List Int, prebendlaw04_short.f l = some m ∧ m.length ≤ 2000 ∧ ∀ c ∈ m, 0 ≤ c ∧ c < 256 := by
  refine ⟨l.take 2000, ?_, by rw [List.length_take]; omega, fun c hc => u8_of c (hl c (List.mem_of_mem_take hc))⟩
  unfold prebendlaw04_short.f
  by_cases h : (l.length : Int) > 2000
  · rw [if_pos h, if_pos (by omega)]
  · rw [if_neg h, List.take_of_length_le (by omega)]
theorem fromf (s : Int) (l : List Int) (hs : 0 ≤ s ∧ s < 4294967296) (hl : ∀ c ∈ l, 0 ≤ c ∧ c < 256) : QCheckOf.check_From.f s l = some (fr s l) := From_f s l hs hl
theorem Of_f (l : List Int) (hl : ∀ c ∈ l, 0 ≤ c ∧ c < 256) : check_Of.f l = some (fr 4294967295 l) := by
  unfold check_Of.f
  rw [fromf _ l (by omega) hl]
  rfl

theorem sb_bit (v : BitVec 32) (b : Bool) : sb (v ^^^ bw b) = (v <<< (1 : Nat)) ^^^ (if v.msb = b then 0#32 else P32) := by
  unfold sb
  rw [BitVec.msb_xor, BitVec.shiftLeft_xor_distrib]
  have h1 : bw b <<< (1 : Nat) = 0#32 := by cases b <;> decide
  have h2 : (bw b).msb = b := by cases b <;> decide
  rw [h1, h2, BitVec.xor_zero]
  cases v.msb <;> cases b <;> rfl
theorem and1 (z : Nat) (hz : z < 4294967296) : Go.bits .and .u32 (z : Int) 1 = ((z % 2 : Nat) : Int) := by
  have h := (bits_nat .u32 32 (by decide) (fun n h0 h1 => by rw [IntKind.wrap_u32]; omega) z 1 hz (by decide)).1
  rw [Nat.and_one_is_mod] at h
  exact h
theorem mod_id (z : Nat) (h : z < 256) : ((z : Nat) : Int) % 4294967296 = (z : Int) := by omega
/-- The reference's inner loop: the lowest d bits of a byte. -/
def low (c : Nat) : Nat → List Bool
  | 0 => []
  | d + 1 => c.testBit d :: low c d
theorem low8 (c : Nat) : low c 8 = bits8 (c : Int) := by
  simp [low, bits8]
theorem inner (l : List Int) (i : Nat) (hi : i < l.length) (hl2 : l.length ≤ 2000) (c : Nat) (hc : c < 256) (he : l[i] = (c : Int)) (d : Nat) : ∀ (k : Nat) (v : BitVec 32), d ≤ 8 → d < k →
    prebendref04_From.l1 k (enc v) l (i : Int) ((d : Int) - 1) = prebendref04_From.l0 (k - d - 1) (enc (run v (low c d))) l ((i + 1 : Nat) : Int) := by
  induction d with
  | zero =>
    intro k v hd hk
    obtain ⟨k, rfl⟩ : ∃ z, k = z + 1 := ⟨k - 1, by omega⟩
    simp only [prebendref04_From.l1]
    rw [if_neg (by omega), show wrap64 ((i : Int) + 1) = ((i + 1 : Nat) : Int) by unfold wrap64; omega]
    rfl
  | succ d ih =>
    intro k v hd hk
    obtain ⟨k, rfl⟩ : ∃ z, k = z + 1 := ⟨k - 1, by omega⟩
    simp only [prebendref04_From.l1]
    have e1 : (((d + 1 : Nat) : Int) - 1) = (d : Int) := by omega
    rw [e1]
    have hw : IntKind.u64.wrap (d : Int) = (d : Int) := by simp [IntKind.wrap, IntKind.bits, IntKind.signed]; omega
    have hrd : rd l (i : Int) = (c : Int) := by
      unfold rd
      rw [Int.toNat_natCast, List.getD_eq_getElem?_getD, List.getElem?_eq_getElem hi]
      exact he
    rw [if_pos (by omega), if_pos (by omega), if_pos (by omega), hw, if_pos (by omega), hrd]
    have hsh : shr .u8 (c : Int) (d : Int) = ((c / 2 ^ d : Nat) : Int) := by
      unfold shr
      rw [Int.toNat_natCast, Nat.min_eq_left (by show d ≤ 8; omega)]
      simp
    have hle : c / 2 ^ d < 256 := Nat.lt_of_le_of_lt (Nat.div_le_self _ _) hc
    rw [hsh, mod_id _ hle, and1 _ (Nat.lt_trans hle (by decide))]
    have e2 : wrap64 ((d : Int) - 1) = (d : Int) - 1 := by unfold wrap64; omega
    rw [e2]
    have hb : c.testBit d = decide (c / 2 ^ d % 2 = 1) := by
      rw [Nat.testBit_eq_decide_div_mod_eq]
    have hv := v.isLt
    have hm : (enc v / 2147483648 = ((c / 2 ^ d % 2 : Nat) : Int)) ↔ v.msb = c.testBit d := by
      rw [hb, BitVec.msb_eq_decide]
      unfold enc
      have h3 : c / 2 ^ d % 2 < 2 := Nat.mod_lt _ (by decide)
      generalize c / 2 ^ d % 2 = z at *
      generalize v.toNat = x at *
      have hz : z = 0 ∨ z = 1 := by omega
      rcases hz with rfl | rfl
      · simp; omega
      · simp; omega
    have key : run v (low c (d + 1)) = run (sb (v ^^^ bw (c.testBit d))) (low c d) := rfl
    rw [key, sb_bit, shl_enc]
    by_cases h : v.msb = c.testBit d
    · rw [if_pos (hm.2 h), if_pos h, BitVec.xor_zero]
      rw [ih k _ (by omega) (by omega), show k + 1 - (d + 1) - 1 = k - d - 1 by omega]
    · rw [if_neg (fun h2 => h (hm.1 h2)), if_neg h, show (79764919 : Int) = enc P32 by decide, xor_enc]
      rw [ih k _ (by omega) (by omega), show k + 1 - (d + 1) - 1 = k - d - 1 by omega]
theorem outer (l : List Int) (hl2 : l.length ≤ 2000) (hl : ∀ c ∈ l, 0 ≤ c ∧ c < 256) (d : Nat) : ∀ (k i : Nat) (v : BitVec 32), i + d = l.length → 10 * d + 1 ≤ k →
    prebendref04_From.l0 k (enc v) l (i : Int) = some (enc (run v (bitsOf (l.drop i)))) := by
  induction d with
  | zero =>
    intro k i v hi hk
    obtain ⟨k, rfl⟩ : ∃ z, k = z + 1 := ⟨k - 1, by omega⟩
    simp only [prebendref04_From.l0]
    rw [if_neg (by omega), List.drop_of_length_le (by omega)]
    rfl
  | succ d ih =>
    intro k i v hi hk
    obtain ⟨k, rfl⟩ : ∃ z, k = z + 1 := ⟨k - 1, by omega⟩
    have hlt : i < l.length := by omega
    obtain ⟨c, hc1, hc2⟩ := byte_of (hl l[i] (List.getElem_mem _))
    simp only [prebendref04_From.l0]
    rw [if_pos (by omega)]
    have := inner l i hlt hl2 c hc2 hc1 8 k v (by omega) (by omega)
    rw [show (((8 : Nat) : Int) - 1) = 7 from rfl] at this
    rw [this, low8, ih (k - 8 - 1) (i + 1) _ (by omega) (by omega), List.drop_eq_getElem_cons hlt, hc1]
    show _ = some (enc (run v (bits8 (c : Int) ++ bitsOf (l.drop (i + 1)))))
    rw [run_append]
theorem refFrom_f (k : Nat) (s : Int) (l : List Int) (hs : 0 ≤ s ∧ s < 4294967296) (hl2 : l.length ≤ 2000) (hl : ∀ c ∈ l, 0 ≤ c ∧ c < 256) (hk : 20001 ≤ k) : prebendref04_From.f k s l = some (fr s l) := by
  obtain ⟨v, rfl⟩ := enc_of s hs
  rw [fr_enc l hl]
  have := outer l hl2 hl l.length k 0 v (by omega) (by omega)
  exact this
theorem CheckOf : prebendlaw04_CheckOf.Pure := by
  intro a0 l1 w0 _ _ hw
  obtain ⟨m, h1, h2, h3⟩ := short_f l1 hw
  have hs := u32_of a0 w0
  refine ⟨20001, ?_⟩
  unfold prebendlaw04_CheckOf.f
  rw [h1, show prebendlaw04_awake.f = some true from rfl]
  simp only [Option.bind_some, if_true]
  rw [Of_f m h3, fromf a0 m hs h3, refFrom_f 20001 a0 m hs h2 h3 (Nat.le_refl _)]
  unfold prebendref04_Of.f
  rw [refFrom_f 20001 _ m (by omega) h2 h3 (Nat.le_refl _)]
  simp

end Go.Proofs.Ytpppicehpadcbaa.Pure
