/-
  CheckBurst: bytes (2000 at most, as the statement has it) of which some bits that stand within 32 of one another are turned have another sum.
-/
import Derived.Test.YtpppicehpadcbaaXCheckMath
import Derived.Test.YtpppicehpadcbaaQCheckBurstx1
namespace Go.Proofs.Ytpppicehpadcbaa.Pure
open Go.RowKit Go.Proofs.Ytpppicehpadcbaa.QCheckBurst Go.Proofs.Ytpppicehpadcbaa.XCheck Go.Proofs.YtpppicehpadcbaaW.PrintWords Go.Proofs.YtpppicehpadcbaaW.PrintLast
theorem u8_of (a : Int) (h : (Lit.int .u8 a).wf = true) : 0 ≤ a ∧ a < 256 := by
  simp only [Lit.wf, IntKind.min, IntKind.max, IntKind.signed, IntKind.bits, Bool.and_eq_true] at h
  simp at h
  omega
theorem u16_of (a : Int) (h : (Lit.int .u16 a).wf = true) : 0 ≤ a ∧ a < 65536 := by
  simp only [Lit.wf, IntKind.min, IntKind.max, IntKind.signed, IntKind.bits, Bool.and_eq_true] at h
  simp at h
  omega
theorem u32_of (a : Int) (h : (Lit.int .u32 a).wf = true) : 0 ≤ a ∧ a < 4294967296 := by
  simp only [Lit.wf, IntKind.min, IntKind.max, IntKind.signed, IntKind.bits, Bool.and_eq_true] at h
  simp at h
  omega
theorem short_f (l : List Int) (hl : ∀ x ∈ l, (Lit.int .u8 x).wf = true) : ∃ m : List Int, prebendlaw04_short.f l = some m ∧ m.length ≤ 2000 ∧ ∀ c ∈ m, 0 ≤ c ∧ c < 256 := by
  refine ⟨l.take 2000, ?_, by rw [List.length_take]; omega, fun c hc => u8_of c (hl c (List.mem_of_mem_take hc))⟩
  unfold prebendlaw04_short.f
  by_cases h : (l.length : Int) > 2000
  · rw [if_pos h, if_pos (by omega)]
  · rw [if_neg h, List.take_of_length_le (by omega)]
theorem fromf (s : Int) (l : List Int) (hs : 0 ≤ s ∧ s < 4294967296) (hl : ∀ c ∈ l, 0 ≤ c ∧ c < 256) : QCheckBurst.check_From.f s l = some (fr s l) := From_f s l hs hl
theorem Of_f (l : List Int) (hl : ∀ c ∈ l, 0 ≤ c ∧ c < 256) : check_Of.f l = some (fr 4294967295 l) := by
  unfold check_Of.f
  rw [fromf _ l (by omega) hl]
  rfl

def bitAt (l : List Int) (p : Nat) : Bool := (l.getD (p / 8) 0).toNat.testBit (7 - p % 8)
theorem bits8_get (c : Int) (p : Nat) (h : p < 8) : (bits8 c)[p]? = some (c.toNat.testBit (7 - p)) := by
  match p, h with
  | 0, _ => rfl
  | 1, _ => rfl
  | 2, _ => rfl
  | 3, _ => rfl
  | 4, _ => rfl
  | 5, _ => rfl
  | 6, _ => rfl
  | 7, _ => rfl
theorem bitsOf_len (l : List Int) : (bitsOf l).length = 8 * l.length := by
  induction l with
  | nil => rfl
  | cons c l ih =>
    show (bits8 c ++ bitsOf l).length = _
    rw [List.length_append, ih, List.length_cons]
    show 8 + _ = _
    omega
theorem bitsOf_get (l : List Int) : ∀ p, p < 8 * l.length → (bitsOf l)[p]? = some (bitAt l p) := by
  induction l with
  | nil => intro p h; simp at h
  | cons c l ih =>
    intro p h
    simp only [List.length_cons] at h
    show (bits8 c ++ bitsOf l)[p]? = _
    have l8 : (bits8 c).length = 8 := rfl
    by_cases h8 : p < 8
    · rw [List.getElem?_append_left (by rw [l8]; exact h8), bits8_get c p h8]
      unfold bitAt
      rw [show p / 8 = 0 by omega, show p % 8 = p by omega]
      rfl
    · rw [List.getElem?_append_right (by rw [l8]; omega), l8, ih (p - 8) (by omega)]
      unfold bitAt
      rw [show p / 8 = (p - 8) / 8 + 1 by omega, show (p - 8) % 8 = p % 8 by omega]
      rfl
def flip (l : List Int) (p : Nat) : List Int := l.set (p / 8) ((((l.getD (p / 8) 0).toNat ^^^ 2 ^ (7 - p % 8) : Nat) : Int))
theorem flip_len (l : List Int) (p : Nat) : (flip l p).length = l.length := by simp [flip]
theorem flip_range (l : List Int) (p : Nat) (hl : ∀ c ∈ l, 0 ≤ c ∧ c < 256) : ∀ c ∈ flip l p, 0 ≤ c ∧ c < 256 := by
  intro c hc
  rcases List.mem_or_eq_of_mem_set hc with h | h
  · exact hl c h
  · subst h
    have h1 : (l.getD (p / 8) 0).toNat < 256 := by
      rw [List.getD_eq_getElem?_getD]
      cases h2 : l[p / 8]? with
      | none => simp
      | some z => have := hl z (List.mem_of_getElem? h2); simp; omega
    have h3 : 2 ^ (7 - p % 8) < 256 := Nat.lt_of_le_of_lt (Nat.pow_le_pow_right (by decide) (show 7 - p % 8 ≤ 7 by omega)) (by decide)
    have := (xor_u8 _ _ h1 h3).2
    omega
theorem flip_bit (l : List Int) (p q : Nat) (hp : p < 8 * l.length) : bitAt (flip l p) q = (bitAt l q ^^ decide (q = p)) := by
  unfold bitAt flip
  rw [List.getD_eq_getElem?_getD, List.getD_eq_getElem?_getD, List.getElem?_set]
  by_cases h : p / 8 = q / 8
  · rw [if_pos h, if_pos (by omega)]
    simp only [Option.getD_some, Int.toNat_natCast]
    rw [Nat.testBit_xor, Nat.testBit_two_pow, h, List.getD_eq_getElem?_getD]
    congr 1
    by_cases h2 : q = p
    · subst h2; simp
    · have h3 : ¬ (7 - p % 8 = 7 - q % 8) := by omega
      simp [h2, h3]
  · rw [if_neg h]
    have h2 : ¬ q = p := fun h3 => h (by rw [h3])
    simp [h2]
def yy (t k : Nat) (x : List Int) : Nat → List Int
  | 0 => x
  | i + 1 => if t.testBit i then flip (yy t k x i) (k + i) else yy t k x i
theorem yy_len (t k : Nat) (x : List Int) (i : Nat) : (yy t k x i).length = x.length := by
  induction i with
  | zero => rfl
  | succ i ih => simp only [yy]; split
                 · rw [flip_len, ih]
                 · exact ih
theorem yy_range (t k : Nat) (x : List Int) (hx : ∀ c ∈ x, 0 ≤ c ∧ c < 256) (i : Nat) : ∀ c ∈ yy t k x i, 0 ≤ c ∧ c < 256 := by
  induction i with
  | zero => exact hx
  | succ i ih => simp only [yy]; split
                 · exact flip_range _ _ ih
                 · exact ih
theorem yy_bit (t k : Nat) (x : List Int) (q : Nat) (i : Nat) (hi : k + i ≤ 8 * x.length) : bitAt (yy t k x i) q = (bitAt x q ^^ (decide (k ≤ q ∧ q < k + i) && t.testBit (q - k))) := by
  induction i with
  | zero =>
    have : ¬ (k ≤ q ∧ q < k + 0) := by omega
    rw [decide_eq_false this]
    simp [yy]
  | succ i ih =>
    have ih := ih (by omega)
    simp only [yy]
    by_cases hb : t.testBit i = true
    · rw [if_pos hb, flip_bit _ _ _ (by rw [yy_len]; omega), ih]
      by_cases h1 : q = k + i
      · subst h1
        have h2 : ¬ (k ≤ k + i ∧ k + i < k + i) := by omega
        have h3 : k ≤ k + i ∧ k + i < k + (i + 1) := by omega
        rw [decide_eq_false h2, decide_eq_true h3, show k + i - k = i by omega, hb]
        simp
      · by_cases h2 : k ≤ q ∧ q < k + i
        · have h3 : k ≤ q ∧ q < k + (i + 1) := by omega
          rw [decide_eq_true h2, decide_eq_true h3, decide_eq_false h1]
          simp
        · have h3 : ¬ (k ≤ q ∧ q < k + (i + 1)) := by omega
          rw [decide_eq_false h2, decide_eq_false h3, decide_eq_false h1]
          simp
    · rw [if_neg hb, ih]
      by_cases h1 : q = k + i
      · subst h1
        have h2 : ¬ (k ≤ k + i ∧ k + i < k + i) := by omega
        have h3 : k ≤ k + i ∧ k + i < k + (i + 1) := by omega
        rw [decide_eq_false h2, decide_eq_true h3, show k + i - k = i by omega, Bool.eq_false_iff.2 hb]
        simp
      · by_cases h2 : k ≤ q ∧ q < k + i
        · have h3 : k ≤ q ∧ q < k + (i + 1) := by omega
          rw [decide_eq_true h2, decide_eq_true h3]
        · have h3 : ¬ (k ≤ q ∧ q < k + (i + 1)) := by omega
          rw [decide_eq_false h2, decide_eq_false h3]
def none_of (t : Nat) : Nat → Bool
  | 0 => true
  | i + 1 => none_of t i && !t.testBit i
theorem yy_same (t k : Nat) (x : List Int) (i : Nat) (h : none_of t i = true) : yy t k x i = x := by
  induction i with
  | zero => rfl
  | succ i ih =>
    simp only [none_of, Bool.and_eq_true] at h
    simp only [yy]
    rw [if_neg (by have := h.2; simp at this; rw [this]; simp), ih h.1]
theorem none_all (t : Nat) (i : Nat) (h : ∀ j, j < i → t.testBit j = false) : none_of t i = true := by
  induction i with
  | zero => rfl
  | succ i ih => simp only [none_of]; rw [ih (fun j hj => h j (by omega)), h i (by omega)]; rfl
theorem turned_bits (t k m : Nat) (x : List Int) (hm : k + m ≤ 8 * x.length) :
    List.zipWith xor (bitsOf x) (bitsOf (yy t k x m)) = List.replicate k false ++ (List.range m).map (fun i => t.testBit i) ++ List.replicate (8 * x.length - (k + m)) false := by
  apply List.ext_getElem?
  intro p
  rw [List.getElem?_zipWith]
  by_cases hp : p < 8 * x.length
  · rw [bitsOf_get x p hp, bitsOf_get _ p (by rw [yy_len]; exact hp), yy_bit t k x p m hm]
    have e : (bitAt x p ^^ (bitAt x p ^^ (decide (k ≤ p ∧ p < k + m) && t.testBit (p - k)))) = (decide (k ≤ p ∧ p < k + m) && t.testBit (p - k)) := by
      cases bitAt x p <;> simp
    show some _ = _
    rw [e]
    by_cases h1 : p < k
    · rw [List.getElem?_append_left (by simp; omega), List.getElem?_append_left (by simp; omega), List.getElem?_replicate, if_pos h1, decide_eq_false (by omega)]
      rfl
    · by_cases h2 : p < k + m
      · rw [List.getElem?_append_left (by simp; omega), List.getElem?_append_right (by simp; omega), decide_eq_true (by omega), List.length_replicate, List.getElem?_map, List.getElem?_range (by omega)]
        rfl
      · rw [List.getElem?_append_right (by simp; omega), List.getElem?_replicate, if_pos (by simp; omega), decide_eq_false (by omega)]
        rfl
  · rw [List.getElem?_eq_none (by rw [bitsOf_len]; omega)]
    have hR : (List.replicate k false ++ (List.range m).map (fun i => t.testBit i) ++ List.replicate (8 * x.length - (k + m)) false).length ≤ p := by
      simp only [List.length_append, List.length_replicate, List.length_map, List.length_range]
      omega
    rw [List.getElem?_eq_none hR]
theorem burst_sums (t k m : Nat) (x : List Int) (hx : ∀ c ∈ x, 0 ≤ c ∧ c < 256) (hm : k + m ≤ 8 * x.length) (h32 : m ≤ 32) :
    (fr 4294967295 x == fr 4294967295 (yy t k x m)) = none_of t m := by
  by_cases h : none_of t m = true
  · rw [h, yy_same t k x m h]
    simp
  · rw [Bool.eq_false_iff.2 h, beq_eq_false_iff_ne]
    intro h2
    rw [sums_eq x _ hx (yy_range t k x hx m) (yy_len t k x m).symm _ (by omega), turned_bits t k m x hm] at h2
    have h3 := run_burst _ _ _ (by simp; exact h32) h2
    exact h (none_all t m (fun j hj => h3 _ (List.mem_map.2 ⟨j, List.mem_range.2 hj, rfl⟩)))
theorem bit_go (t i : Nat) (ht : t < 4294967296) (hi : i < 32) : (Go.bits .and .u32 (shr .u32 (t : Int) (IntKind.u64.wrap (i : Int))) 1 = 1 ↔ t.testBit i = true) ∧ 0 ≤ IntKind.u64.wrap (i : Int) := by
  have hw : IntKind.u64.wrap (i : Int) = (i : Int) := by simp [IntKind.wrap, IntKind.bits, IntKind.signed]; omega
  rw [hw]
  refine ⟨?_, by omega⟩
  have hsh : shr .u32 (t : Int) (i : Int) = ((t / 2 ^ i : Nat) : Int) := by
    unfold shr
    rw [Int.toNat_natCast, Nat.min_eq_left (by show i ≤ 32; omega)]
    simp
  have hle : t / 2 ^ i < 4294967296 := Nat.lt_of_le_of_lt (Nat.div_le_self _ _) ht
  have h := (bits_nat .u32 32 (by decide) (fun n h0 h1 => by rw [IntKind.wrap_u32]; omega) (t / 2 ^ i) 1 hle (by decide)).1
  rw [Nat.and_one_is_mod] at h
  have h' : Go.bits .and .u32 ((t / 2 ^ i : Nat) : Int) 1 = ((t / 2 ^ i % 2 : Nat) : Int) := h
  rw [hsh, h', Nat.testBit_eq_decide_div_mod_eq, decide_eq_true_iff]
  generalize t / 2 ^ i % 2 = z
  omega
theorem flip_go (l : List Int) (p : Nat) (hp : p < 8 * l.length) (hl : ∀ c ∈ l, 0 ≤ c ∧ c < 256) (hlen : l.length ≤ 2000) (a b : Nat) (hab : a + b = p) :
    l.set ((wrap64 (Int.tdiv (wrap64 ((a : Int) + (b : Int))) 8)) : Int).toNat (Go.bits .xor .u8 (rd l (wrap64 (Int.tdiv (wrap64 ((a : Int) + (b : Int))) 8))) (shr .u8 128 (IntKind.u64.wrap (Int.tmod (wrap64 ((a : Int) + (b : Int))) 8)))) = flip l p
    ∧ 0 ≤ wrap64 (Int.tdiv (wrap64 ((a : Int) + (b : Int))) 8) ∧ wrap64 (Int.tdiv (wrap64 ((a : Int) + (b : Int))) 8) < (l.length : Int) ∧ 0 ≤ IntKind.u64.wrap (Int.tmod (wrap64 ((a : Int) + (b : Int))) 8) := by
  have h1 : wrap64 ((a : Int) + (b : Int)) = (p : Int) := by unfold wrap64; omega
  have h2 : wrap64 (Int.tdiv (p : Int) 8) = ((p / 8 : Nat) : Int) := by
    rw [Int.tdiv_eq_ediv_of_nonneg (by omega)]
    unfold wrap64; omega
  have h3 : Int.tmod (p : Int) 8 = ((p % 8 : Nat) : Int) := by
    rw [Int.tmod_eq_emod_of_nonneg (by omega)]; omega
  have h4 : IntKind.u64.wrap ((p % 8 : Nat) : Int) = ((p % 8 : Nat) : Int) := by simp [IntKind.wrap, IntKind.bits, IntKind.signed]; omega
  rw [h1, h2, h3, h4]
  refine ⟨?_, by omega, by omega, by omega⟩
  have hrd : rd l ((p / 8 : Nat) : Int) = (((l.getD (p / 8) 0).toNat : Nat) : Int) ∧ (l.getD (p / 8) 0).toNat < 256 := by
    unfold rd
    rw [Int.toNat_natCast, List.getD_eq_getElem?_getD, List.getElem?_eq_getElem (show p / 8 < l.length by omega)]
    have := hl _ (List.getElem_mem (show p / 8 < l.length by omega))
    simp
    omega
  have hsh : shr .u8 128 ((p % 8 : Nat) : Int) = ((2 ^ (7 - p % 8) : Nat) : Int) := by
    unfold shr
    rw [Int.toNat_natCast, Nat.min_eq_left (by show p % 8 ≤ 8; omega)]
    have hr : p % 8 < 8 := Nat.mod_lt _ (by decide)
    generalize p % 8 = r at hr
    match r, hr with
    | 0, _ => rfl
    | 1, _ => rfl
    | 2, _ => rfl
    | 3, _ => rfl
    | 4, _ => rfl
    | 5, _ => rfl
    | 6, _ => rfl
    | 7, _ => rfl
  have h5 : 2 ^ (7 - p % 8) < 256 := Nat.lt_of_le_of_lt (Nat.pow_le_pow_right (by decide) (show 7 - p % 8 ≤ 7 by omega)) (by decide)
  rw [hrd.1, hsh, (xor_u8 _ _ hrd.2 h5).1, Int.toNat_natCast]
  rfl
theorem burst_end (f t k i : Nat) (x : List Int) (hx : ∀ c ∈ x, 0 ≤ c ∧ c < 256) (hm : k + i ≤ 8 * x.length) (h32 : i ≤ 32) :
    prebendlaw04_CheckBurst.j2 (f + 1) (t : Int) x (yy t k x i) (k : Int) (none_of t i) (i : Int) false = some true := by
  simp only [prebendlaw04_CheckBurst.j2]
  rw [if_neg (by decide), show prebendlaw04_awake.f = some true from rfl]
  simp only [Option.bind_some, if_true]
  rw [Of_f x hx, Of_f _ (yy_range t k x hx i)]
  simp only [Option.bind_some]
  rw [burst_sums t k i x hx hm h32]
  simp
theorem burst_loop (t k : Nat) (ht : t < 4294967296) (x : List Int) (hx : ∀ c ∈ x, 0 ≤ c ∧ c < 256) (hlen : x.length ≤ 2000) (d : Nat) : ∀ (f i : Nat), i + d = 32 → k + i ≤ 8 * x.length → 2 * d + 2 ≤ f →
    prebendlaw04_CheckBurst.l0 f (t : Int) x (yy t k x i) (k : Int) (none_of t i) (i : Int) = some true := by
  induction d with
  | zero =>
    intro f i hi hk hf
    obtain ⟨f, rfl⟩ : ∃ z, f = z + 2 := ⟨f - 2, by omega⟩
    simp only [prebendlaw04_CheckBurst.l0]
    rw [if_neg (by omega)]
    exact burst_end f t k i x hx hk (by omega)
  | succ d ih =>
    intro f i hi hk hf
    obtain ⟨f, rfl⟩ : ∃ z, f = z + 2 := ⟨f - 2, by omega⟩
    simp only [prebendlaw04_CheckBurst.l0]
    have h1 : wrap64 ((k : Int) + (i : Int)) = ((k + i : Nat) : Int) := by unfold wrap64; omega
    have h2 : wrap64 (8 * (x.length : Int)) = ((8 * x.length : Nat) : Int) := by unfold wrap64; omega
    rw [if_pos (by omega), h1, h2]
    by_cases hend : k + i < 8 * x.length
    · rw [decide_eq_true (show ((k + i : Nat) : Int) < ((8 * x.length : Nat) : Int) by omega)]
      simp only [prebendlaw04_CheckBurst.j2, if_true]
      obtain ⟨b1, b2⟩ := bit_go t i ht (by omega)
      have hn : wrap64 ((i : Int) + 1) = ((i + 1 : Nat) : Int) := by unfold wrap64; omega
      rw [if_pos b2, hn]
      have ihn := ih f (i + 1) (by omega) (by omega) (by omega)
      simp only [yy, none_of] at ihn
      by_cases hb : t.testBit i = true
      · rw [if_pos (b1.2 hb)]
        obtain ⟨f1, f2, f3, f4⟩ := flip_go (yy t k x i) (k + i) (by rw [yy_len]; exact hend) (yy_range t k x hx i) (by rw [yy_len]; exact hlen) k i rfl
        rw [if_pos f2, if_pos f3, if_pos f4, f1]
        rw [if_pos hb, hb] at ihn
        simp at ihn
        exact ihn
      · rw [if_neg (fun h => hb (b1.1 h))]
        rw [if_neg hb, Bool.eq_false_iff.2 hb] at ihn
        simp at ihn
        exact ihn
    · rw [decide_eq_false (show ¬ ((k + i : Nat) : Int) < ((8 * x.length : Nat) : Int) by omega)]
      exact burst_end f t k i x hx hk (by omega)
theorem CheckBurst : prebendlaw04_CheckBurst.Pure := by
  intro l0 a1 a2 _ _ w0 w1 w2
  obtain ⟨x, x1, x2, x3⟩ := short_f l0 w0
  obtain ⟨m0, m1⟩ := u16_of a1 w1
  obtain ⟨n0, n1⟩ := u32_of a2 w2
  obtain ⟨at_, rfl⟩ := Int.eq_ofNat_of_zero_le m0
  obtain ⟨t, rfl⟩ := Int.eq_ofNat_of_zero_le n0
  refine ⟨100, ?_⟩
  unfold prebendlaw04_CheckBurst.f
  rw [x1]
  simp only [Option.bind_some]
  have yes : prebendlaw04_CheckBurst.j0 100 (at_ : Int) (t : Int) x true = some true := by
    simp only [prebendlaw04_CheckBurst.j0]
    rw [show prebendlaw04_awake.f = some true from rfl]
    rfl
  by_cases hz : (x.length : Int) = 0
  · rw [if_pos hz]; exact yes
  · rw [if_neg hz]
    by_cases ht : t = 0
    · subst ht; exact yes
    · rw [show ((t : Int) == 0) = false from beq_eq_false_iff_ne.2 (by omega)]
      simp only [prebendlaw04_CheckBurst.j0]
      simp only [Option.bind_some, List.nil_append]
      have h2 : wrap64 (8 * (x.length : Int)) = ((8 * x.length : Nat) : Int) := by unfold wrap64; omega
      have h3 : wrap64 (at_ : Int) = (at_ : Int) := by unfold wrap64; omega
      rw [if_neg (by decide), if_pos (by rw [List.length_nil]; omega), h2, h3, if_neg (by omega)]
      have h4 : Int.tmod (at_ : Int) ((8 * x.length : Nat) : Int) = ((at_ % (8 * x.length) : Nat) : Int) := by
        rw [Int.tmod_eq_emod_of_nonneg (by omega)]
        exact (Int.natCast_emod ..).symm
      rw [h4]
      have h5 : at_ % (8 * x.length) < 8 * x.length := Nat.mod_lt _ (by omega)
      exact burst_loop t (at_ % (8 * x.length)) (by omega) x x3 x2 32 99 0 rfl (by omega) (by omega)

end Go.Proofs.Ytpppicehpadcbaa.Pure
