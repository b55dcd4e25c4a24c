/-
  FramePacks: what Pack packs is what the document packs.
-/
import Derived.Test.YtmpiljfpgfhljaaXCheckMath
import Derived.Test.YtmpiljfpgfhljaaQFramePacksx2
namespace Go.Proofs.Ytmpiljfpgfhljaa.Pure
open Go.RowKit Go.Proofs.Ytmpiljfpgfhljaa.QFramePacks Go.Proofs.Ytmpiljfpgfhljaa.XCheck Go.Proofs.Ytmpiljfpgfhljaa.XChunk Go.Proofs.YtmpiljfpgfhljaaW.PrintWords Go.Proofs.YtmpiljfpgfhljaaW.PrintLast Go.Proofs.YtmpiljfpgfhljaaW.PrintMore
theorem u8_of (a : Int) (h : (Lit.int .u8 a).wf = true) : 0 ≤ a ∧ a < 256 := by
  simp only [Lit.wf, IntKind.min, IntKind.max, IntKind.signed, IntKind.bits, Bool.and_eq_true] at h
  simp at h
  omega
theorem u32_of (a : Int) (h : (Lit.int .u32 a).wf = true) : 0 ≤ a ∧ a < 4294967296 := by
  simp only [Lit.wf, IntKind.min, IntKind.max, IntKind.signed, IntKind.bits, Bool.and_eq_true] at h
  simp at h
  omega
theorem short_f (l : List Int) (hl : ∀ x ∈ l, (Lit.int .u8 x).wf = true) : ∃ m : List Int, prebendlaw06_short.f l = some m ∧ m.length ≤ 600 ∧ ∀ c ∈ m, 0 ≤ c ∧ c < 256 := by
  refine ⟨l.take 600, ?_, by rw [List.length_take]; omega, fun c hc => u8_of c (hl c (List.mem_of_mem_take hc))⟩
  unfold prebendlaw06_short.f
  by_cases h : (l.length : Int) > 600
  · rw [if_pos h, if_pos (by omega)]
  · rw [if_neg h, List.take_of_length_le (by omega)]
theorem awake_f : prebendlaw06_awake.f = some true := by decide +kernel

theorem sb_bit (v : BitVec 32) (b : Bool) : sb (v ^^^ bw b) = (v <<< (1 : Nat)) ^^^ (if v.msb = b then 0#32 else P32) := by
  unfold sb
  rw [BitVec.msb_xor, BitVec.shiftLeft_xor_distrib]
  have h1 : bw b <<< (1 : Nat) = 0#32 := by cases b <;> decide
  have h2 : (bw b).msb = b := by cases b <;> decide
  rw [h1, h2, BitVec.xor_zero]
  cases v.msb <;> cases b <;> rfl
theorem and1 (z : Nat) (hz : z < 4294967296) : Go.bits .and .u32 (z : Int) 1 = ((z % 2 : Nat) : Int) := by
  have h := (bits_nat .u32 32 (by decide) (fun n h0 h1 => by rw [IntKind.wrap_u32]; omega) z 1 hz (by decide)).1
  rw [Nat.and_one_is_mod] at h
  exact h
theorem mod_id (z : Nat) (h : z < 256) : ((z : Nat) : Int) % 4294967296 = (z : Int) := by omega
/-- The reference's inner loop: the lowest d bits of a byte. -/
def low (c : Nat) : Nat → List Bool
  | 0 => []
  | d + 1 => c.testBit d :: low c d
theorem low8 (c : Nat) : low c 8 = bits8 (c : Int) := by
  simp [low, bits8]
theorem inner (l : List Int) (i : Nat) (hi : i < l.length) (hl2 : l.length ≤ 2000) (c : Nat) (hc : c < 256) (he : l[i] = (c : Int)) (d : Nat) : ∀ (k : Nat) (v : BitVec 32), d ≤ 8 → d < k →
    prebendref04_From.l1 k (enc v) l (i : Int) ((d : Int) - 1) = prebendref04_From.l0 (k - d - 1) (enc (run v (low c d))) l ((i + 1 : Nat) : Int) := by
  induction d with
  | zero =>
    intro k v hd hk
    obtain ⟨k, rfl⟩ : ∃ z, k = z + 1 := ⟨k - 1, by omega⟩
    simp only [prebendref04_From.l1]
    rw [if_neg (by omega), show wrap64 ((i : Int) + 1) = ((i + 1 : Nat) : Int) by unfold wrap64; omega]
    rfl
  | succ d ih =>
    intro k v hd hk
    obtain ⟨k, rfl⟩ : ∃ z, k = z + 1 := ⟨k - 1, by omega⟩
    simp only [prebendref04_From.l1]
    have e1 : (((d + 1 : Nat) : Int) - 1) = (d : Int) := by omega
    rw [e1]
    have hw : IntKind.u64.wrap (d : Int) = (d : Int) := by simp [IntKind.wrap, IntKind.bits, IntKind.signed]; omega
    have hrd : rd l (i : Int) = (c : Int) := by
      unfold rd
      rw [Int.toNat_natCast, List.getD_eq_getElem?_getD, List.getElem?_eq_getElem hi]
      exact he
    rw [if_pos (by omega), if_pos (by omega), if_pos (by omega), hw, if_pos (by omega), hrd]
    have hsh : shr .u8 (c : Int) (d : Int) = ((c / 2 ^ d : Nat) : Int) := by
      unfold shr
      rw [Int.toNat_natCast, Nat.min_eq_left (by show d ≤ 8; omega)]
      simp
    have hle : c / 2 ^ d < 256 := Nat.lt_of_le_of_lt (Nat.div_le_self _ _) hc
    rw [hsh, mod_id _ hle, and1 _ (Nat.lt_trans hle (by decide))]
    have e2 : wrap64 ((d : Int) - 1) = (d : Int) - 1 := by unfold wrap64; omega
    rw [e2]
    have hb : c.testBit d = decide (c / 2 ^ d % 2 = 1) := by
      rw [Nat.testBit_eq_decide_div_mod_eq]
    have hv := v.isLt
    have hm : (enc v / 2147483648 = ((c / 2 ^ d % 2 : Nat) : Int)) ↔ v.msb = c.testBit d := by
      rw [hb, BitVec.msb_eq_decide]
      unfold enc
      have h3 : c / 2 ^ d % 2 < 2 := Nat.mod_lt _ (by decide)
      generalize c / 2 ^ d % 2 = z at *
      generalize v.toNat = x at *
      have hz : z = 0 ∨ z = 1 := by omega
      rcases hz with rfl | rfl
      · simp; omega
      · simp; omega
    have key : run v (low c (d + 1)) = run (sb (v ^^^ bw (c.testBit d))) (low c d) := rfl
    rw [key, sb_bit, shl_enc]
    by_cases h : v.msb = c.testBit d
    · rw [if_pos (hm.2 h), if_pos h, BitVec.xor_zero]
      rw [ih k _ (by omega) (by omega), show k + 1 - (d + 1) - 1 = k - d - 1 by omega]
    · rw [if_neg (fun h2 => h (hm.1 h2)), if_neg h, show (79764919 : Int) = enc P32 by decide, xor_enc]
      rw [ih k _ (by omega) (by omega), show k + 1 - (d + 1) - 1 = k - d - 1 by omega]
theorem outer (l : List Int) (hl2 : l.length ≤ 2000) (hl : ∀ c ∈ l, 0 ≤ c ∧ c < 256) (d : Nat) : ∀ (k i : Nat) (v : BitVec 32), i + d = l.length → 10 * d + 1 ≤ k →
    prebendref04_From.l0 k (enc v) l (i : Int) = some (enc (run v (bitsOf (l.drop i)))) := by
  induction d with
  | zero =>
    intro k i v hi hk
    obtain ⟨k, rfl⟩ : ∃ z, k = z + 1 := ⟨k - 1, by omega⟩
    simp only [prebendref04_From.l0]
    rw [if_neg (by omega), List.drop_of_length_le (by omega)]
    rfl
  | succ d ih =>
    intro k i v hi hk
    obtain ⟨k, rfl⟩ : ∃ z, k = z + 1 := ⟨k - 1, by omega⟩
    have hlt : i < l.length := by omega
    obtain ⟨c, hc1, hc2⟩ := byte_of (hl l[i] (List.getElem_mem _))
    simp only [prebendref04_From.l0]
    rw [if_pos (by omega)]
    have := inner l i hlt hl2 c hc2 hc1 8 k v (by omega) (by omega)
    rw [show (((8 : Nat) : Int) - 1) = 7 from rfl] at this
    rw [this, low8, ih (k - 8 - 1) (i + 1) _ (by omega) (by omega), List.drop_eq_getElem_cons hlt, hc1]
    show _ = some (enc (run v (bits8 (c : Int) ++ bitsOf (l.drop (i + 1)))))
    rw [run_append]
theorem refFrom_f (k : Nat) (s : Int) (l : List Int) (hs : 0 ≤ s ∧ s < 4294967296) (hl2 : l.length ≤ 2000) (hl : ∀ c ∈ l, 0 ≤ c ∧ c < 256) (hk : 20001 ≤ k) : prebendref04_From.f k s l = some (fr s l) := by
  obtain ⟨v, rfl⟩ := enc_of s hs
  rw [fr_enc l hl]
  have := outer l hl2 hl l.length k 0 v (by omega) (by omega)
  exact this

theorem u64_small (x : Int) (h : 0 ≤ x ∧ x < 4294967296) : IntKind.u64.wrap x = x := by
  simp [IntKind.wrap, IntKind.bits, IntKind.signed]; omega
theorem be_go (k s i : Nat) (x : Int) (l : List Int) (hi : i < s) (hs : s ≤ 10) (hl : l.length = s) (hx : 0 ≤ x ∧ x < 4294967296) :
    prebendref06_be.l0 (k + 1) x (s : Int) l (i : Int) = prebendref06_be.l0 k (x / 256) (s : Int) (l.set (s - 1 - i) (x % 256)) ((i + 1 : Nat) : Int) := by
  have e1 : wrap64 ((s : Int) - 1) = (s : Int) - 1 := by unfold wrap64; omega
  have e2 : wrap64 ((s : Int) - 1 - (i : Int)) = ((s - 1 - i : Nat) : Int) := by unfold wrap64; omega
  have e3 : wrap64 ((i : Int) + 1) = ((i + 1 : Nat) : Int) := by unfold wrap64; omega
  have e4 : IntKind.u64.wrap (Int.tdiv x 256) = x / 256 := by
    rw [Int.tdiv_eq_ediv_of_nonneg hx.1]; exact u64_small _ (by omega)
  rw [prebendref06_be.l0, e1, e2, e3, e4, if_pos (by omega), if_pos (by omega), if_pos (by omega), Int.toNat_natCast]
theorem be_end (k s : Nat) (x : Int) (l : List Int) : prebendref06_be.l0 (k + 1) x (s : Int) l (s : Int) = some l := by
  rw [prebendref06_be.l0, if_neg (Int.lt_irrefl _)]
theorem be_4 (k : Nat) (n : Int) (h : 0 ≤ n ∧ n < 4294967296) : prebendref06_be.f (k + 6) (IntKind.u64.wrap n) 4 = some (be4 n) := by
  rw [u64_small n h, prebendref06_be.f, if_pos (by decide), if_pos (by decide)]
  refine (be_go (k + 5) 4 0 n [0, 0, 0, 0] (by decide) (by decide) rfl h).trans ?_
  refine (be_go (k + 4) 4 1 _ _ (by decide) (by decide) rfl (by omega)).trans ?_
  refine (be_go (k + 3) 4 2 _ _ (by decide) (by decide) rfl (by omega)).trans ?_
  refine (be_go (k + 2) 4 3 _ _ (by decide) (by decide) rfl (by omega)).trans ?_
  refine (be_end (k + 1) 4 _ _).trans ?_
  show some [n / 256 / 256 / 256 % 256, n / 256 / 256 % 256, n / 256 % 256, n % 256] = some [n / 16777216 % 256, n / 65536 % 256, n / 256 % 256, n % 256]
  rw [show n / 256 / 256 / 256 = n / 16777216 from by omega, show n / 256 / 256 = n / 65536 from by omega]
theorem be_2 (k : Nat) (n : Int) (h : 0 ≤ n ∧ n < 4294967296) : prebendref06_be.f (k + 6) (IntKind.u64.wrap n) 2 = some (be2 n) := by
  rw [u64_small n h, prebendref06_be.f, if_pos (by decide), if_pos (by decide)]
  refine (be_go (k + 5) 2 0 n [0, 0] (by decide) (by decide) rfl h).trans ?_
  refine (be_go (k + 4) 2 1 _ _ (by decide) (by decide) rfl (by omega)).trans ?_
  exact be_end (k + 3) 2 _ _
theorem sec_loop (n : Nat) (hn : n ≤ 65535) : ∀ (d j k : Nat), j + d = sectors n → 1 ≤ j → d < k → prebendref06_Sectors.l0 k (n : Int) (j : Int) = some ((sectors n : Nat) : Int) := by
  have hs : sectors n = (n + 29) / 24 := rfl
  generalize sectors n = m at hs ⊢
  intro d
  induction d with
  | zero =>
    intro j k hj h1 hk
    obtain ⟨k, rfl⟩ : ∃ z, k = z + 1 := ⟨k - 1, by omega⟩
    have e1 : wrap64 (24 * (j : Int)) = 24 * (j : Int) := by unfold wrap64; omega
    have e2 : wrap64 ((n : Int) + 6) = (n : Int) + 6 := by unfold wrap64; omega
    rw [prebendref06_Sectors.l0, e1, e2, if_neg (by omega), show j = m from by omega]
  | succ d ih =>
    intro j k hj h1 hk
    obtain ⟨k, rfl⟩ : ∃ z, k = z + 1 := ⟨k - 1, by omega⟩
    have e1 : wrap64 (24 * (j : Int)) = 24 * (j : Int) := by unfold wrap64; omega
    have e2 : wrap64 ((n : Int) + 6) = (n : Int) + 6 := by unfold wrap64; omega
    have e3 : wrap64 ((j : Int) + 1) = ((j + 1 : Nat) : Int) := by unfold wrap64; omega
    rw [prebendref06_Sectors.l0, e1, e2, if_pos (by omega), e3]
    exact ih (j + 1) k (by omega) (by omega) (by omega)
theorem refSec_f (k n : Nat) (hn : n ≤ 65535) (hk : 3000 ≤ k) : prebendref06_Sectors.f k (n : Int) = some ((sectors n : Nat) : Int) := by
  have hs : 1 ≤ sectors n ∧ sectors n ≤ 2800 := by unfold sectors; omega
  obtain ⟨k, rfl⟩ : ∃ z, k = z + 1 := ⟨k - 1, by omega⟩
  rw [prebendref06_Sectors.f, if_neg (by omega), show decide ((n : Int) > 65535) = false from decide_eq_false (by omega), prebendref06_Sectors.j0, if_neg (by decide)]
  exact sec_loop n hn (sectors n - 1) 1 k (by omega) (by omega) (by omega)
theorem sectors_same (k : Nat) (a : Int) (hk : 3000 ≤ k) : ∃ r, frame_Sectors.f a = some r ∧ prebendref06_Sectors.f k a = some r := by
  by_cases h0 : a < 0
  · refine ⟨0, by rw [frame_Sectors.f, if_pos h0], ?_⟩
    obtain ⟨k, rfl⟩ : ∃ z, k = z + 1 := ⟨k - 1, by omega⟩
    rw [prebendref06_Sectors.f, if_pos h0, prebendref06_Sectors.j0, if_pos rfl]
  · by_cases h1 : a > 65535
    · refine ⟨0, by rw [frame_Sectors.f, if_neg h0, if_pos h1], ?_⟩
      obtain ⟨k, rfl⟩ : ∃ z, k = z + 1 := ⟨k - 1, by omega⟩
      rw [prebendref06_Sectors.f, if_neg h0, show decide (a > 65535) = true from decide_eq_true h1, prebendref06_Sectors.j0, if_pos rfl]
    · obtain ⟨n, rfl⟩ : ∃ n : Nat, a = (n : Int) := ⟨a.toNat, by omega⟩
      exact ⟨_, XPack.Sectors_f n (by omega), refSec_f k n (by omega) hk⟩
/-- What the reference's loop has put out before byte i of the data. -/
def outTo (full mk : List Int) : Nat → List Int
  | 0 => []
  | i + 1 => if i % 24 = 23 then (outTo full mk i ++ [full.getD i 0]) ++ mk else outTo full mk i ++ [full.getD i 0]
theorem outTo_cut (full mk : List Int) (j : Nat) : ∀ r, r < 24 → 24 * j + 24 ≤ full.length → outTo full mk (24 * j) = cut full mk j → outTo full mk (24 * j + r) = cut full mk j ++ (full.drop (24 * j)).take r := by
  intro r
  induction r with
  | zero => intro _ _ h; rw [Nat.add_zero, h, List.take_zero, List.append_nil]
  | succ r ih =>
    intro hr hf h
    have hm : ¬ (24 * j + r) % 24 = 23 := by omega
    have hg : full.getD (24 * j + r) 0 = full[24 * j + r] := by rw [List.getD_eq_getElem?_getD, List.getElem?_eq_getElem (by omega)]; rfl
    rw [show 24 * j + (r + 1) = 24 * j + r + 1 from rfl, outTo, if_neg hm, ih (by omega) hf h, List.append_assoc, hg]
    rw [List.take_succ_eq_append_getElem (by rw [List.length_drop]; omega), List.getElem_drop]
theorem outTo_all (full mk : List Int) : ∀ j, 24 * j ≤ full.length → outTo full mk (24 * j) = cut full mk j := by
  intro j
  induction j with
  | zero => intro _; rfl
  | succ j ih =>
    intro h
    have h1 := outTo_cut full mk j 23 (by omega) (by omega) (ih (by omega))
    have hm : (24 * j + 23) % 24 = 23 := by omega
    have hg : full.getD (24 * j + 23) 0 = full[24 * j + 23] := by rw [List.getD_eq_getElem?_getD, List.getElem?_eq_getElem (by omega)]; rfl
    rw [show 24 * (j + 1) = 24 * j + 23 + 1 from by omega, outTo, if_pos hm, h1, cut_succ, hg]
    have ht : (full.drop (24 * j)).take 24 = (full.drop (24 * j)).take 23 ++ [full[24 * j + 23]] := by
      have := List.take_succ_eq_append_getElem (l := full.drop (24 * j)) (i := 23) (by rw [List.length_drop]; omega)
      rw [List.getElem_drop] at this
      exact this
    rw [ht, List.append_assoc (cut full mk j)]
theorem outTo_len (full mk : List Int) (hm : mk.length = 8) (i : Nat) : (outTo full mk i).length ≤ 9 * i := by
  induction i with
  | zero => exact Nat.zero_le _
  | succ i ih =>
    rw [outTo]
    split
    · rw [List.length_append, List.length_append, hm, List.length_singleton]; omega
    · rw [List.length_append, List.length_singleton]; omega
theorem pack_loop (l mk data : List Int) (m : Nat) (hl : l.length ≤ 600) (hm : sectors l.length = m) (hd : data.length = l.length + 6) (hmk : mk.length = 8) : ∀ (d i k : Nat), i + d = 24 * m → 4000 + d ≤ k →
    prebendref06_Pack.l0 k l mk data (outTo (data ++ List.replicate (24 * m - (l.length + 6)) 0) mk i) (i : Int) = some (outTo (data ++ List.replicate (24 * m - (l.length + 6)) 0) mk (24 * m), 0) := by
  have hms : l.length + 6 ≤ 24 * m ∧ m ≤ 30 := by rw [← hm]; unfold sectors; omega
  have hgd : ∀ i, (data ++ List.replicate (24 * m - (l.length + 6)) (0 : Int)).getD i 0 = if i < data.length then data.getD i 0 else 0 := by
    intro i
    by_cases h : i < data.length
    · rw [if_pos h, List.getD_eq_getElem?_getD, List.getD_eq_getElem?_getD, List.getElem?_append_left h]
    · rw [if_neg h, List.getD_eq_getElem?_getD, List.getElem?_append_right (by omega), List.getElem?_replicate]
      split <;> rfl
  intro d
  induction d with
  | zero =>
    intro i k hi hk
    obtain ⟨k, rfl⟩ : ∃ z, k = z + 1 := ⟨k - 1, by omega⟩
    have e1 : wrap64 (24 * ((m : Nat) : Int)) = 24 * (m : Int) := by unfold wrap64; omega
    rw [prebendref06_Pack.l0, refSec_f k l.length (by omega) (by omega), hm, Option.bind_some, e1, if_neg (by omega), show i = 24 * m from by omega]
  | succ d ih =>
    intro i k hi hk
    obtain ⟨k, rfl⟩ : ∃ z, k = z + 1 := ⟨k - 1, by omega⟩
    have e1 : wrap64 (24 * ((m : Nat) : Int)) = 24 * (m : Int) := by unfold wrap64; omega
    have e2 : wrap64 ((i : Int) + 1) = ((i + 1 : Nat) : Int) := by unfold wrap64; omega
    have e3 : Int.tmod (i : Int) 24 = ((i % 24 : Nat) : Int) := by rw [Int.tmod_eq_emod_of_nonneg (by omega)]; omega
    have hol := outTo_len (data ++ List.replicate (24 * m - (l.length + 6)) 0) mk hmk i
    have hstep := ih (i + 1) k (by omega) (by omega)
    rw [outTo, hgd] at hstep
    rw [prebendref06_Pack.l0, refSec_f k l.length (by omega) (by omega), hm, Option.bind_some, e1, if_pos (by omega), e2, e3]
    by_cases hlt : i < data.length
    · have hrd : rd data (i : Int) = data.getD i 0 := by unfold rd; rw [Int.toNat_natCast]
      rw [if_pos (by omega), if_pos (by omega), if_pos (by omega), hrd, Option.bind_some]
      rw [if_pos hlt] at hstep
      by_cases h23 : i % 24 = 23
      · rw [if_pos (by omega), if_pos (by rw [List.length_append, List.length_singleton, hmk]; omega)]
        rw [if_pos h23] at hstep
        exact hstep
      · rw [if_neg (by omega)]
        rw [if_neg h23] at hstep
        exact hstep
    · rw [if_neg (by omega), if_pos (by omega), Option.bind_some]
      rw [if_neg hlt] at hstep
      by_cases h23 : i % 24 = 23
      · rw [if_pos (by omega), if_pos (by rw [List.length_append, List.length_singleton, hmk]; omega)]
        rw [if_pos h23] at hstep
        exact hstep
      · rw [if_neg (by omega)]
        rw [if_neg h23] at hstep
        exact hstep
theorem refPack_in (k : Nat) (a s : Int) (l : List Int) (ha : 0 ≤ a ∧ a < 4294967296) (hs : 0 ≤ s ∧ s < 4294967296) (hl : l.length ≤ 600) (hb : ∀ c ∈ l, 0 ≤ c ∧ c < 256) (hk : 30000 ≤ k) :
    prebendref06_Pack.f k a s l = some (packed a s l, 0) := by
  obtain ⟨k, rfl⟩ : ∃ z, k = (z + 6) + 1 := ⟨k - 7, by omega⟩
  have hmr : ∀ c ∈ stampOf a s ++ be2 (l.length : Int) ++ l, 0 ≤ c ∧ c < 256 := by
    intro c hc
    rcases List.mem_append.1 hc with h | h
    · rcases List.mem_append.1 h with h | h
      · exact stamp_range a s c h
      · exact be2_range _ c h
    · exact hb c h
  have hlen : (stampOf a s ++ be2 (l.length : Int) ++ l).length ≤ 2000 := by rw [List.length_append, List.length_append, stamp_len, be2_len]; omega
  have hsum : fr 4294967295 (stampOf a s ++ be2 (l.length : Int) ++ l) = sumOf a s l := by rw [fr_append, fr_append]; rfl
  have hOf : prebendref04_Of.f (k + 6) (stampOf a s ++ be2 (l.length : Int) ++ l) = some (sumOf a s l) := by
    unfold prebendref04_Of.f
    rw [refFrom_f (k + 6) _ _ (by decide) hlen hmr (by omega), hsum]; rfl
  have hsr : 0 ≤ sumOf a s l ∧ sumOf a s l < 4294967296 := by rw [← hsum]; exact fr_range _ _ (by decide)
  have hdl : (be2 (l.length : Int) ++ be4 (sumOf a s l) ++ l).length = l.length + 6 := by rw [List.length_append, List.length_append, be2_len, be4_len]; omega
  have hsm : sectors l.length ≤ 30 := by unfold sectors; omega
  have hloop := pack_loop l (stampOf a s) (be2 (l.length : Int) ++ be4 (sumOf a s l) ++ l) (sectors l.length) hl rfl hdl (stamp_len a s) (24 * sectors l.length) 0 (k + 6) (by omega) (by omega)
  have hfull : be2 (l.length : Int) ++ be4 (sumOf a s l) ++ l ++ List.replicate (24 * sectors l.length - (l.length + 6)) 0 = filled a s l := by
    unfold filled body; rw [List.append_assoc (be2 _)]
  rw [hfull, outTo_all _ _ _ (by rw [filled_len]; exact Nat.le_refl _)] at hloop
  have hst : be4 a ++ be4 s = stampOf a s := rfl
  rw [prebendref06_Pack.f, if_neg (by omega), if_neg (by omega), if_neg (by omega), show decide (s ≥ 4294967296) = false from decide_eq_false (by omega), prebendref06_Pack.j0, if_neg (by decide), if_neg (by omega),
    be_4 k a ha, Option.bind_some, be_4 k s hs, Option.bind_some, if_pos (by rw [be4_len, be4_len]; decide), Option.bind_some, hst, be_2 k _ (by omega), Option.bind_some, Option.bind_some, List.nil_append,
    if_pos (by rw [stamp_len]; decide), Option.bind_some, if_pos (by rw [stamp_len, be2_len]; decide), Option.bind_some, if_pos (by rw [List.length_append, stamp_len, be2_len]; omega), hOf, Option.bind_some,
    be_4 k _ hsr, Option.bind_some, if_pos (by rw [be2_len, be4_len]; decide), Option.bind_some, if_pos (by rw [List.length_append, be2_len, be4_len]; omega)]
  exact hloop
theorem refPack_out (k : Nat) (a s : Int) (l : List Int) (h : ¬ (0 ≤ a ∧ a < 4294967296 ∧ 0 ≤ s ∧ s < 4294967296)) : prebendref06_Pack.f (k + 1) a s l = some ([], 1) := by
  have hj : prebendref06_Pack.j0 (k + 1) a s l true = some ([], 1) := by rw [prebendref06_Pack.j0, if_pos rfl]
  rw [prebendref06_Pack.f]
  split
  · exact hj
  · split
    · exact hj
    · split
      · exact hj
      · rw [show decide (s ≥ 4294967296) = true from decide_eq_true (by omega)]; exact hj
theorem pack_same (k : Nat) (a s : Int) (l : List Int) (hl : l.length ≤ 600) (hb : ∀ c ∈ l, 0 ≤ c ∧ c < 256) (hk : 30000 ≤ k) : ∃ r, XChunk.frame_Pack.f a s l = some r ∧ prebendref06_Pack.f k a s l = some r := by
  by_cases h : 0 ≤ a ∧ a < 4294967296 ∧ 0 ≤ s ∧ s < 4294967296
  · refine ⟨(packed a s l, 0), ?_, refPack_in k a s l ⟨h.1, h.2.1⟩ h.2.2 hl hb hk⟩
    unfold XChunk.frame_Pack.f
    rw [if_pos h, if_neg (by omega), if_pos (List.all_eq_true.2 (fun c hc => decide_eq_true (hb c hc)))]
  · refine ⟨([], 1), ?_, ?_⟩
    · unfold XChunk.frame_Pack.f; rw [if_neg h]
    · obtain ⟨k, rfl⟩ : ∃ z, k = z + 1 := ⟨k - 1, by omega⟩
      exact refPack_out k a s l h

theorem FramePacks : prebendlaw06_FramePacks.Pure := by
  intro a0 a1 l2 a3 _ _ _ _ hw _
  obtain ⟨m, h1, h2, h3⟩ := short_f l2 hw
  obtain ⟨r, p1, p2⟩ := pack_same 30000 a0 a1 m h2 h3 (Nat.le_refl _)
  obtain ⟨q, s1, s2⟩ := sectors_same 30000 a3 (by decide)
  refine ⟨30000, ?_⟩
  unfold prebendlaw06_FramePacks.f
  rw [h1, awake_f, s1, s2]
  simp only [Option.bind_some, if_true]
  have p1' : QFramePacks.frame_Pack.f a0 a1 m = some r := p1
  rw [p1', p2]
  simp

end Go.Proofs.Ytmpiljfpgfhljaa.Pure
