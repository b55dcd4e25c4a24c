/-
  FrameUnpacks: what Unpack finds is what the document finds.
-/
import Derived.Lib.Bytes
import Derived.Test.YtmpiljfpgfhljaaXCheckMath
import Derived.Test.YtmpiljfpgfhljaaQFrameUnpacksx3
namespace Go.Proofs.Ytmpiljfpgfhljaa.Pure
open Go.RowKit Go.Proofs.Ytmpiljfpgfhljaa.QFrameUnpacks Go.Proofs.Ytmpiljfpgfhljaa.XCheck Go.Proofs.Ytmpiljfpgfhljaa.XChunk Go.Proofs.YtmpiljfpgfhljaaW.PrintWords Go.Proofs.YtmpiljfpgfhljaaW.PrintLast Go.Proofs.YtmpiljfpgfhljaaW.PrintMore
theorem u8_of (a : Int) (h : (Lit.int .u8 a).wf = true) : 0 ≤ a ∧ a < 256 := by
  simp only [Lit.wf, IntKind.min, IntKind.max, IntKind.signed, IntKind.bits, Bool.and_eq_true] at h
  simp at h
  omega
theorem u32_of (a : Int) (h : (Lit.int .u32 a).wf = true) : 0 ≤ a ∧ a < 4294967296 := by
  simp only [Lit.wf, IntKind.min, IntKind.max, IntKind.signed, IntKind.bits, Bool.and_eq_true] at h
  simp at h
  omega
theorem short_f (l : List Int) (hl : ∀ x ∈ l, (Lit.int .u8 x).wf = true) : ∃ m : List Int, prebendlaw06_short.f l = some m ∧ m.length ≤ 600 ∧ ∀ c ∈ m, 0 ≤ c ∧ c < 256 := by
  refine ⟨l.take 600, ?_, by rw [List.length_take]; omega, fun c hc => u8_of c (hl c (List.mem_of_mem_take hc))⟩
  unfold prebendlaw06_short.f
  by_cases h : (l.length : Int) > 600
  · rw [if_pos h, if_pos (by omega)]
  · rw [if_neg h, List.take_of_length_le (by omega)]
theorem awake_f : prebendlaw06_awake.f = some true := by decide +kernel

theorem sb_bit (v : BitVec 32) (b : Bool) : sb (v ^^^ bw b) = (v <<< (1 : Nat)) ^^^ (if v.msb = b then 0#32 else P32) := by
  unfold sb
  rw [BitVec.msb_xor, BitVec.shiftLeft_xor_distrib]
  have h1 : bw b <<< (1 : Nat) = 0#32 := by cases b <;> decide
  have h2 : (bw b).msb = b := by cases b <;> decide
  rw [h1, h2, BitVec.xor_zero]
  cases v.msb <;> cases b <;> rfl
theorem and1 (z : Nat) (hz : z < 4294967296) : Go.bits .and .u32 (z : Int) 1 = ((z % 2 : Nat) : Int) := by
  have h := (bits_nat .u32 32 (by decide) (fun n h0 h1 => by rw [IntKind.wrap_u32]; omega) z 1 hz (by decide)).1
  rw [Nat.and_one_is_mod] at h
  exact h
theorem mod_id (z : Nat) (h : z < 256) : ((z : Nat) : Int) % 4294967296 = (z : Int) := by omega
/-- The reference's inner loop: the lowest d bits of a byte. -/
def low (c : Nat) : Nat → List Bool
  | 0 => []
  | d + 1 => c.testBit d :: low c d
theorem low8 (c : Nat) : low c 8 = bits8 (c : Int) := by
  simp [low, bits8]
theorem inner (l : List Int) (i : Nat) (hi : i < l.length) (hl2 : l.length ≤ 2000) (c : Nat) (hc : c < 256) (he : l[i] = (c : Int)) (d : Nat) : ∀ (k : Nat) (v : BitVec 32), d ≤ 8 → d < k →
    prebendref04_From.l1 k (enc v) l (i : Int) ((d : Int) - 1) = prebendref04_From.l0 (k - d - 1) (enc (run v (low c d))) l ((i + 1 : Nat) : Int) := by
  induction d with
  | zero =>
    intro k v hd hk
    obtain ⟨k, rfl⟩ : ∃ z, k = z + 1 := ⟨k - 1, by omega⟩
    simp only [prebendref04_From.l1]
    rw [if_neg (by omega), show wrap64 ((i : Int) + 1) = ((i + 1 : Nat) : Int) by unfold wrap64; omega]
    rfl
  | succ d ih =>
    intro k v hd hk
    obtain ⟨k, rfl⟩ : ∃ z, k = z + 1 := ⟨k - 1, by omega⟩
    simp only [prebendref04_From.l1]
    have e1 : (((d + 1 : Nat) : Int) - 1) = (d : Int) := by omega
    rw [e1]
    have hw : IntKind.u64.wrap (d : Int) = (d : Int) := by simp [IntKind.wrap, IntKind.bits, IntKind.signed]; omega
    have hrd : rd l (i : Int) = (c : Int) := by
      unfold rd
      rw [Int.toNat_natCast, List.getD_eq_getElem?_getD, List.getElem?_eq_getElem hi]
      exact he
    rw [if_pos (by omega), if_pos (by omega), if_pos (by omega), hw, if_pos (by omega), hrd]
    have hsh : shr .u8 (c : Int) (d : Int) = ((c / 2 ^ d : Nat) : Int) := by
      unfold shr
      rw [Int.toNat_natCast, Nat.min_eq_left (by show d ≤ 8; omega)]
      simp
    have hle : c / 2 ^ d < 256 := Nat.lt_of_le_of_lt (Nat.div_le_self _ _) hc
    rw [hsh, mod_id _ hle, and1 _ (Nat.lt_trans hle (by decide))]
    have e2 : wrap64 ((d : Int) - 1) = (d : Int) - 1 := by unfold wrap64; omega
    rw [e2]
    have hb : c.testBit d = decide (c / 2 ^ d % 2 = 1) := by
      rw [Nat.testBit_eq_decide_div_mod_eq]
    have hv := v.isLt
    have hm : (enc v / 2147483648 = ((c / 2 ^ d % 2 : Nat) : Int)) ↔ v.msb = c.testBit d := by
      rw [hb, BitVec.msb_eq_decide]
      unfold enc
      have h3 : c / 2 ^ d % 2 < 2 := Nat.mod_lt _ (by decide)
      generalize c / 2 ^ d % 2 = z at *
      generalize v.toNat = x at *
      have hz : z = 0 ∨ z = 1 := by omega
      rcases hz with rfl | rfl
      · simp; omega
      · simp; omega
    have key : run v (low c (d + 1)) = run (sb (v ^^^ bw (c.testBit d))) (low c d) := rfl
    rw [key, sb_bit, shl_enc]
    by_cases h : v.msb = c.testBit d
    · rw [if_pos (hm.2 h), if_pos h, BitVec.xor_zero]
      rw [ih k _ (by omega) (by omega), show k + 1 - (d + 1) - 1 = k - d - 1 by omega]
    · rw [if_neg (fun h2 => h (hm.1 h2)), if_neg h, show (79764919 : Int) = enc P32 by decide, xor_enc]
      rw [ih k _ (by omega) (by omega), show k + 1 - (d + 1) - 1 = k - d - 1 by omega]
theorem outer (l : List Int) (hl2 : l.length ≤ 2000) (hl : ∀ c ∈ l, 0 ≤ c ∧ c < 256) (d : Nat) : ∀ (k i : Nat) (v : BitVec 32), i + d = l.length → 10 * d + 1 ≤ k →
    prebendref04_From.l0 k (enc v) l (i : Int) = some (enc (run v (bitsOf (l.drop i)))) := by
  induction d with
  | zero =>
    intro k i v hi hk
    obtain ⟨k, rfl⟩ : ∃ z, k = z + 1 := ⟨k - 1, by omega⟩
    simp only [prebendref04_From.l0]
    rw [if_neg (by omega), List.drop_of_length_le (by omega)]
    rfl
  | succ d ih =>
    intro k i v hi hk
    obtain ⟨k, rfl⟩ : ∃ z, k = z + 1 := ⟨k - 1, by omega⟩
    have hlt : i < l.length := by omega
    obtain ⟨c, hc1, hc2⟩ := byte_of (hl l[i] (List.getElem_mem _))
    simp only [prebendref04_From.l0]
    rw [if_pos (by omega)]
    have := inner l i hlt hl2 c hc2 hc1 8 k v (by omega) (by omega)
    rw [show (((8 : Nat) : Int) - 1) = 7 from rfl] at this
    rw [this, low8, ih (k - 8 - 1) (i + 1) _ (by omega) (by omega), List.drop_eq_getElem_cons hlt, hc1]
    show _ = some (enc (run v (bits8 (c : Int) ++ bitsOf (l.drop (i + 1)))))
    rw [run_append]
theorem refFrom_f (k : Nat) (s : Int) (l : List Int) (hs : 0 ≤ s ∧ s < 4294967296) (hl2 : l.length ≤ 2000) (hl : ∀ c ∈ l, 0 ≤ c ∧ c < 256) (hk : 20001 ≤ k) : prebendref04_From.f k s l = some (fr s l) := by
  obtain ⟨v, rfl⟩ := enc_of s hs
  rw [fr_enc l hl]
  have := outer l hl2 hl l.length k 0 v (by omega) (by omega)
  exact this

theorem u64_small (x : Int) (h : 0 ≤ x ∧ x < 4294967296) : IntKind.u64.wrap x = x := by
  simp [IntKind.wrap, IntKind.bits, IntKind.signed]; omega
theorem be_go (k s i : Nat) (x : Int) (l : List Int) (hi : i < s) (hs : s ≤ 10) (hl : l.length = s) (hx : 0 ≤ x ∧ x < 4294967296) :
    prebendref06_be.l0 (k + 1) x (s : Int) l (i : Int) = prebendref06_be.l0 k (x / 256) (s : Int) (l.set (s - 1 - i) (x % 256)) ((i + 1 : Nat) : Int) := by
  have e1 : wrap64 ((s : Int) - 1) = (s : Int) - 1 := by unfold wrap64; omega
  have e2 : wrap64 ((s : Int) - 1 - (i : Int)) = ((s - 1 - i : Nat) : Int) := by unfold wrap64; omega
  have e3 : wrap64 ((i : Int) + 1) = ((i + 1 : Nat) : Int) := by unfold wrap64; omega
  have e4 : IntKind.u64.wrap (Int.tdiv x 256) = x / 256 := by
    rw [Int.tdiv_eq_ediv_of_nonneg hx.1]; exact u64_small _ (by omega)
  rw [prebendref06_be.l0, e1, e2, e3, e4, if_pos (by omega), if_pos (by omega), if_pos (by omega), Int.toNat_natCast]
theorem be_end (k s : Nat) (x : Int) (l : List Int) : prebendref06_be.l0 (k + 1) x (s : Int) l (s : Int) = some l := by
  rw [prebendref06_be.l0, if_neg (Int.lt_irrefl _)]
theorem be_4 (k : Nat) (n : Int) (h : 0 ≤ n ∧ n < 4294967296) : prebendref06_be.f (k + 6) (IntKind.u64.wrap n) 4 = some (be4 n) := by
  rw [u64_small n h, prebendref06_be.f, if_pos (by decide), if_pos (by decide)]
  refine (be_go (k + 5) 4 0 n [0, 0, 0, 0] (by decide) (by decide) rfl h).trans ?_
  refine (be_go (k + 4) 4 1 _ _ (by decide) (by decide) rfl (by omega)).trans ?_
  refine (be_go (k + 3) 4 2 _ _ (by decide) (by decide) rfl (by omega)).trans ?_
  refine (be_go (k + 2) 4 3 _ _ (by decide) (by decide) rfl (by omega)).trans ?_
  refine (be_end (k + 1) 4 _ _).trans ?_
  show some [n / 256 / 256 / 256 % 256, n / 256 / 256 % 256, n / 256 % 256, n % 256] = some [n / 16777216 % 256, n / 65536 % 256, n / 256 % 256, n % 256]
  rw [show n / 256 / 256 / 256 = n / 16777216 from by omega, show n / 256 / 256 = n / 65536 from by omega]
theorem be_2 (k : Nat) (n : Int) (h : 0 ≤ n ∧ n < 4294967296) : prebendref06_be.f (k + 6) (IntKind.u64.wrap n) 2 = some (be2 n) := by
  rw [u64_small n h, prebendref06_be.f, if_pos (by decide), if_pos (by decide)]
  refine (be_go (k + 5) 2 0 n [0, 0] (by decide) (by decide) rfl h).trans ?_
  refine (be_go (k + 4) 2 1 _ _ (by decide) (by decide) rfl (by omega)).trans ?_
  exact be_end (k + 3) 2 _ _
theorem sec_loop (n : Nat) (hn : n ≤ 65535) : ∀ (d j k : Nat), j + d = sectors n → 1 ≤ j → d < k → prebendref06_Sectors.l0 k (n : Int) (j : Int) = some ((sectors n : Nat) : Int) := by
  have hs : sectors n = (n + 29) / 24 := rfl
  generalize sectors n = m at hs ⊢
  intro d
  induction d with
  | zero =>
    intro j k hj h1 hk
    obtain ⟨k, rfl⟩ : ∃ z, k = z + 1 := ⟨k - 1, by omega⟩
    have e1 : wrap64 (24 * (j : Int)) = 24 * (j : Int) := by unfold wrap64; omega
    have e2 : wrap64 ((n : Int) + 6) = (n : Int) + 6 := by unfold wrap64; omega
    rw [prebendref06_Sectors.l0, e1, e2, if_neg (by omega), show j = m from by omega]
  | succ d ih =>
    intro j k hj h1 hk
    obtain ⟨k, rfl⟩ : ∃ z, k = z + 1 := ⟨k - 1, by omega⟩
    have e1 : wrap64 (24 * (j : Int)) = 24 * (j : Int) := by unfold wrap64; omega
    have e2 : wrap64 ((n : Int) + 6) = (n : Int) + 6 := by unfold wrap64; omega
    have e3 : wrap64 ((j : Int) + 1) = ((j + 1 : Nat) : Int) := by unfold wrap64; omega
    rw [prebendref06_Sectors.l0, e1, e2, if_pos (by omega), e3]
    exact ih (j + 1) k (by omega) (by omega) (by omega)
theorem refSec_f (k n : Nat) (hn : n ≤ 65535) (hk : 3000 ≤ k) : prebendref06_Sectors.f k (n : Int) = some ((sectors n : Nat) : Int) := by
  have hs : 1 ≤ sectors n ∧ sectors n ≤ 2800 := by unfold sectors; omega
  obtain ⟨k, rfl⟩ : ∃ z, k = z + 1 := ⟨k - 1, by omega⟩
  rw [prebendref06_Sectors.f, if_neg (by omega), show decide ((n : Int) > 65535) = false from decide_eq_false (by omega), prebendref06_Sectors.j0, if_neg (by decide)]
  exact sec_loop n hn (sectors n - 1) 1 k (by omega) (by omega) (by omega)
theorem sectors_same (k : Nat) (a : Int) (hk : 3000 ≤ k) : ∃ r, frame_Sectors.f a = some r ∧ prebendref06_Sectors.f k a = some r := by
  by_cases h0 : a < 0
  · refine ⟨0, by rw [frame_Sectors.f, if_pos h0], ?_⟩
    obtain ⟨k, rfl⟩ : ∃ z, k = z + 1 := ⟨k - 1, by omega⟩
    rw [prebendref06_Sectors.f, if_pos h0, prebendref06_Sectors.j0, if_pos rfl]
  · by_cases h1 : a > 65535
    · refine ⟨0, by rw [frame_Sectors.f, if_neg h0, if_pos h1], ?_⟩
      obtain ⟨k, rfl⟩ : ∃ z, k = z + 1 := ⟨k - 1, by omega⟩
      rw [prebendref06_Sectors.f, if_neg h0, show decide (a > 65535) = true from decide_eq_true h1, prebendref06_Sectors.j0, if_pos rfl]
    · obtain ⟨n, rfl⟩ : ∃ n : Nat, a = (n : Int) := ⟨a.toNat, by omega⟩
      exact ⟨_, XPack.Sectors_f n (by omega), refSec_f k n (by omega) hk⟩
/-- What the reference's loop has put out before byte i of the data. -/
def outTo (full mk : List Int) : Nat → List Int
  | 0 => []
  | i + 1 => if i % 24 = 23 then (outTo full mk i ++ [full.getD i 0]) ++ mk else outTo full mk i ++ [full.getD i 0]
theorem outTo_cut (full mk : List Int) (j : Nat) : ∀ r, r < 24 → 24 * j + 24 ≤ full.length → outTo full mk (24 * j) = cut full mk j → outTo full mk (24 * j + r) = cut full mk j ++ (full.drop (24 * j)).take r := by
  intro r
  induction r with
  | zero => intro _ _ h; rw [Nat.add_zero, h, List.take_zero, List.append_nil]
  | succ r ih =>
    intro hr hf h
    have hm : ¬ (24 * j + r) % 24 = 23 := by omega
    have hg : full.getD (24 * j + r) 0 = full[24 * j + r] := by rw [List.getD_eq_getElem?_getD, List.getElem?_eq_getElem (by omega)]; rfl
    rw [show 24 * j + (r + 1) = 24 * j + r + 1 from rfl, outTo, if_neg hm, ih (by omega) hf h, List.append_assoc, hg]
    rw [List.take_succ_eq_append_getElem (by rw [List.length_drop]; omega), List.getElem_drop]
theorem outTo_all (full mk : List Int) : ∀ j, 24 * j ≤ full.length → outTo full mk (24 * j) = cut full mk j := by
  intro j
  induction j with
  | zero => intro _; rfl
  | succ j ih =>
    intro h
    have h1 := outTo_cut full mk j 23 (by omega) (by omega) (ih (by omega))
    have hm : (24 * j + 23) % 24 = 23 := by omega
    have hg : full.getD (24 * j + 23) 0 = full[24 * j + 23] := by rw [List.getD_eq_getElem?_getD, List.getElem?_eq_getElem (by omega)]; rfl
    rw [show 24 * (j + 1) = 24 * j + 23 + 1 from by omega, outTo, if_pos hm, h1, cut_succ, hg]
    have ht : (full.drop (24 * j)).take 24 = (full.drop (24 * j)).take 23 ++ [full[24 * j + 23]] := by
      have := List.take_succ_eq_append_getElem (l := full.drop (24 * j)) (i := 23) (by rw [List.length_drop]; omega)
      rw [List.getElem_drop] at this
      exact this
    rw [ht, List.append_assoc (cut full mk j)]
theorem outTo_len (full mk : List Int) (hm : mk.length = 8) (i : Nat) : (outTo full mk i).length ≤ 9 * i := by
  induction i with
  | zero => exact Nat.zero_le _
  | succ i ih =>
    rw [outTo]
    split
    · rw [List.length_append, List.length_append, hm, List.length_singleton]; omega
    · rw [List.length_append, List.length_singleton]; omega
theorem pack_loop (l mk data : List Int) (m : Nat) (hl : l.length ≤ 600) (hm : sectors l.length = m) (hd : data.length = l.length + 6) (hmk : mk.length = 8) : ∀ (d i k : Nat), i + d = 24 * m → 4000 + d ≤ k →
    prebendref06_Pack.l0 k l mk data (outTo (data ++ List.replicate (24 * m - (l.length + 6)) 0) mk i) (i : Int) = some (outTo (data ++ List.replicate (24 * m - (l.length + 6)) 0) mk (24 * m), 0) := by
  have hms : l.length + 6 ≤ 24 * m ∧ m ≤ 30 := by rw [← hm]; unfold sectors; omega
  have hgd : ∀ i, (data ++ List.replicate (24 * m - (l.length + 6)) (0 : Int)).getD i 0 = if i < data.length then data.getD i 0 else 0 := by
    intro i
    by_cases h : i < data.length
    · rw [if_pos h, List.getD_eq_getElem?_getD, List.getD_eq_getElem?_getD, List.getElem?_append_left h]
    · rw [if_neg h, List.getD_eq_getElem?_getD, List.getElem?_append_right (by omega), List.getElem?_replicate]
      split <;> rfl
  intro d
  induction d with
  | zero =>
    intro i k hi hk
    obtain ⟨k, rfl⟩ : ∃ z, k = z + 1 := ⟨k - 1, by omega⟩
    have e1 : wrap64 (24 * ((m : Nat) : Int)) = 24 * (m : Int) := by unfold wrap64; omega
    rw [prebendref06_Pack.l0, refSec_f k l.length (by omega) (by omega), hm, Option.bind_some, e1, if_neg (by omega), show i = 24 * m from by omega]
  | succ d ih =>
    intro i k hi hk
    obtain ⟨k, rfl⟩ : ∃ z, k = z + 1 := ⟨k - 1, by omega⟩
    have e1 : wrap64 (24 * ((m : Nat) : Int)) = 24 * (m : Int) := by unfold wrap64; omega
    have e2 : wrap64 ((i : Int) + 1) = ((i + 1 : Nat) : Int) := by unfold wrap64; omega
    have e3 : Int.tmod (i : Int) 24 = ((i % 24 : Nat) : Int) := by rw [Int.tmod_eq_emod_of_nonneg (by omega)]; omega
    have hol := outTo_len (data ++ List.replicate (24 * m - (l.length + 6)) 0) mk hmk i
    have hstep := ih (i + 1) k (by omega) (by omega)
    rw [outTo, hgd] at hstep
    rw [prebendref06_Pack.l0, refSec_f k l.length (by omega) (by omega), hm, Option.bind_some, e1, if_pos (by omega), e2, e3]
    by_cases hlt : i < data.length
    · have hrd : rd data (i : Int) = data.getD i 0 := by unfold rd; rw [Int.toNat_natCast]
      rw [if_pos (by omega), if_pos (by omega), if_pos (by omega), hrd, Option.bind_some]
      rw [if_pos hlt] at hstep
      by_cases h23 : i % 24 = 23
      · rw [if_pos (by omega), if_pos (by rw [List.length_append, List.length_singleton, hmk]; omega)]
        rw [if_pos h23] at hstep
        exact hstep
      · rw [if_neg (by omega)]
        rw [if_neg h23] at hstep
        exact hstep
    · rw [if_neg (by omega), if_pos (by omega), Option.bind_some]
      rw [if_neg hlt] at hstep
      by_cases h23 : i % 24 = 23
      · rw [if_pos (by omega), if_pos (by rw [List.length_append, List.length_singleton, hmk]; omega)]
        rw [if_pos h23] at hstep
        exact hstep
      · rw [if_neg (by omega)]
        rw [if_neg h23] at hstep
        exact hstep
theorem refPack_in (k : Nat) (a s : Int) (l : List Int) (ha : 0 ≤ a ∧ a < 4294967296) (hs : 0 ≤ s ∧ s < 4294967296) (hl : l.length ≤ 600) (hb : ∀ c ∈ l, 0 ≤ c ∧ c < 256) (hk : 30000 ≤ k) :
    prebendref06_Pack.f k a s l = some (packed a s l, 0) := by
  obtain ⟨k, rfl⟩ : ∃ z, k = (z + 6) + 1 := ⟨k - 7, by omega⟩
  have hmr : ∀ c ∈ stampOf a s ++ be2 (l.length : Int) ++ l, 0 ≤ c ∧ c < 256 := by
    intro c hc
    rcases List.mem_append.1 hc with h | h
    · rcases List.mem_append.1 h with h | h
      · exact stamp_range a s c h
      · exact be2_range _ c h
    · exact hb c h
  have hlen : (stampOf a s ++ be2 (l.length : Int) ++ l).length ≤ 2000 := by rw [List.length_append, List.length_append, stamp_len, be2_len]; omega
  have hsum : fr 4294967295 (stampOf a s ++ be2 (l.length : Int) ++ l) = sumOf a s l := by rw [fr_append, fr_append]; rfl
  have hOf : prebendref04_Of.f (k + 6) (stampOf a s ++ be2 (l.length : Int) ++ l) = some (sumOf a s l) := by
    unfold prebendref04_Of.f
    rw [refFrom_f (k + 6) _ _ (by decide) hlen hmr (by omega), hsum]; rfl
  have hsr : 0 ≤ sumOf a s l ∧ sumOf a s l < 4294967296 := by rw [← hsum]; exact fr_range _ _ (by decide)
  have hdl : (be2 (l.length : Int) ++ be4 (sumOf a s l) ++ l).length = l.length + 6 := by rw [List.length_append, List.length_append, be2_len, be4_len]; omega
  have hsm : sectors l.length ≤ 30 := by unfold sectors; omega
  have hloop := pack_loop l (stampOf a s) (be2 (l.length : Int) ++ be4 (sumOf a s l) ++ l) (sectors l.length) hl rfl hdl (stamp_len a s) (24 * sectors l.length) 0 (k + 6) (by omega) (by omega)
  have hfull : be2 (l.length : Int) ++ be4 (sumOf a s l) ++ l ++ List.replicate (24 * sectors l.length - (l.length + 6)) 0 = filled a s l := by
    unfold filled body; rw [List.append_assoc (be2 _)]
  rw [hfull, outTo_all _ _ _ (by rw [filled_len]; exact Nat.le_refl _)] at hloop
  have hst : be4 a ++ be4 s = stampOf a s := rfl
  rw [prebendref06_Pack.f, if_neg (by omega), if_neg (by omega), if_neg (by omega), show decide (s ≥ 4294967296) = false from decide_eq_false (by omega), prebendref06_Pack.j0, if_neg (by decide), if_neg (by omega),
    be_4 k a ha, Option.bind_some, be_4 k s hs, Option.bind_some, if_pos (by rw [be4_len, be4_len]; decide), Option.bind_some, hst, be_2 k _ (by omega), Option.bind_some, Option.bind_some, List.nil_append,
    if_pos (by rw [stamp_len]; decide), Option.bind_some, if_pos (by rw [stamp_len, be2_len]; decide), Option.bind_some, if_pos (by rw [List.length_append, stamp_len, be2_len]; omega), hOf, Option.bind_some,
    be_4 k _ hsr, Option.bind_some, if_pos (by rw [be2_len, be4_len]; decide), Option.bind_some, if_pos (by rw [List.length_append, be2_len, be4_len]; omega)]
  exact hloop
theorem refPack_out (k : Nat) (a s : Int) (l : List Int) (h : ¬ (0 ≤ a ∧ a < 4294967296 ∧ 0 ≤ s ∧ s < 4294967296)) : prebendref06_Pack.f (k + 1) a s l = some ([], 1) := by
  have hj : prebendref06_Pack.j0 (k + 1) a s l true = some ([], 1) := by rw [prebendref06_Pack.j0, if_pos rfl]
  rw [prebendref06_Pack.f]
  split
  · exact hj
  · split
    · exact hj
    · split
      · exact hj
      · rw [show decide (s ≥ 4294967296) = true from decide_eq_true (by omega)]; exact hj
theorem pack_same (k : Nat) (a s : Int) (l : List Int) (hl : l.length ≤ 600) (hb : ∀ c ∈ l, 0 ≤ c ∧ c < 256) (hk : 30000 ≤ k) : ∃ r, XChunk.frame_Pack.f a s l = some r ∧ prebendref06_Pack.f k a s l = some r := by
  by_cases h : 0 ≤ a ∧ a < 4294967296 ∧ 0 ≤ s ∧ s < 4294967296
  · refine ⟨(packed a s l, 0), ?_, refPack_in k a s l ⟨h.1, h.2.1⟩ h.2.2 hl hb hk⟩
    unfold XChunk.frame_Pack.f
    rw [if_pos h, if_neg (by omega), if_pos (List.all_eq_true.2 (fun c hc => decide_eq_true (hb c hc)))]
  · refine ⟨([], 1), ?_, ?_⟩
    · unfold XChunk.frame_Pack.f; rw [if_neg h]
    · obtain ⟨k, rfl⟩ : ∃ z, k = z + 1 := ⟨k - 1, by omega⟩
      exact refPack_out k a s l h

open XUnpack XData
theorem cut_at (d mk : List Int) : ∀ k j, j < k → ∃ rest, cut d mk k = cut d mk j ++ ((d.drop (24 * j)).take 24 ++ (mk ++ rest))
  | 0, j, h => absurd h (Nat.not_lt_zero _)
  | k + 1, j, h => by
    rw [cut_succ]
    rcases Nat.lt_or_ge j k with h1 | h1
    · obtain ⟨rest, e⟩ := cut_at d mk k j h1
      exact ⟨rest ++ (d.drop (24 * k)).take 24 ++ mk, by rw [e]; simp [List.append_assoc]⟩
    · obtain rfl : j = k := by omega
      exact ⟨[], by simp [List.append_assoc]⟩
theorem mid (A B C : List Int) (a b : Nat) (ha : A.length = a) (hb : B.length = b) : ((A ++ (B ++ C)).take (a + b)).drop a = B := by
  subst ha hb
  rw [← List.append_assoc, ← List.length_append, List.take_left, List.drop_left]
theorem str_self (a : List Int) : eqB a a = true := by unfold eqB; exact beq_self_eq_true _
structure Sheet (l full mk : List Int) (m : Nat) : Prop where
  full_len : full.length = 24 * m
  mk_len : mk.length = 8
  len : 32 * m ≤ l.length
  at_ : ∀ j, j < m → ∃ A C, A.length = 32 * j ∧ l = A ++ ((full.drop (24 * j)).take 24 ++ (mk ++ C))
theorem Sheet.piece {l full mk : List Int} {m : Nat} (h : Sheet l full mk m) (j : Nat) (hj : j < m) : pieceAt l j = (full.drop (24 * j)).take 24 ∧ stampAt l j = mk := by
  obtain ⟨A, C, hA, e⟩ := h.at_ j hj
  have hB : ((full.drop (24 * j)).take 24).length = 24 := by rw [List.length_take, List.length_drop, h.full_len]; omega
  constructor
  · unfold pieceAt
    rw [e, show j * 32 + 24 = j * 32 + 24 from rfl]
    exact mid A _ _ (j * 32) 24 (by omega) hB
  · unfold stampAt
    rw [e, ← List.append_assoc, show j * 32 + 32 = (j * 32 + 24) + 8 from rfl]
    exact mid _ mk C (j * 32 + 24) 8 (by rw [List.length_append, hB]; omega) h.mk_len
theorem Sheet.data {l full mk : List Int} {m : Nat} (h : Sheet l full mk m) : ∀ j, j ≤ m → dataOf l j = full.take (24 * j) := by
  intro j
  induction j with
  | zero => intro _; rfl
  | succ j ih =>
    intro hj
    rw [dataOf_succ, ih (by omega), (h.piece j (by omega)).1, show 24 * (j + 1) = 24 * j + 24 from by omega, List.take_add]
theorem Sheet.dataF {l full mk : List Int} {m : Nat} (h : Sheet l full mk m) (hm : 1 ≤ m) : XData.dataF l m = full := by
  rw [dataF_all (fun i hi => by rw [(h.piece i hi).2, (h.piece 0 (by omega)).2]; exact str_self _), h.data m (Nat.le_refl _), List.take_of_length_le (by rw [h.full_len]; exact Nat.le_refl _)]
theorem sheet_packed (a s : Int) (x tail : List Int) : Sheet (packed a s x ++ tail) (filled a s x) (stampOf a s) (sectors x.length) where
  full_len := filled_len a s x
  mk_len := stamp_len a s
  len := by rw [List.length_append, packed_len]; omega
  at_ := by
    intro j hj
    obtain ⟨rest, e⟩ := cut_at (filled a s x) (stampOf a s) (sectors x.length) j hj
    refine ⟨cut (filled a s x) (stampOf a s) j, rest ++ tail, cut_len _ _ _ (by rw [filled_len]; omega) (stamp_len a s), ?_⟩
    show packed a s x ++ tail = _
    unfold packed
    rw [e]; simp [List.append_assoc]
theorem sec_pos (n : Nat) : 1 ≤ sectors n := by unfold sectors; omega
theorem first (a s : Int) (x tail : List Int) : ∃ C, packed a s x ++ tail = be2 (x.length : Int) ++ C := by
  obtain ⟨A, C, hA, e⟩ := (sheet_packed a s x tail).at_ 0 (sec_pos _)
  have hA0 : A = [] := List.eq_nil_of_length_eq_zero (by omega)
  subst hA0
  rw [e, List.nil_append, List.drop_zero]
  have h24 : 24 ≤ (filled a s x).length := by rw [filled_len]; have := sec_pos x.length; omega
  refine ⟨((filled a s x).take 24).drop 2 ++ (stampOf a s ++ C), ?_⟩
  have : be2 (x.length : Int) = ((filled a s x).take 24).take 2 := by
    rw [List.take_take, show min 2 24 = 2 from rfl]
    unfold filled body
    rw [List.append_assoc]
    rfl
  rw [this, ← List.append_assoc (((filled a s x).take 24).take 2), List.take_append_drop]
theorem val2_be (n : Nat) (h : n < 65536) : val2 (be2 (n : Int)) = (n : Int) := by
  show (n : Int) / 256 % 256 * 256 + (n : Int) % 256 = n
  omega
theorem val4_be (a : Int) (h : 0 ≤ a ∧ a < 4294967296) : val4 (be4 a) = a := by
  show ((a / 16777216 % 256 * 256 + a / 65536 % 256) * 256 + a / 256 % 256) * 256 + a % 256 = a
  omega
theorem unpack_packed (a s : Int) (x tail : List Int) (ha : 0 ≤ a ∧ a < 4294967296) (hs : 0 ≤ s ∧ s < 4294967296) (hx : x.length ≤ 65535) :
    unpackF (packed a s x ++ tail) = (a, s, x, ((sectors x.length : Nat) : Int), 0) := by
  have S := sheet_packed a s x tail
  have hm := sec_pos x.length
  have hl : ¬ (packed a s x ++ tail).length < 32 := by have := S.len; omega
  obtain ⟨C, hC⟩ := first a s x tail
  have h2 : val2 ((packed a s x ++ tail).take 2) = (x.length : Int) := by
    rw [hC, show (2 : Nat) = (be2 (x.length : Int)).length from rfl, List.take_left]
    exact val2_be x.length (by omega)
  obtain ⟨A, C', hA, e⟩ := S.at_ 0 (by omega)
  have hA0 : A = [] := List.eq_nil_of_length_eq_zero (by omega)
  subst hA0
  rw [List.nil_append, List.drop_zero] at e
  have hB : ((filled a s x).take 24).length = 24 := by rw [List.length_take, filled_len]; omega
  have he : val4 (((packed a s x ++ tail).take 28).drop 24) = a := by
    have : ((packed a s x ++ tail).take 28).drop 24 = be4 a := by
      rw [e, show stampOf a s ++ C' = be4 a ++ (be4 s ++ C') from by unfold stampOf; rw [List.append_assoc]]
      exact mid _ (be4 a) _ 24 4 hB (be4_len a)
    rw [this]; exact val4_be a ha
  have hs' : val4 (((packed a s x ++ tail).take 32).drop 28) = s := by
    have : ((packed a s x ++ tail).take 32).drop 28 = be4 s := by
      rw [e, show stampOf a s ++ C' = be4 a ++ (be4 s ++ C') from by unfold stampOf; rw [List.append_assoc], ← List.append_assoc]
      exact mid _ (be4 s) _ 28 4 (by rw [List.length_append, hB, be4_len]) (be4_len s)
    rw [this]; exact val4_be s hs
  have hd := S.dataF hm
  have hb : ((filled a s x).take (6 + x.length)).drop 6 = x := by
    have e6 : filled a s x = (be2 (x.length : Int) ++ be4 (sumOf a s x)) ++ (x ++ List.replicate (24 * sectors x.length - (x.length + 6)) 0) := by
      unfold filled body; simp [List.append_assoc]
    rw [e6]
    exact mid _ x _ 6 x.length (by rw [List.length_append, be2_len, be4_len]) rfl
  have hp : (packed a s x ++ tail).take (32 * sectors x.length) = packed a s x := by
    rw [← packed_len a s x, List.take_left]
  have := unpackF_4 (l := packed a s x ++ tail) (d := filled a s x) (b := x) (p := packed a s x) (n := x.length) (m := sectors x.length) (e := a) (s := s) (r := true) hl h2 rfl (by have := S.len; omega) hd
    (by rw [filled_len]; have := sectors_le x.length; omega) he hs' hb rfl (by rw [hp]; exact str_self _)
  rw [this, if_pos rfl]
theorem unpack_cut (a s : Int) (x : List Int) (t : Nat) (hx : x.length ≤ 65535) (ht : t < (packed a s x).length) : unpackF ((packed a s x).take t) = bad := by
  have hpl := packed_len a s x
  have hlen : ((packed a s x).take t).length = t := by rw [List.length_take]; omega
  by_cases h : t < 32
  · exact unpackF_1 (by rw [hlen]; exact h)
  · obtain ⟨C, hC⟩ := first a s x []
    rw [List.append_nil] at hC
    have h2 : val2 (((packed a s x).take t).take 2) = (x.length : Int) := by
      rw [List.take_take, show min 2 t = 2 from by omega, hC, show (2 : Nat) = (be2 (x.length : Int)).length from rfl, List.take_left]
      exact val2_be x.length (by omega)
    exact unpackF_2 (by rw [hlen]; exact h) h2 rfl (by rw [hlen, ← hpl]; exact ht)
theorem cut_mem (d mk : List Int) (hd : ∀ c ∈ d, 0 ≤ c ∧ c < 256) (hm : ∀ c ∈ mk, 0 ≤ c ∧ c < 256) (k : Nat) : ∀ c ∈ cut d mk k, 0 ≤ c ∧ c < 256 := by
  induction k with
  | zero => intro c hc; cases hc
  | succ k ih =>
    intro c hc
    rw [cut_succ] at hc
    rcases List.mem_append.1 hc with h | h
    · rcases List.mem_append.1 h with h | h
      · exact ih c h
      · exact hd c (List.mem_of_mem_drop (List.mem_of_mem_take h))
    · exact hm c h
theorem packed_mem (a s : Int) (x : List Int) (hx : ∀ c ∈ x, 0 ≤ c ∧ c < 256) : ∀ c ∈ packed a s x, 0 ≤ c ∧ c < 256 := by
  refine cut_mem _ _ (fun c hc => ?_) (stamp_range a s) _
  unfold filled body at hc
  rcases List.mem_append.1 hc with h | h
  · rcases List.mem_append.1 h with h | h
    · exact be2_range _ c h
    · rcases List.mem_append.1 h with h | h
      · exact be4_range _ c h
      · exact hx c h
  · rw [List.eq_of_mem_replicate h]; decide
theorem Unpack_f (l : List Int) (hl : l.length ≤ 140737488351232) (hb : ∀ c ∈ l, 0 ≤ c ∧ c < 256) : frame_Unpack.f l = some (unpackF l) := by
  unfold frame_Unpack.f
  rw [if_pos]
  rw [Bool.and_eq_true, decide_eq_true_eq, List.all_eq_true]
  exact ⟨hl, fun c hc => decide_eq_true (hb c hc)⟩

theorem bytes_inj : ∀ (a b : List Int), (∀ c ∈ a, 0 ≤ c ∧ c < 256) → (∀ c ∈ b, 0 ≤ c ∧ c < 256) → a.map (fun n => UInt8.ofNat n.toNat) = b.map (fun n => UInt8.ofNat n.toNat) → a = b
  | [], [], _, _, _ => rfl
  | [], y :: b, _, _, h => by simp at h
  | x :: a, [], _, _, h => by simp at h
  | x :: a, y :: b, ha, hb, h => by
    rw [List.map_cons, List.map_cons, List.cons.injEq] at h
    have h1 := congrArg UInt8.toNat h.1
    rw [UInt8.toNat_ofNat', UInt8.toNat_ofNat'] at h1
    have hx := ha x (List.mem_cons_self ..)
    have hy := hb y (List.mem_cons_self ..)
    rw [show x = y from by omega, bytes_inj a b (fun c hc => ha c (List.mem_cons_of_mem _ hc)) (fun c hc => hb c (List.mem_cons_of_mem _ hc)) h.2]
theorem str_inj (a b : List Int) (ha : ∀ c ∈ a, 0 ≤ c ∧ c < 256) (hb : ∀ c ∈ b, 0 ≤ c ∧ c < 256) (h : (strOfNums a).toList = (strOfNums b).toList) : a = b := by
  refine bytes_inj a b ha hb ?_
  rw [Lib.strOfNums_toList, Lib.strOfNums_toList] at h
  exact h
theorem eqB_str (a b : List Int) : eqB a b = true ↔ (strOfNums a).toList = (strOfNums b).toList := by unfold eqB; exact beq_iff_eq
theorem dataOf_get (l : List Int) (m i : Nat) (hm : 32 * m ≤ l.length) (hi : i < 24 * m) : (dataOf l m).getD i 0 = l.getD (i / 24 * 32 + i % 24) 0 := by
  induction m with
  | zero => omega
  | succ m ih =>
    have hlen := dataOf_len l m (by omega)
    rw [dataOf_succ]
    by_cases h : i < 24 * m
    · rw [← ih (by omega) h, List.getD_eq_getElem?_getD, List.getD_eq_getElem?_getD, List.getElem?_append_left (by omega)]
    · rw [List.getD_eq_getElem?_getD, List.getElem?_append_right (by omega), hlen]
      unfold pieceAt
      rw [List.getElem?_drop, List.getElem?_take_of_lt (by omega), List.getD_eq_getElem?_getD, show m * 32 + (i - 24 * m) = i / 24 * 32 + i % 24 from by omega]
theorem w_small (x : Int) (h : -9223372036854775808 ≤ x ∧ x < 9223372036854775808) : wrap64 x = x := by unfold wrap64; omega
theorem w_nat (n : Nat) (h : (n : Int) < 9223372036854775808) : wrap64 (n : Int) = (n : Int) := w_small _ ⟨by omega, h⟩
def raw (l : List Int) (m j : Nat) : List Int := ((dataOf l m).take (6 + j)).drop 6
theorem raw_len (l : List Int) (m j : Nat) (hm : 32 * m ≤ l.length) (hj : 6 + j ≤ 24 * m) : (raw l m j).length = j := by
  unfold raw; rw [List.length_drop, List.length_take, dataOf_len l m hm]; omega
theorem raw_succ (l : List Int) (m j : Nat) (hm : 32 * m ≤ l.length) (hj : 6 + j < 24 * m) : raw l m (j + 1) = raw l m j ++ [l.getD ((6 + j) / 24 * 32 + (6 + j) % 24) 0] := by
  have hlen := dataOf_len l m hm
  unfold raw
  rw [← dataOf_get l m (6 + j) hm hj, show 6 + (j + 1) = 6 + j + 1 from rfl, List.take_succ_eq_append_getElem (by omega), List.drop_append_of_le_length (by rw [List.length_take]; omega), List.getD_eq_getElem?_getD, List.getElem?_eq_getElem (by omega)]
  rfl
theorem take_drop_get (l : List Int) (a b i : Nat) (h : a + i < b) : ((l.take b).drop a).getD i 0 = l.getD (a + i) 0 := by
  rw [List.getD_eq_getElem?_getD, List.getElem?_drop, List.getElem?_take_of_lt h, List.getD_eq_getElem?_getD]
theorem rd_at (l : List Int) (i : Nat) : rd l (i : Int) = l.getD i 0 := by unfold rd; rw [Int.toNat_natCast]
theorem getD_range (l : List Int) (hb : ∀ c ∈ l, 0 ≤ c ∧ c < 256) (i : Nat) : 0 ≤ l.getD i 0 ∧ l.getD i 0 < 256 := by
  by_cases h : i < l.length
  · rw [List.getD_eq_getElem?_getD, List.getElem?_eq_getElem h]; exact hb _ (List.getElem_mem h)
  · rw [List.getD_eq_getElem?_getD, List.getElem?_eq_none (by omega)]; decide
theorem be_go2 (k i : Nat) (l b : List Int) (m x y : Int) (hb : ∀ c ∈ l, 0 ≤ c ∧ c < 256) (hl : 32 ≤ l.length) (hi : i < 4) (hx : 0 ≤ x ∧ x < 16777216) (hy : 0 ≤ y ∧ y < 16777216) :
    prebendref06_Unpack.l1 (k + 1) l m b x y (i : Int) = prebendref06_Unpack.l1 k l m b (x * 256 + l.getD (24 + i) 0) (y * 256 + l.getD (28 + i) 0) ((i + 1 : Nat) : Int) := by
  have h1 := getD_range l hb (24 + i)
  have h2 := getD_range l hb (28 + i)
  have e1 : wrap64 (24 + (i : Int)) = ((24 + i : Nat) : Int) := by unfold wrap64; omega
  have e2 : wrap64 (28 + (i : Int)) = ((28 + i : Nat) : Int) := by unfold wrap64; omega
  have e3 : wrap64 ((i : Int) + 1) = ((i + 1 : Nat) : Int) := by unfold wrap64; omega
  have e4 : wrap64 (x * 256) = x * 256 := by unfold wrap64; omega
  have e5 : wrap64 (y * 256) = y * 256 := by unfold wrap64; omega
  rw [prebendref06_Unpack.l1, e1, e2, e3, rd_at, rd_at, e4, e5, if_pos (by omega), if_pos (by omega), if_pos (by omega), if_pos (by omega), if_pos (by omega)]
  have e6 : wrap64 (l.getD (24 + i) 0) = l.getD (24 + i) 0 := by unfold wrap64; omega
  have e7 : wrap64 (l.getD (28 + i) 0) = l.getD (28 + i) 0 := by unfold wrap64; omega
  rw [e6, e7]
  have e8 : wrap64 (x * 256 + l.getD (24 + i) 0) = x * 256 + l.getD (24 + i) 0 := by unfold wrap64; omega
  have e9 : wrap64 (y * 256 + l.getD (28 + i) 0) = y * 256 + l.getD (28 + i) 0 := by unfold wrap64; omega
  rw [e8, e9]
theorem val4_at (l : List Int) (a b : Nat) (h : a + 4 ≤ b) : val4 ((l.take b).drop a) = ((l.getD (a + 0) 0 * 256 + l.getD (a + 1) 0) * 256 + l.getD (a + 2) 0) * 256 + l.getD (a + 3) 0 := by
  unfold val4
  rw [take_drop_get l a b 0 (by omega), take_drop_get l a b 1 (by omega), take_drop_get l a b 2 (by omega), take_drop_get l a b 3 (by omega)]
theorem marks (k : Nat) (l b : List Int) (m e s : Int) (hb : ∀ c ∈ l, 0 ≤ c ∧ c < 256) (hl : 32 ≤ l.length) (he : val4 ((l.take 28).drop 24) = e) (hs : val4 ((l.take 32).drop 28) = s) :
    prebendref06_Unpack.l1 (k + 4) l m b 0 0 0 = prebendref06_Unpack.l1 k l m b e s 4 := by
  have g := fun i => getD_range l hb i
  rw [val4_at l 24 28 (by decide)] at he
  rw [val4_at l 28 32 (by decide)] at hs
  have r0 := g (24 + 0); have r1 := g (24 + 1); have r2 := g (24 + 2); have s0 := g (28 + 0); have s1 := g (28 + 1); have s2 := g (28 + 2)
  have t0 := be_go2 (k + 3) 0 l b m 0 0 hb hl (by decide) (by decide) (by decide)
  have t1 := be_go2 (k + 2) 1 l b m (0 * 256 + l.getD (24 + 0) 0) (0 * 256 + l.getD (28 + 0) 0) hb hl (by decide) (by omega) (by omega)
  have t2 := be_go2 (k + 1) 2 l b m ((0 * 256 + l.getD (24 + 0) 0) * 256 + l.getD (24 + 1) 0) ((0 * 256 + l.getD (28 + 0) 0) * 256 + l.getD (28 + 1) 0) hb hl (by decide) (by omega) (by omega)
  have t3 := be_go2 k 3 l b m (((0 * 256 + l.getD (24 + 0) 0) * 256 + l.getD (24 + 1) 0) * 256 + l.getD (24 + 2) 0) (((0 * 256 + l.getD (28 + 0) 0) * 256 + l.getD (28 + 1) 0) * 256 + l.getD (28 + 2) 0) hb hl (by decide) (by omega) (by omega)
  clear r0 r1 r2 s0 s1 s2 g hb hl
  have he' : (((0 * 256 + l.getD (24 + 0) 0) * 256 + l.getD (24 + 1) 0) * 256 + l.getD (24 + 2) 0) * 256 + l.getD (24 + 3) 0 = e := by rw [← he, Int.zero_mul, Int.zero_add]
  have hs' : (((0 * 256 + l.getD (28 + 0) 0) * 256 + l.getD (28 + 1) 0) * 256 + l.getD (28 + 2) 0) * 256 + l.getD (28 + 3) 0 = s := by rw [← hs, Int.zero_mul, Int.zero_add]
  rw [he', hs'] at t3
  clear he hs he' hs'
  exact t0.trans (t1.trans (t2.trans t3))
theorem gather (l : List Int) (n m : Nat) (hl : l.length ≤ 600) (hm : 32 * m ≤ l.length) (hn : 6 + n ≤ 24 * m) : ∀ (d j k : Nat), j + d = n → prebendref06_Unpack.l0 (k + d + 1) l (n : Int) (m : Int) (raw l m j) ((6 + j : Nat) : Int) = prebendref06_Unpack.l1 k l (m : Int) (raw l m n) 0 0 0 := by
  intro d
  induction d with
  | zero =>
    intro j k hj
    have e1 : wrap64 (6 + (n : Int)) = ((6 + n : Nat) : Int) := by unfold wrap64; omega
    rw [Nat.add_zero, prebendref06_Unpack.l0, e1, if_neg (by omega), show j = n from by omega]
  | succ d ih =>
    intro j k hj
    have ih' := ih (j + 1) k (by omega)
    have hr := raw_len l m j hm (by omega)
    have hs := raw_succ l m j hm (by omega)
    have c4 : (raw l m j).length < 140737488355328 := by omega
    have hq : 24 * ((6 + j) / 24) + (6 + j) % 24 = 6 + j := Nat.div_add_mod (6 + j) 24
    have hq' : (6 + j) % 24 < 24 := Nat.mod_lt _ (by decide)
    have e2 : Int.tdiv ((6 + j : Nat) : Int) 24 = (((6 + j) / 24 : Nat) : Int) := rfl
    have e3 : Int.tmod ((6 + j : Nat) : Int) 24 = (((6 + j) % 24 : Nat) : Int) := rfl
    rw [show k + (d + 1) + 1 = (k + d + 1) + 1 from by rw [Nat.add_assoc k d 1], prebendref06_Unpack.l0, e2, e3]
    clear e2 e3 ih hr
    generalize (6 + j) / 24 = q at hs hq ⊢
    generalize (6 + j) % 24 = r at hs hq hq' ⊢
    have hqm : q < m := by clear hs c4; omega
    have hx : q * 32 + r < l.length := by clear hs c4; omega
    have hx6 : q * 32 + r < 600 := by clear hs c4; omega
    have c1 : ((6 + j : Nat) : Int) < ((6 + n : Nat) : Int) := by clear hs c4; omega
    have c2 : (0 : Int) ≤ ((q * 32 + r : Nat) : Int) := Int.natCast_nonneg _
    have c3 : ((q * 32 + r : Nat) : Int) < (l.length : Int) := Int.ofNat_lt.2 hx
    have b1 : (6 + (n : Int)) = ((6 + n : Nat) : Int) ∧ ((6 + n : Nat) : Int) < 9223372036854775808 := by clear hs c4; omega
    have b7 : ((6 + j : Nat) : Int) + 1 = ((6 + (j + 1) : Nat) : Int) ∧ ((6 + (j + 1) : Nat) : Int) < 9223372036854775808 := by clear hs c4; omega
    have b5 : (q : Int) * 32 = ((q * 32 : Nat) : Int) ∧ ((q * 32 : Nat) : Int) < 9223372036854775808 ∧ (q : Int) < 9223372036854775808 := by clear hs c4; omega
    have b6 : ((q * 32 : Nat) : Int) + (r : Int) = ((q * 32 + r : Nat) : Int) ∧ ((q * 32 + r : Nat) : Int) < 9223372036854775808 := by clear hs c4; omega
    rw [b1.1, w_nat _ b1.2, b7.1, w_nat _ b7.2, w_nat _ b5.2.2, b5.1, w_nat _ b5.2.1, b6.1, w_nat _ b6.2, if_pos c1, if_pos c2, if_pos c3, if_pos c4, rd_at, ← hs]
    exact ih'
theorem stamp_of_take (l : List Int) (m j : Nat) (hj : j < m) : stampAt (l.take (32 * m)) j = stampAt l j := by
  unfold stampAt; rw [List.take_take, Nat.min_eq_left (by omega)]
theorem unpack_ref (k : Nat) (hk : 100000 ≤ k) (l : List Int) (hl : l.length ≤ 600) (hb : ∀ c ∈ l, 0 ≤ c ∧ c < 256) : prebendref06_Unpack.f k l = some (unpackF l) := by
  by_cases h32 : l.length < 32
  · rw [prebendref06_Unpack.f, if_pos (by omega), unpackF_1 h32]; rfl
  have hv := value_2' (l.take 2) (by rw [List.length_take]; omega) (fun x hx => hb x (List.mem_of_mem_take hx))
  obtain ⟨n, hn⟩ : ∃ n : Nat, val2 (l.take 2) = (n : Int) := ⟨(val2 (l.take 2)).toNat, by omega⟩
  have hn6 : n ≤ 65535 := by omega
  have r0 := getD_range l hb 0
  have r1 := getD_range l hb 1
  have hn' : l.getD 0 0 * 256 + l.getD 1 0 = (n : Int) := by
    rw [← hn]; unfold val2
    have t := take_drop_get l 0 2 0 (by decide)
    have t' := take_drop_get l 0 2 1 (by decide)
    rw [List.drop_zero] at t t'
    rw [t, t']
  have q0 : rd l 0 = l.getD 0 0 := rd_at l 0
  have q1 : rd l 1 = l.getD 1 0 := rd_at l 1
  have e0 : wrap64 (l.getD 0 0) = l.getD 0 0 := by unfold wrap64; omega
  have e1 : wrap64 (l.getD 1 0) = l.getD 1 0 := by unfold wrap64; omega
  have e2 : wrap64 (256 * l.getD 0 0) = 256 * l.getD 0 0 := by unfold wrap64; omega
  have e3 : wrap64 (256 * l.getD 0 0 + l.getD 1 0) = (n : Int) := by unfold wrap64; omega
  have hs := refSec_f k n hn6 (by omega)
  have hsl := sectors_le n
  have hsu : sectors n ≤ 3000 := by unfold sectors; omega
  obtain ⟨m, hm⟩ : ∃ m, sectors n = m := ⟨_, rfl⟩
  rw [hm] at hs hsl hsu
  have e4 : wrap64 (32 * (m : Int)) = ((32 * m : Nat) : Int) := by unfold wrap64; omega
  rw [prebendref06_Unpack.f, q0, q1, e0, e1, e2, e3, hs, Option.bind_some, e4, if_neg (by omega), if_pos (by omega), if_pos (by omega)]
  by_cases hlt : l.length < 32 * m
  · rw [if_pos (by omega), unpackF_2 h32 hn hm hlt]; rfl
  rw [if_neg (by omega)]
  have hm0 : 32 * m ≤ l.length := by omega
  obtain ⟨b, hbr⟩ : ∃ b, raw l m n = b := ⟨_, rfl⟩
  have hbl : b.length = n := by rw [← hbr]; exact raw_len l m n hm0 (by omega)
  have hbb : ∀ c ∈ b, 0 ≤ c ∧ c < 256 := by
    intro c hc; rw [← hbr] at hc; unfold raw at hc
    exact hb c (data_mem (List.mem_of_mem_take (List.mem_of_mem_drop hc)))
  obtain ⟨q, hq⟩ : ∃ q, k = (q + 1 + 4) + n + 1 := ⟨k - n - 6, by omega⟩
  have hqk : 30000 ≤ q := by omega
  rw [hq]
  clear hq hs hk
  have h1 := (gather l n m hl hm0 (by omega) n 0 (q + 1 + 4) (by omega)).trans (marks (q + 1) l (raw l m n) m _ _ hb (by omega) rfl rfl)
  rw [show raw l m 0 = [] from by unfold raw; rw [Nat.add_zero, List.drop_take_self]] at h1
  refine h1.trans ?_
  rw [hbr]
  have hE := value_4' ((l.take 28).drop 24) (by rw [List.length_drop, List.length_take]; omega) (fun x hx => hb x (List.mem_of_mem_take (List.mem_of_mem_drop hx)))
  have hS := value_4' ((l.take 32).drop 28) (by rw [List.length_drop, List.length_take]; omega) (fun x hx => hb x (List.mem_of_mem_take (List.mem_of_mem_drop hx)))
  obtain ⟨e, he⟩ : ∃ e, val4 ((l.take 28).drop 24) = e := ⟨_, rfl⟩
  obtain ⟨s, hs'⟩ : ∃ s, val4 ((l.take 32).drop 28) = s := ⟨_, rfl⟩
  rw [he, hs']
  rw [he] at hE
  rw [hs'] at hS
  have hP := refPack_in q e s b hE.2 hS.2 (by omega) hbb hqk
  rw [prebendref06_Unpack.l1, if_neg (by decide), hP, Option.bind_some, e4, if_pos (by omega), if_pos (by omega), Int.toNat_natCast]
  have hpm := packed_mem e s b hbb
  have htm : ∀ c ∈ l.take (32 * m), 0 ≤ c ∧ c < 256 := fun c hc => hb c (List.mem_of_mem_take hc)
  by_cases hall : ∀ i, i < m → eqB (stampAt l i) (stampAt l 0) = true
  · have hd := dataF_all hall
    have hdl := dataOf_len l m hm0
    have hU := unpackF_4 (l := l) (d := dataOf l m) (b := b) (p := packed e s b) (n := n) (m := m) (e := e) (s := s) (r := eqB (packed e s b) (l.take (32 * m))) h32 hn hm hlt hd (by omega) he hs' hbr rfl rfl
    rw [hU]
    by_cases hq : (strOfNums (packed e s b)).toList = (strOfNums (l.take (32 * m))).toList
    · rw [if_pos hq, if_pos ((eqB_str _ _).2 hq)]
    · rw [if_neg hq, if_neg (fun h => hq ((eqB_str _ _).1 h))]; rfl
  · have hne : ∃ i, i < m ∧ eqB (stampAt l i) (stampAt l 0) = false := by
      refine Classical.byContradiction (fun hno => hall (fun i hi => ?_))
      cases hq : eqB (stampAt l i) (stampAt l 0) with
      | true => rfl
      | false => exact absurd ⟨i, hi, hq⟩ hno
    obtain ⟨i, hi, hq⟩ := hne
    rw [unpackF_3 h32 hn hm hlt (dataF_not hi hq) (by simp; omega), if_neg]
    · rfl
    · intro hh
      have heq := str_inj _ _ hpm htm hh
      have S := sheet_packed e s b []
      rw [List.append_nil, heq, hbl, hm] at S
      have t1 := (S.piece i hi).2
      have t2 := (S.piece 0 (by omega)).2
      rw [stamp_of_take l m i hi] at t1
      rw [stamp_of_take l m 0 (by omega)] at t2
      rw [t1, t2, str_self] at hq
      cases hq
theorem FrameUnpacks : prebendlaw06_FrameUnpacks.Pure := by
  intro l0 _ _ hw
  obtain ⟨m, h1, h2, h3⟩ := short_f l0 hw
  have hU := Unpack_f m (by omega) h3
  obtain ⟨K, hK⟩ : ∃ K, 100000 ≤ K := ⟨100000, Nat.le_refl _⟩
  have hR := unpack_ref K hK m h2 h3
  refine ⟨K, ?_⟩
  unfold prebendlaw06_FrameUnpacks.f
  rw [h1, Option.bind_some, hU, Option.bind_some, hR, Option.bind_some, awake_f, Option.bind_some]
  simp

end Go.Proofs.Ytmpiljfpgfhljaa.Pure
