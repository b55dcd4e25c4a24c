/-
  FrameBack: a record comes back of its sectors.
-/
import Derived.Test.YtmpiljfpgfhljaaXCheckMath
import Derived.Test.YtmpiljfpgfhljaaQFrameBackx1
namespace Go.Proofs.Ytmpiljfpgfhljaa.Pure
open Go.RowKit Go.Proofs.Ytmpiljfpgfhljaa.QFrameBack Go.Proofs.Ytmpiljfpgfhljaa.XCheck Go.Proofs.Ytmpiljfpgfhljaa.XChunk Go.Proofs.YtmpiljfpgfhljaaW.PrintWords Go.Proofs.YtmpiljfpgfhljaaW.PrintLast Go.Proofs.YtmpiljfpgfhljaaW.PrintMore
theorem u8_of (a : Int) (h : (Lit.int .u8 a).wf = true) : 0 ≤ a ∧ a < 256 := by
  simp only [Lit.wf, IntKind.min, IntKind.max, IntKind.signed, IntKind.bits, Bool.and_eq_true] at h
  simp at h
  omega
theorem u32_of (a : Int) (h : (Lit.int .u32 a).wf = true) : 0 ≤ a ∧ a < 4294967296 := by
  simp only [Lit.wf, IntKind.min, IntKind.max, IntKind.signed, IntKind.bits, Bool.and_eq_true] at h
  simp at h
  omega
theorem short_f (l : List Int) (hl : ∀ x ∈ l, (Lit.int .u8 x).wf = true) : ∃ m : List Int, prebendlaw06_short.f l = some m ∧ m.length ≤ 600 ∧ ∀ c ∈ m, 0 ≤ c ∧ c < 256 := by
  refine ⟨l.take 600, ?_, by rw [List.length_take]; omega, fun c hc => u8_of c (hl c (List.mem_of_mem_take hc))⟩
  unfold prebendlaw06_short.f
  by_cases h : (l.length : Int) > 600
  · rw [if_pos h, if_pos (by omega)]
  · rw [if_neg h, List.take_of_length_le (by omega)]
theorem awake_f : prebendlaw06_awake.f = some true := by decide +kernel
theorem u16_of (a : Int) (h : (Lit.int .u16 a).wf = true) : 0 ≤ a ∧ a < 65536 := by
  simp only [Lit.wf, IntKind.min, IntKind.max, IntKind.signed, IntKind.bits, Bool.and_eq_true] at h
  simp at h
  omega

open XUnpack XData
theorem cut_at (d mk : List Int) : ∀ k j, j < k → ∃ rest, cut d mk k = cut d mk j ++ ((d.drop (24 * j)).take 24 ++ (mk ++ rest))
  | 0, j, h => absurd h (Nat.not_lt_zero _)
  | k + 1, j, h => by
    rw [cut_succ]
    rcases Nat.lt_or_ge j k with h1 | h1
    · obtain ⟨rest, e⟩ := cut_at d mk k j h1
      exact ⟨rest ++ (d.drop (24 * k)).take 24 ++ mk, by rw [e]; simp [List.append_assoc]⟩
    · obtain rfl : j = k := by omega
      exact ⟨[], by simp [List.append_assoc]⟩
theorem mid (A B C : List Int) (a b : Nat) (ha : A.length = a) (hb : B.length = b) : ((A ++ (B ++ C)).take (a + b)).drop a = B := by
  subst ha hb
  rw [← List.append_assoc, ← List.length_append, List.take_left, List.drop_left]
theorem str_self (a : List Int) : eqB a a = true := by unfold eqB; exact beq_self_eq_true _
structure Sheet (l full mk : List Int) (m : Nat) : Prop where
  full_len : full.length = 24 * m
  mk_len : mk.length = 8
  len : 32 * m ≤ l.length
  at_ : ∀ j, j < m → ∃ A C, A.length = 32 * j ∧ l = A ++ ((full.drop (24 * j)).take 24 ++ (mk ++ C))
theorem Sheet.piece {l full mk : List Int} {m : Nat} (h : Sheet l full mk m) (j : Nat) (hj : j < m) : pieceAt l j = (full.drop (24 * j)).take 24 ∧ stampAt l j = mk := by
  obtain ⟨A, C, hA, e⟩ := h.at_ j hj
  have hB : ((full.drop (24 * j)).take 24).length = 24 := by rw [List.length_take, List.length_drop, h.full_len]; omega
  constructor
  · unfold pieceAt
    rw [e, show j * 32 + 24 = j * 32 + 24 from rfl]
    exact mid A _ _ (j * 32) 24 (by omega) hB
  · unfold stampAt
    rw [e, ← List.append_assoc, show j * 32 + 32 = (j * 32 + 24) + 8 from rfl]
    exact mid _ mk C (j * 32 + 24) 8 (by rw [List.length_append, hB]; omega) h.mk_len
theorem Sheet.data {l full mk : List Int} {m : Nat} (h : Sheet l full mk m) : ∀ j, j ≤ m → dataOf l j = full.take (24 * j) := by
  intro j
  induction j with
  | zero => intro _; rfl
  | succ j ih =>
    intro hj
    rw [dataOf_succ, ih (by omega), (h.piece j (by omega)).1, show 24 * (j + 1) = 24 * j + 24 from by omega, List.take_add]
theorem Sheet.dataF {l full mk : List Int} {m : Nat} (h : Sheet l full mk m) (hm : 1 ≤ m) : XData.dataF l m = full := by
  rw [dataF_all (fun i hi => by rw [(h.piece i hi).2, (h.piece 0 (by omega)).2]; exact str_self _), h.data m (Nat.le_refl _), List.take_of_length_le (by rw [h.full_len]; exact Nat.le_refl _)]
theorem sheet_packed (a s : Int) (x tail : List Int) : Sheet (packed a s x ++ tail) (filled a s x) (stampOf a s) (sectors x.length) where
  full_len := filled_len a s x
  mk_len := stamp_len a s
  len := by rw [List.length_append, packed_len]; omega
  at_ := by
    intro j hj
    obtain ⟨rest, e⟩ := cut_at (filled a s x) (stampOf a s) (sectors x.length) j hj
    refine ⟨cut (filled a s x) (stampOf a s) j, rest ++ tail, cut_len _ _ _ (by rw [filled_len]; omega) (stamp_len a s), ?_⟩
    show packed a s x ++ tail = _
    unfold packed
    rw [e]; simp [List.append_assoc]
theorem sec_pos (n : Nat) : 1 ≤ sectors n := by unfold sectors; omega
theorem first (a s : Int) (x tail : List Int) : ∃ C, packed a s x ++ tail = be2 (x.length : Int) ++ C := by
  obtain ⟨A, C, hA, e⟩ := (sheet_packed a s x tail).at_ 0 (sec_pos _)
  have hA0 : A = [] := List.eq_nil_of_length_eq_zero (by omega)
  subst hA0
  rw [e, List.nil_append, List.drop_zero]
  have h24 : 24 ≤ (filled a s x).length := by rw [filled_len]; have := sec_pos x.length; omega
  refine ⟨((filled a s x).take 24).drop 2 ++ (stampOf a s ++ C), ?_⟩
  have : be2 (x.length : Int) = ((filled a s x).take 24).take 2 := by
    rw [List.take_take, show min 2 24 = 2 from rfl]
    unfold filled body
    rw [List.append_assoc]
    rfl
  rw [this, ← List.append_assoc (((filled a s x).take 24).take 2), List.take_append_drop]
theorem val2_be (n : Nat) (h : n < 65536) : val2 (be2 (n : Int)) = (n : Int) := by
  show (n : Int) / 256 % 256 * 256 + (n : Int) % 256 = n
  omega
theorem val4_be (a : Int) (h : 0 ≤ a ∧ a < 4294967296) : val4 (be4 a) = a := by
  show ((a / 16777216 % 256 * 256 + a / 65536 % 256) * 256 + a / 256 % 256) * 256 + a % 256 = a
  omega
theorem unpack_packed (a s : Int) (x tail : List Int) (ha : 0 ≤ a ∧ a < 4294967296) (hs : 0 ≤ s ∧ s < 4294967296) (hx : x.length ≤ 65535) :
    unpackF (packed a s x ++ tail) = (a, s, x, ((sectors x.length : Nat) : Int), 0) := by
  have S := sheet_packed a s x tail
  have hm := sec_pos x.length
  have hl : ¬ (packed a s x ++ tail).length < 32 := by have := S.len; omega
  obtain ⟨C, hC⟩ := first a s x tail
  have h2 : val2 ((packed a s x ++ tail).take 2) = (x.length : Int) := by
    rw [hC, show (2 : Nat) = (be2 (x.length : Int)).length from rfl, List.take_left]
    exact val2_be x.length (by omega)
  obtain ⟨A, C', hA, e⟩ := S.at_ 0 (by omega)
  have hA0 : A = [] := List.eq_nil_of_length_eq_zero (by omega)
  subst hA0
  rw [List.nil_append, List.drop_zero] at e
  have hB : ((filled a s x).take 24).length = 24 := by rw [List.length_take, filled_len]; omega
  have he : val4 (((packed a s x ++ tail).take 28).drop 24) = a := by
    have : ((packed a s x ++ tail).take 28).drop 24 = be4 a := by
      rw [e, show stampOf a s ++ C' = be4 a ++ (be4 s ++ C') from by unfold stampOf; rw [List.append_assoc]]
      exact mid _ (be4 a) _ 24 4 hB (be4_len a)
    rw [this]; exact val4_be a ha
  have hs' : val4 (((packed a s x ++ tail).take 32).drop 28) = s := by
    have : ((packed a s x ++ tail).take 32).drop 28 = be4 s := by
      rw [e, show stampOf a s ++ C' = be4 a ++ (be4 s ++ C') from by unfold stampOf; rw [List.append_assoc], ← List.append_assoc]
      exact mid _ (be4 s) _ 28 4 (by rw [List.length_append, hB, be4_len]) (be4_len s)
    rw [this]; exact val4_be s hs
  have hd := S.dataF hm
  have hb : ((filled a s x).take (6 + x.length)).drop 6 = x := by
    have e6 : filled a s x = (be2 (x.length : Int) ++ be4 (sumOf a s x)) ++ (x ++ List.replicate (24 * sectors x.length - (x.length + 6)) 0) := by
      unfold filled body; simp [List.append_assoc]
    rw [e6]
    exact mid _ x _ 6 x.length (by rw [List.length_append, be2_len, be4_len]) rfl
  have hp : (packed a s x ++ tail).take (32 * sectors x.length) = packed a s x := by
    rw [← packed_len a s x, List.take_left]
  have := unpackF_4 (l := packed a s x ++ tail) (d := filled a s x) (b := x) (p := packed a s x) (n := x.length) (m := sectors x.length) (e := a) (s := s) (r := true) hl h2 rfl (by have := S.len; omega) hd
    (by rw [filled_len]; have := sectors_le x.length; omega) he hs' hb rfl (by rw [hp]; exact str_self _)
  rw [this, if_pos rfl]
theorem unpack_cut (a s : Int) (x : List Int) (t : Nat) (hx : x.length ≤ 65535) (ht : t < (packed a s x).length) : unpackF ((packed a s x).take t) = bad := by
  have hpl := packed_len a s x
  have hlen : ((packed a s x).take t).length = t := by rw [List.length_take]; omega
  by_cases h : t < 32
  · exact unpackF_1 (by rw [hlen]; exact h)
  · obtain ⟨C, hC⟩ := first a s x []
    rw [List.append_nil] at hC
    have h2 : val2 (((packed a s x).take t).take 2) = (x.length : Int) := by
      rw [List.take_take, show min 2 t = 2 from by omega, hC, show (2 : Nat) = (be2 (x.length : Int)).length from rfl, List.take_left]
      exact val2_be x.length (by omega)
    exact unpackF_2 (by rw [hlen]; exact h) h2 rfl (by rw [hlen, ← hpl]; exact ht)
theorem cut_mem (d mk : List Int) (hd : ∀ c ∈ d, 0 ≤ c ∧ c < 256) (hm : ∀ c ∈ mk, 0 ≤ c ∧ c < 256) (k : Nat) : ∀ c ∈ cut d mk k, 0 ≤ c ∧ c < 256 := by
  induction k with
  | zero => intro c hc; cases hc
  | succ k ih =>
    intro c hc
    rw [cut_succ] at hc
    rcases List.mem_append.1 hc with h | h
    · rcases List.mem_append.1 h with h | h
      · exact ih c h
      · exact hd c (List.mem_of_mem_drop (List.mem_of_mem_take h))
    · exact hm c h
theorem packed_mem (a s : Int) (x : List Int) (hx : ∀ c ∈ x, 0 ≤ c ∧ c < 256) : ∀ c ∈ packed a s x, 0 ≤ c ∧ c < 256 := by
  refine cut_mem _ _ (fun c hc => ?_) (stamp_range a s) _
  unfold filled body at hc
  rcases List.mem_append.1 hc with h | h
  · rcases List.mem_append.1 h with h | h
    · exact be2_range _ c h
    · rcases List.mem_append.1 h with h | h
      · exact be4_range _ c h
      · exact hx c h
  · rw [List.eq_of_mem_replicate h]; decide
theorem Unpack_f (l : List Int) (hl : l.length ≤ 140737488351232) (hb : ∀ c ∈ l, 0 ≤ c ∧ c < 256) : frame_Unpack.f l = some (unpackF l) := by
  unfold frame_Unpack.f
  rw [if_pos]
  rw [Bool.and_eq_true, decide_eq_true_eq, List.all_eq_true]
  exact ⟨hl, fun c hc => decide_eq_true (hb c hc)⟩
theorem FrameBack : prebendlaw06_FrameBack.Pure := by
  intro a0 a1 l2 l3 a4 w0 w1 _ _ h2 _ _ h3 w4
  obtain ⟨x, x1, x2, x3⟩ := short_f l2 h2
  obtain ⟨y, y1, y2, y3⟩ := short_f l3 h3
  have ha := u32_of a0 w0
  have hs := u32_of a1 w1
  have hc := u16_of a4 w4
  have e0 : wrap64 a0 = a0 := by unfold wrap64; omega
  have e1 : wrap64 a1 = a1 := by unfold wrap64; omega
  have e4 : wrap64 a4 = a4 := by unfold wrap64; omega
  have hx6 : x.length ≤ 65535 := Nat.le_trans x2 (by decide)
  have hsp := sec_pos x.length
  have hsu : sectors x.length ≤ 30 := by unfold sectors; omega
  have hP : QFrameBack.frame_Pack.f a0 a1 x = some (packed a0 a1 x, 0) := by
    show XChunk.frame_Pack.f a0 a1 x = _
    unfold XChunk.frame_Pack.f
    rw [if_pos ⟨ha.1, ha.2, hs.1, hs.2⟩, if_neg (by omega), if_pos (List.all_eq_true.2 (fun c hc => decide_eq_true (x3 c hc)))]
  have hpl := packed_len a0 a1 x
  have hpm := packed_mem a0 a1 x x3
  have hS : frame_Sectors.f (x.length : Int) = some ((sectors x.length : Nat) : Int) := XPack.Sectors_f x.length hx6
  have hU := unpack_packed a0 a1 x y ha hs hx6
  have hT := fun t ht => unpack_cut a0 a1 x t hx6 ht
  have hUf := Unpack_f
  generalize packed a0 a1 x = p at *
  generalize sectors x.length = m at *
  have e5 : wrap64 (32 * ((m : Nat) : Int)) = (p.length : Int) := by unfold wrap64; omega
  have hm : ∀ c ∈ p ++ y, 0 ≤ c ∧ c < 256 := fun c hc => (List.mem_append.1 hc).elim (hpm c) (y3 c)
  have hU1 := hUf (p ++ y) (by rw [List.length_append]; omega) hm
  obtain ⟨t, ht⟩ : ∃ t : Nat, Int.tmod a4 (p.length : Int) = (t : Int) ∧ t < p.length := by
    refine ⟨(Int.tmod a4 (p.length : Int)).toNat, ?_⟩
    have h1 := Int.tmod_eq_emod_of_nonneg (b := (p.length : Int)) hc.1
    have h2 := Int.emod_nonneg a4 (b := (p.length : Int)) (by omega)
    have h3 := Int.emod_lt_of_pos a4 (b := (p.length : Int)) (by omega)
    omega
  have hT := hT t ht.2
  have hU2 := hUf (p.take t) (by rw [List.length_take]; omega) (fun c hc => hpm c (List.mem_of_mem_take hc))
  rw [hU] at hU1
  rw [hT] at hU2
  have hp0 : ¬ (p.length : Int) = 0 := by omega
  have hpb : ((p.length : Int) == 0) = false := by simpa using hp0
  refine ⟨1, ?_⟩
  have c1 : ([] : List Int).length + p.length < 140737488355328 := by rw [List.length_nil]; omega
  have c2 : p.length + y.length < 140737488355328 := by omega
  have c3 : (0 : Int) ≤ (t : Int) := by omega
  have c4 : (t : Int) ≤ (p.length : Int) := by omega
  unfold prebendlaw06_FrameBack.f
  rw [x1, Option.bind_some, e0, e1, hP, Option.bind_some, if_pos rfl, hS, Option.bind_some, e5, if_pos rfl, hpb, prebendlaw06_FrameBack.j0, if_neg (by decide), Option.bind_some,
    if_pos c1, Option.bind_some, List.nil_append, y1, Option.bind_some, if_pos c2, hU1, Option.bind_some,
    if_neg hp0, e4, ht.1, if_pos c3, if_pos c4, Int.toNat_natCast, hU2, Option.bind_some, awake_f, Option.bind_some, if_pos rfl, if_pos rfl, e0, if_pos rfl, e1, if_pos rfl, if_pos rfl, e5, if_pos rfl]
  rfl

end Go.Proofs.Ytmpiljfpgfhljaa.Pure
