import Derived.Test.YtkenihkjdbdlkaaDoorQTextBackx1
import Derived.Test.YtkenihkjdbdlkaaDoorXBack
namespace Go.Proofs.YtkenihkjdbdlkaaDoor.Pure
open Go.RowKit Go.Proofs.YtkenihkjdbdlkaaDoor.QTextBack Go.Proofs.YtkenihkjdbdlkaaDoorW.PrintWords Go.Proofs.YtkenihkjdbdlkaaDoorW.PrintLast XEsc XPlain XQuote XLines XWordsP XCut XBack
set_option linter.unusedVariables false
theorem TextBack.awake_5 : prebendlaw26_awake.f 5 = some true := by decide +kernel
theorem TextBack.awake (k : Nat) (h : 5 ≤ k) : prebendlaw26_awake.f k = some true := lift_le prebendlaw26_awake.mono TextBack.awake_5 h
theorem TextBack.short (a : ByteArray) : ∃ t, prebendlaw26_short.f a = some t ∧ t.size ≤ 400 := by
  unfold prebendlaw26_short.f
  by_cases h : (a.size : Int) > 400
  · rw [if_pos h, if_pos (by omega), if_pos (by omega)]
    exact ⟨_, rfl, by rw [ByteArray.size_extract]; omega⟩
  · rw [if_neg h]; exact ⟨_, rfl, by omega⟩
theorem TextBack.texts0 (x : List ByteArray) (hx : x.length ≤ 4611686018427387904) : ∀ (n i : Nat), i + n = x.length → prebendref26_Texts.l0 (n + 1) x x i = some true
  | 0, i, h => by rw [prebendref26_Texts.l0, if_neg (by omega)]
  | n + 1, i, h => by
    rw [prebendref26_Texts.l0, if_pos (by omega), if_pos (by omega), if_pos (by omega), if_pos rfl, wrap_nat i (by omega)]
    exact TextBack.texts0 x hx n (i + 1) (by omega)
theorem TextBack.texts (x : List ByteArray) (hx : x.length ≤ 4611686018427387904) (k : Nat) (h : x.length + 1 ≤ k) : prebendref26_Texts.f k x x = some true :=
  lift_le (f := fun k => prebendref26_Texts.f k x x) (fun k => prebendref26_Texts.mono x x k) (n := x.length + 1) (by
    show prebendref26_Texts.f (x.length + 1) x x = some true
    unfold prebendref26_Texts.f
    rw [if_pos rfl]
    exact TextBack.texts0 x hx x.length 0 (by omega)) h

theorem TextBack.done (x0 : List ByteArray) (x1 : Int) (x2 x7 : ByteArray) (x8 : List ByteArray) (x9 : Int) (m : Nat) (hm : 0 < m) (h8 : x8.length ≤ 20) (h7 : bl x7 = lineOf m x8) (hs : x7.size ≤ 100000) (k : Nat) (hk : 100 ≤ k) :
    prebendlaw26_TextBack.j1 (k + 1) x0 x1 x2 x7 x8 x9 false = some true := by
  obtain ⟨t, e, s⟩ := TextBack.short x2
  have z2 : (⟨#[32, 35]⟩ : ByteArray).size = 2 := rfl
  have b2 : bl (⟨#[32, 35]⟩ : ByteArray) = [32, 35] := by decide +kernel
  have w1 : text_Words.f x7 = some (x8, 0) := words_line m hm x8 x7 (by omega) h7
  have w2 : text_Words.f ((x7 ++ (⟨#[32, 35]⟩ : ByteArray)) ++ t) = some (x8, 0) := words_note m hm x8 _ (bl t) (by rw [ByteArray.size_append, ByteArray.size_append]; omega) (by
    rw [bl_append, bl_append, h7, b2, List.append_assoc]; rfl)
  rw [prebendlaw26_TextBack.j1, if_neg (by decide), w1, Option.bind_some, if_pos (by omega), e, Option.bind_some, if_pos (by rw [ByteArray.size_append]; omega), w2, Option.bind_some, TextBack.awake k (by omega), Option.bind_some, if_pos rfl, if_pos rfl, TextBack.texts x8 (by omega) k (by omega), Option.bind_some, if_pos rfl, if_pos rfl, Option.bind_some]
theorem TextBack.pad (x0 : List ByteArray) (x1 : Int) (x2 : ByteArray) (x8 : List ByteArray) (i : Nat) (z : List Int) (w : ByteArray) (hw : rdOf ByteArray.empty x0 (i : Nat) = w) (hi : i < x0.length) (hi2 : i ≤ 20) (h60 : w.size ≤ 60) (h8 : x8.length ≤ 20) (m : Nat) (hm : wrap64 (Int.tmod x1 4) + 1 = (m : Nat)) (hm4 : m ≤ 4) (hz : z.length ≤ 50000)
    (H : ∀ x : ByteArray, bl x = z ++ (List.replicate m 32 ++ quoteL (bl w)) → ∃ K, prebendlaw26_TextBack.l0 K x0 x1 x2 x (x8 ++ [w]) ((i + 1 : Nat) : Int) = some true) :
    ∀ (n j : Nat) (x : ByteArray), j + n = m → bl x = z ++ List.replicate j 32 → ∃ K, prebendlaw26_TextBack.l1 K x0 x1 x2 x x8 (i : Nat) (j : Nat) = some true
  | 0, j, x, hj, hx => by
    have hsz : x.size ≤ 50004 := by rw [← bl_length, hx, List.length_append, List.length_replicate]; omega
    have hq := quote_size w
    obtain ⟨K, e⟩ := H (x ++ strOfNums (quoteL (bl w))) (by rw [bl_append, bl_quote, hx, List.append_assoc, show j = m by omega])
    refine ⟨K + 1, ?_⟩
    rw [prebendlaw26_TextBack.l1, if_neg (by omega), if_pos (by omega), if_pos (by omega), if_pos (by omega), hw, show text_Quote.f w = some (strOfNums (quoteL (bl w))) from quote_some w (by omega), Option.bind_some, if_pos (by omega), wrap_nat i (by omega)]
    exact e
  | n + 1, j, x, hj, hx => by
    have hsz : x.size ≤ 50004 := by rw [← bl_length, hx, List.length_append, List.length_replicate]; omega
    obtain ⟨K, e⟩ := TextBack.pad x0 x1 x2 x8 i z w hw hi hi2 h60 h8 m hm hm4 hz H n (j + 1) (x ++ (⟨#[32]⟩ : ByteArray)) (by omega) (by
      rw [bl_append, hx, show bl (⟨#[32]⟩ : ByteArray) = [32] by decide +kernel, List.append_assoc, ← List.replicate_succ'])
    refine ⟨K + 1, ?_⟩
    rw [prebendlaw26_TextBack.l1, if_pos (by omega), if_pos (by omega), wrap_nat j (by omega)]
    exact e
theorem TextBack.l0 (x0 : List ByteArray) (x1 : Int) (x2 : ByteArray) (m : Nat) (hm : wrap64 (Int.tmod x1 4) + 1 = (m : Nat)) (hm4 : m ≤ 4) (hm0 : 0 < m) : ∀ (n i : Nat) (x7 : ByteArray) (x8 : List ByteArray), i + n = 20 → x8.length ≤ i → bl x7 = lineOf m x8 → x7.size ≤ 250 * x8.length → ∃ K, prebendlaw26_TextBack.l0 K x0 x1 x2 x7 x8 (i : Nat) = some true
  | n, i, x7, x8, hn, h8, h7, hs => by
    by_cases hi : (i : Int) < (x0.length : Int)
    · match n with
      | 0 =>
        refine ⟨100 + 1 + 1, ?_⟩
        rw [prebendlaw26_TextBack.l0, if_pos hi, decide_eq_false (by omega)]
        exact TextBack.done x0 x1 x2 x7 x8 _ m hm0 (by omega) h7 (by omega) 100 (Nat.le_refl _)
      | n + 1 =>
        by_cases h60 : ((rdOf ByteArray.empty x0 (i : Nat)).size : Int) > 60
        · obtain ⟨K, e⟩ := TextBack.l0 x0 x1 x2 m hm hm4 hm0 n (i + 1) x7 x8 (by omega) (by omega) h7 hs
          refine ⟨K + 1 + 1, ?_⟩
          rw [prebendlaw26_TextBack.l0, if_pos hi, decide_eq_true (by omega), prebendlaw26_TextBack.j1, if_pos rfl, if_pos (by omega), if_pos hi, if_pos h60, wrap_nat i (by omega)]
          exact e
        · obtain ⟨K, e⟩ := TextBack.pad x0 x1 x2 x8 i (lineOf m x8) (rdOf ByteArray.empty x0 (i : Nat)) rfl (by omega) (by omega) (by omega) (by omega) m hm hm4 (by rw [← h7, bl_length]; omega) (fun x hx => by
            have hql := quoteL_len (bl (rdOf ByteArray.empty x0 (i : Nat)))
            rw [bl_length] at hql
            refine TextBack.l0 x0 x1 x2 m hm hm4 hm0 n (i + 1) x (x8 ++ [rdOf ByteArray.empty x0 (i : Nat)]) (by omega) (by simp; omega) (by rw [hx, lineOf_append, lineOf_one]) ?_
            rw [← bl_length, hx, List.length_append, List.length_append, List.length_replicate, ← h7, bl_length, List.length_append, List.length_singleton]
            omega) m 0 x7 (by omega) (by rw [h7]; simp)
          refine ⟨K + 1 + 1, ?_⟩
          rw [prebendlaw26_TextBack.l0, if_pos hi, decide_eq_true (by omega), prebendlaw26_TextBack.j1, if_pos rfl, if_pos (by omega), if_pos hi, if_neg h60]
          exact e
    · refine ⟨100 + 1 + 1, ?_⟩
      rw [prebendlaw26_TextBack.l0, if_neg hi]
      exact TextBack.done x0 x1 x2 x7 x8 _ m hm0 (by omega) h7 (by omega) 100 (Nat.le_refl _)
theorem TextBack : prebendlaw26_TextBack.Pure := by
  intro l0 a1 a2 _ hw _
  have h1 : 0 ≤ a1 ∧ a1 ≤ 255 := by
    simp [Lit.wf, IntKind.min, IntKind.max, IntKind.signed, IntKind.bits] at hw
    omega
  have hm : wrap64 (Int.tmod a1 4) = a1 % 4 := by rw [Int.tmod_eq_emod_of_nonneg (by omega)]; unfold wrap64; omega
  exact TextBack.l0 l0 a1 a2 ((a1 % 4).toNat + 1) (by rw [hm]; omega) (by omega) (by omega) 20 0 ⟨#[]⟩ [] (by omega) (by simp) (show bl (⟨#[]⟩ : ByteArray) = [] by decide +kernel) (by decide)
end Go.Proofs.YtkenihkjdbdlkaaDoor.Pure
