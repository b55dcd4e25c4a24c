import Derived.Test.YtkenihkjdbdlkaaDoorQTextCutsx1
import Derived.Test.YtkenihkjdbdlkaaDoorXCut
namespace Go.Proofs.YtkenihkjdbdlkaaDoor.Pure
open Go.RowKit Go.Proofs.YtkenihkjdbdlkaaDoor.QTextCuts Go.Proofs.YtkenihkjdbdlkaaDoorW.PrintWords Go.Proofs.YtkenihkjdbdlkaaDoorW.PrintLast XEsc XPlain XQuote XLines XCut
theorem TextCuts.awake_5 : prebendlaw26_awake.f 5 = some true := by decide +kernel
theorem TextCuts.awake (k : Nat) (h : 5 ≤ k) : prebendlaw26_awake.f k = some true := lift_le prebendlaw26_awake.mono TextCuts.awake_5 h
theorem TextCuts.short (a : ByteArray) : ∃ t, prebendlaw26_short.f a = some t ∧ t.size ≤ 400 := by
  unfold prebendlaw26_short.f
  by_cases h : (a.size : Int) > 400
  · rw [if_pos h, if_pos (by omega), if_pos (by omega)]
    exact ⟨_, rfl, by rw [ByteArray.size_extract]; omega⟩
  · rw [if_neg h]; exact ⟨_, rfl, by omega⟩
theorem TextCuts.texts0 (x : List ByteArray) (hx : x.length ≤ 4611686018427387904) : ∀ (n i : Nat), i + n = x.length → prebendref26_Texts.l0 (n + 1) x x i = some true
  | 0, i, h => by rw [prebendref26_Texts.l0, if_neg (by omega)]
  | n + 1, i, h => by
    rw [prebendref26_Texts.l0, if_pos (by omega), if_pos (by omega), if_pos (by omega), if_pos rfl, wrap_nat i (by omega)]
    exact TextCuts.texts0 x hx n (i + 1) (by omega)
theorem TextCuts.texts (x : List ByteArray) (hx : x.length ≤ 4611686018427387904) (k : Nat) (h : x.length + 1 ≤ k) : prebendref26_Texts.f k x x = some true :=
  lift_le (f := fun k => prebendref26_Texts.f k x x) (fun k => prebendref26_Texts.mono x x k) (n := x.length + 1) (by
    show prebendref26_Texts.f (x.length + 1) x x = some true
    unfold prebendref26_Texts.f
    rw [if_pos rfl]
    exact TextCuts.texts0 x hx x.length 0 (by omega)) h

theorem TextCuts.l1 (a : List ByteArray) (l : ByteArray) (b : List ByteArray) (x4 : ByteArray) (hl : (10 : Int) ∉ bl l) (hz : l.size ≤ 4000) (h4 : x4.size ≤ 4000) (hc : (a ++ l :: b).length ≤ 4000) (K : Nat)
    (h : prebendlaw26_TextCuts.l0 K (a ++ l :: b) (x4 ++ (l ++ nl)) ((a.length + 1 : Nat) : Int) = some true) : ∀ (n j : Nat), j + n = l.size → prebendlaw26_TextCuts.l1 (K + n + 1) (a ++ l :: b) x4 (a.length : Nat) (j : Nat) = some true
  | 0, j, hj => by
    have hlen : (a ++ l :: b).length = a.length + (b.length + 1) := by simp
    rw [prebendlaw26_TextCuts.l1, if_pos (by omega), if_pos (by omega), rd_at, if_neg (by omega), if_pos (by omega), if_pos (by rw [ByteArray.size_append]; show x4.size + (l.size + 1) ≤ _; omega), wrap_nat _ (by omega)]
    exact h
  | n + 1, j, hj => by
    have hlen : (a ++ l :: b).length = a.length + (b.length + 1) := by simp
    rw [prebendlaw26_TextCuts.l1, if_pos (by omega), if_pos (by omega), rd_at, if_pos (by omega), if_pos (by omega), if_neg (bt_ne l hl j (by omega)), wrap_nat _ (by omega)]
    exact TextCuts.l1 a l b x4 hl hz h4 hc K h n (j + 1) (by omega)
theorem TextCuts.l0 (ls : List ByteArray) (hn : ∀ l ∈ ls, (10 : Int) ∉ bl l) (hs : ∀ l ∈ ls, says l = true) (hz : (ended ls).size ≤ 500) (hc : ls.length ≤ 500) : ∀ (b a : List ByteArray), a ++ b = ls → ∃ K, prebendlaw26_TextCuts.l0 K ls (ended a) (a.length : Nat) = some true
  | [], a, h => by
    rw [List.append_nil] at h
    subst h
    refine ⟨a.length + 6 + 1, ?_⟩
    rw [prebendlaw26_TextCuts.l0, if_neg (by omega), TextCuts.awake _ (by omega), Option.bind_some, if_pos rfl, show text_Lines.f (ended a) = some a from lines_ended a hn hs (by omega), Option.bind_some, TextCuts.texts a (by omega) _ (by omega)]
    rfl
  | l :: b, a, h => by
    subst h
    obtain ⟨K, hK⟩ := TextCuts.l0 _ hn hs hz hc b (a ++ [l]) (by simp)
    have e : ended (a ++ l :: b) = ended a ++ (l ++ nl) ++ ended b := by
      rw [show a ++ l :: b = (a ++ [l]) ++ b by simp, ended_append, ended_append, ended_one]
    rw [e, ByteArray.size_append, ByteArray.size_append, ByteArray.size_append] at hz
    rw [ended_append, ended_one, List.length_append, List.length_singleton] at hK
    have hlen : (a ++ l :: b).length = a.length + (b.length + 1) := by simp
    refine ⟨K + l.size + 1 + 1, ?_⟩
    rw [prebendlaw26_TextCuts.l0, if_pos (by omega)]
    exact TextCuts.l1 a l b (ended a) (hn l (by simp)) (by omega) (by omega) (by omega) K hK l.size 0 (by omega)
theorem TextCuts : prebendlaw26_TextCuts.Pure := by
  intro a0 _
  obtain ⟨t, e, s⟩ := TextCuts.short a0
  have hl := pieces_len t
  have hf : ((pieces t).filter says).length ≤ (pieces t).length := List.length_filter_le _ _
  have hz := ended_filter says (pieces t)
  rw [ended_pieces t.size t (Nat.le_refl _)] at hz
  obtain ⟨K, hK⟩ := TextCuts.l0 ((pieces t).filter says) (fun l h => (pieces_of _ t (Nat.le_refl _) l (List.mem_filter.1 h).1).1) (fun l h => (List.mem_filter.1 h).2) (by omega) (by omega) _ [] rfl
  refine ⟨K, ?_⟩
  unfold prebendlaw26_TextCuts.f
  rw [e, Option.bind_some, show text_Lines.f t = some _ from lines_some t (by omega), Option.bind_some]
  exact hK
end Go.Proofs.YtkenihkjdbdlkaaDoor.Pure
