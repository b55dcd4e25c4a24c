import Derived.Test.YtkenihkjdbdlkaaDoorQTextUnlikex1
import Derived.Test.YtkenihkjdbdlkaaDoorXPlain
namespace Go.Proofs.YtkenihkjdbdlkaaDoor.Pure
open Go.RowKit Go.Proofs.YtkenihkjdbdlkaaDoor.QTextUnlike Go.Proofs.YtkenihkjdbdlkaaDoorW.PrintWords Go.Proofs.YtkenihkjdbdlkaaDoorW.PrintLast XEsc XPlain XQuote
theorem TextUnlike.awake_5 : prebendlaw26_awake.f 5 = some true := by decide +kernel
theorem TextUnlike.awake (k : Nat) (h : 5 ≤ k) : prebendlaw26_awake.f k = some true := lift_le prebendlaw26_awake.mono TextUnlike.awake_5 h
theorem TextUnlike.short (a : ByteArray) : ∃ t, prebendlaw26_short.f a = some t ∧ t.size ≤ 400 := by
  unfold prebendlaw26_short.f
  by_cases h : (a.size : Int) > 400
  · rw [if_pos h, if_pos (by omega), if_pos (by omega)]
    exact ⟨_, rfl, by rw [ByteArray.size_extract]; omega⟩
  · rw [if_neg h]; exact ⟨_, rfl, by omega⟩
theorem TextUnlike.l0 (x5 x6 x7 x8 : ByteArray) (h7 : ∀ i : Nat, i < x7.size → 32 ≤ bt x7 i ∧ bt x7 i ≤ 126) (hq : (x7.toList == x8.toList) = (x5.toList == x6.toList)) (hp : 0 < x7.size) (hs : x7.size ≤ 4000) :
    ∀ (n i : Nat), i + n = x7.size → prebendlaw26_TextUnlike.l0 (n + 6) x5 x6 x7 x8 i = some true
  | 0, i, h => by
    rw [show (0 + 6 : Nat) = 5 + 1 from rfl, prebendlaw26_TextUnlike.l0, if_neg (by omega), TextUnlike.awake 5 (by omega)]
    simp only [Option.bind, hq, if_true, beq_self_eq_true]
    simp; omega
  | n + 1, i, h => by
    have := h7 i (by omega)
    rw [show n + 1 + 6 = (n + 6) + 1 by omega, prebendlaw26_TextUnlike.l0, if_pos (by omega), if_pos (by omega), if_neg (by omega), if_neg (by omega), wrap_nat i (by omega)]
    exact TextUnlike.l0 x5 x6 x7 x8 h7 hq hp hs n (i + 1) (by omega)
theorem TextUnlike : prebendlaw26_TextUnlike.Pure := by
  intro a0 a1 _ _
  obtain ⟨t0, e0, s0⟩ := TextUnlike.short a0
  obtain ⟨t1, e1, s1⟩ := TextUnlike.short a1
  have z := quote_size t0
  refine ⟨(strOfNums (quoteL (bl t0))).size + 6, ?_⟩
  unfold prebendlaw26_TextUnlike.f
  rw [e0, Option.bind_some, e1, Option.bind_some, show text_Quote.f t0 = some (strOfNums (quoteL (bl t0))) from quote_some t0 (by omega), Option.bind_some, show text_Quote.f t1 = some (strOfNums (quoteL (bl t1))) from quote_some t1 (by omega), Option.bind_some]
  exact TextUnlike.l0 t0 t1 _ _ (quote_bt t0) (quote_beq t0 t1) (quote_pos t0) (by omega) _ 0 (by omega)
end Go.Proofs.YtkenihkjdbdlkaaDoor.Pure
