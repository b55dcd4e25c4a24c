import Derived.Test.YtkenihkjdbdlkaaDoorQLineParsesx11
import Derived.Test.YtkenihkjdbdlkaaDoorXLineR
namespace Go.Proofs.YtkenihkjdbdlkaaDoor.Pure
open Go.RowKit Go.Proofs.YtkenihkjdbdlkaaDoor.QLineParses Go.Proofs.YtkenihkjdbdlkaaDoorW.PrintWords Go.Proofs.YtkenihkjdbdlkaaDoorW.PrintLast XEsc XPlain XQuote XLines XWordsP XCut XNumber XNumP XBack XLine XLineR
set_option linter.unusedVariables false
theorem bt_range (s : ByteArray) (i : Int) : 0 ≤ bt s i ∧ bt s i ≤ 255 := by
 unfold bt
 split
 ·rename_i h
  have := (s[i.toNat]'h).toNat_lt
  omega
 ·omega
theorem LineParses.awake_k : prebendlaw27_awake.f 60 = some true := by decide +kernel
theorem LineParses.awake (k : Nat) (h : 60 ≤ k) : prebendlaw27_awake.f k = some true := lift_le prebendlaw27_awake.mono LineParses.awake_k h
theorem LineParses.words : line_words.f = some KW := rfl
theorem LineParses.itoa (v : Int) (h : Fits v) : strconv_Itoa_34.f v = some (numeral v) := by
 show XTabs.itoa v = _
 unfold XTabs.itoa
 rw [if_pos (show -9223372036854775808 ≤ v ∧ v ≤ 9223372036854775807 from h)]
 rfl
theorem LineParses.kind0 (w : ByteArray) (L : List ByteArray) (hL : L.length ≤ 100) : ∀ (n i : Nat), i + n = L.length → line_kind.l0 (n + 1) w L (L.length : Nat) (i : Nat) = some (kindL (L.drop i) (i : Nat) w)
 | 0, i, h => by rw [line_kind.l0, if_neg (by omega), List.drop_eq_nil_of_le (by omega)]; rfl
 | n + 1, i, h => by
  have hi : i < L.length := by omega
  have hr : rdOf ByteArray.empty L (i : Nat) = L[i] := by unfold rdOf; simp [hi]
  rw [line_kind.l0, if_pos (by omega), if_pos (by omega), if_pos (by omega), hr, wrap_nat i (by omega), LineParses.kind0 w L hL n (i + 1) (by omega), List.drop_eq_getElem_cons hi, kindL]
  rw [show ((i + 1 : Nat) : Int) = (i : Int) + 1 by omega]
  by_cases hx : (L[i]).toList = w.toList
  ·rw [if_pos hx, if_pos hx]
   by_cases hw : w.toList = []
   ·rw [if_pos hw, if_pos hw]
   ·rw [if_neg hw, if_neg hw]
  ·rw [if_neg hx, if_neg hx]
theorem LineParses.kind (w : ByteArray) (k : Nat) (h : 30 ≤ k) : line_kind.f k w = some (kindOf w) := by
 have h29 : KW.length = 29 := by decide +kernel
 refine lift_le (f := fun k => line_kind.f k w) (fun k => line_kind.mono w k) (n := 30) ?_ h
 show line_kind.f 30 w = _
 unfold line_kind.f
 rw [LineParses.words, Option.bind_some]
 exact LineParses.kind0 w KW (by omega) 29 0 (by omega)
/-! ### Parse -/
theorem LineParses.named (r : List ByteArray) (nm : ByteArray) : line_named.f r nm = some (XLine.named nm r) := by
 unfold line_named.f
 match r with
 | [] => rw [if_pos (by decide)]; rfl
 | [a] => rw [if_pos (by simp)]; rfl
 | a :: b :: t =>
  rw [if_neg (by simp <;> omega), if_pos (by simp <;> omega), XLine.named, show rdOf ByteArray.empty (a :: b :: t) 0 = a from rfl, show rdOf ByteArray.empty (a :: b :: t) 1 = b from rfl]
  by_cases h1 : a.toList = nm.toList
  ·rw [if_pos h1, if_pos (by simp <;> omega)]
   by_cases h2 : b.toList = []
   ·rw [if_pos h2, if_neg (fun hc => hc.2 h2)]
   ·rw [if_neg h2, if_pos (by simp <;> omega), if_pos ⟨h1, h2⟩]; rfl
  ·rw [if_neg h1, if_neg (fun hc => h1 hc.1)]
theorem LineParses.parse2 (r : List ByteArray) (kind : Int) (args : List Int) (k : Nat) : line_Parse.j2 (k + 1) r kind ⟨#[]⟩ ⟨#[]⟩ args = some (rest kind args r) := by
 rw [line_Parse.j2, show line_named.f r (⟨#[110, 97, 109, 101]⟩ : ByteArray) = some (XLine.named nameB r) from LineParses.named r nameB, Option.bind_some, show line_named.f (XLine.named nameB r).2 (⟨#[107, 101, 121]⟩ : ByteArray) = some (XLine.named keyB (XLine.named nameB r).2) from LineParses.named _ keyB, Option.bind_some]
 unfold rest
 by_cases h : (XLine.named keyB (XLine.named nameB r).2).2 = []
 ·rw [if_pos h, if_neg (by rw [h]; decide)]
 ·have := List.length_pos_iff.2 h
  rw [if_neg h, if_pos (by omega)]; rfl
theorem LineParses.parse0 (kind : Int) : ∀ (r : List ByteArray) (args : List Int), args.length + r.length ≤ 1000000 → (∀ w ∈ r, w.size ≤ 1000000) → line_Parse.l0 (r.length + 2) r kind ⟨#[]⟩ ⟨#[]⟩ args = some (rest kind (args ++ (numsOf r).1) (numsOf r).2)
 | [], args, _, _ => by
  rw [List.length_nil, line_Parse.l0, if_neg (by decide), LineParses.parse2, numsOf, List.append_nil]
 | w :: r, args, hl, hw => by
  have hz := hw w (by simp)
  have hn : text_Number.f w = some (numberP w) := by
   show number w = _
   unfold number
   rw [if_pos (by omega)]
  rw [List.length_cons, line_Parse.l0, if_pos (by simp <;> omega), if_pos (by simp <;> omega), show rdOf ByteArray.empty (w :: r) 0 = w from rfl, hn, Option.bind_some, numsOf]
  rw [List.length_cons] at hl
  by_cases h : (numberP w).2 = true
  ·rw [if_pos h, if_pos h, if_pos (by omega), if_pos (by simp <;> omega), List.drop_one, List.tail_cons, LineParses.parse0 kind r (args ++ [(numberP w).1]) (by simp <;> omega) (fun x hx => hw x (by simp [hx])), List.append_assoc]
   rfl
  ·rw [if_neg h, if_neg h, show r.length + 1 + 1 = (r.length + 1) + 1 from rfl, LineParses.parse2, List.append_nil]
theorem LineParses.parse (s : ByteArray) (ws : List ByteArray) (e : Int) (h : text_Words.f s = some (ws, e)) (hl : ws.length ≤ 1000000) (hw : ∀ w ∈ ws, w.size ≤ 1000000) (k : Nat) (hk : ws.length + 40 ≤ k) : line_Parse.f k s = some (parseW (ws, e)) := by
 refine lift_le (f := fun k => line_Parse.f k s) (fun k => line_Parse.mono s k) (n := ws.length + 40) ?_ hk
 show line_Parse.f (ws.length + 40) s = _
 unfold line_Parse.f
 rw [h, Option.bind_some]
 by_cases he : e = 0
 ·rw [if_pos he]
  match ws with
  | [] => rw [if_pos (by simp), line_Parse.j0, if_pos rfl]; rfl
  | w0 :: t =>
   have hk1 : ∀ k, 30 ≤ k → line_kind.f k (rdOf ByteArray.empty (w0 :: t) 0) = some (kindOf w0) := fun k hk => LineParses.kind w0 k hk
   rw [if_neg (by simp <;> omega), if_pos (by simp <;> omega), hk1 _ (by omega), Option.bind_some, line_Parse.j0, parseW, if_pos he]
   by_cases h0 : kindOf w0 = 0
   ·rw [if_pos h0, if_pos (by rw [h0]; rfl)]; rfl
   ·rw [if_neg h0, if_neg (by simpa using h0), if_pos (by simp <;> omega), hk1 _ (by rw [List.length_cons]; omega), Option.bind_some, if_pos (by simp <;> omega), List.drop_one, List.tail_cons]
    have hp := LineParses.parse0 (kindOf w0) t [] (by rw [List.length_cons] at hl; simp; omega) (fun x hx => hw x (by simp [hx]))
    rw [List.nil_append] at hp
    exact lift_le (f := fun k => line_Parse.l0 k t (kindOf w0) ⟨#[]⟩ ⟨#[]⟩ []) (fun k => (line_Parse.mono_l k).2.2 _ _ _ _ _) hp (by rw [List.length_cons]; omega)
 ·rw [if_neg he, line_Parse.j0, if_pos rfl]
  match ws with
  | [] => rfl
  | w0 :: t => rw [parseW, if_neg he]; rfl
theorem LineParses.same0 (kind : Int) (key name : ByteArray) (A : List Int) (hl : A.length ≤ 1000000) : ∀ (n i : Nat), i + n = A.length → prebendref27_Same.l0 (n + 1) (i : Nat) kind key name A kind key name A = some true
 | 0, i, h => by rw [prebendref27_Same.l0, if_neg (by omega)]
 | n + 1, i, h => by
  rw [prebendref27_Same.l0, if_pos (by omega), if_pos (by omega), if_pos (by omega), if_pos rfl, wrap_nat i (by omega)]
  exact LineParses.same0 kind key name A hl n (i + 1) (by omega)
theorem LineParses.same (kind : Int) (key name : ByteArray) (A : List Int) (hl : A.length ≤ 1000000) (k : Nat) (hk : A.length + 2 ≤ k) : prebendref27_Same.f k kind key name A kind key name A = some true := by
 refine lift_le (f := fun k => prebendref27_Same.f k kind key name A kind key name A) (fun k => prebendref27_Same.mono _ _ _ _ _ _ _ _ k) (n := A.length + 2) ?_ hk
 show prebendref27_Same.f (A.length + 2) kind key name A kind key name A = _
 unfold prebendref27_Same.f
 rw [if_pos rfl, if_pos rfl, if_pos rfl, prebendref27_Same.j0, if_neg (by simp)]
 exact LineParses.same0 kind key name A hl A.length 0 (by omega)

theorem LineParses.hex (c : Int) (h : Byte c) (k : Nat) : prebendref26_hex.f (k + 1) c = some (hexv c) := by
 unfold Byte at h
 unfold prebendref26_hex.f hexv
 by_cases h1 : c ≥ 48
 ·rw [if_pos h1, prebendref26_hex.j0]
  by_cases h2 : c ≤ 57
  ·rw [decide_eq_true h2, if_pos rfl, if_pos (by omega)]
   exact congrArg some (by omega)
  ·rw [decide_eq_false h2, if_neg (by decide), if_neg (show ¬ (48 ≤ c ∧ c ≤ 57) by omega)]
   by_cases h3 : c ≥ 97
   ·by_cases h4 : c ≤ 102
    ·rw [if_pos h3, if_pos h4, if_pos (show 97 ≤ c ∧ c ≤ 102 by omega)]
     exact congrArg some (by omega)
    ·rw [if_pos h3, if_neg h4, if_neg (show ¬ (97 ≤ c ∧ c ≤ 102) by omega)]
   ·rw [if_neg h3, if_neg (show ¬ (97 ≤ c ∧ c ≤ 102) by omega)]
 ·rw [if_neg h1, prebendref26_hex.j0, if_neg (by decide), if_neg (show ¬ (c ≥ 97) by omega), if_neg (show ¬ (48 ≤ c ∧ c ≤ 57) by omega), if_neg (show ¬ (97 ≤ c ∧ c ≤ 102) by omega)]
theorem LineParses.close_some (s : ByteArray) (hs : s.size ≤ 4000) : ∀ (n i : Nat), s.size ≤ i + n → i ≤ 4002 → ∃ t : Int, prebendref26_close.l0 (n + 1) s (i : Nat) = some t ∧ (t = -1 ∨ (∃ j : Nat, t = j ∧ i ≤ j ∧ j < s.size))
 | 0, i, h, h2 => ⟨-1, by rw [prebendref26_close.l0, if_neg (by omega)], .inl rfl⟩
 | n + 1, i, h, h2 => by
  rw [prebendref26_close.l0]
  by_cases hi : (i : Int) < (s.size : Int)
  ·rw [if_pos hi, if_pos (by omega), wrap_nat i (by omega), wrap_nat (i + 1) (by omega)]
   by_cases h92 : bt s (i : Nat) = 92
   ·rw [if_pos h92]
    obtain ⟨t, e, ht⟩ := LineParses.close_some s hs n (i + 2) (by omega) (by omega)
    refine ⟨t, e, ?_⟩
    rcases ht with ht | ⟨j, e, a, b⟩
    ·exact .inl ht
    ·exact .inr ⟨j, e, by omega, b⟩
   ·rw [if_neg h92]
    by_cases h34 : bt s (i : Nat) = 34
    ·rw [if_pos h34]; exact ⟨_, rfl, .inr ⟨i, rfl, by omega, by omega⟩⟩
    ·rw [if_neg h34]
     obtain ⟨t, e, ht⟩ := LineParses.close_some s hs n (i + 1) (by omega) (by omega)
     refine ⟨t, e, ?_⟩
     rcases ht with ht | ⟨j, e, a, b⟩
     ·exact .inl ht
     ·exact .inr ⟨j, e, by omega, b⟩
  ·rw [if_neg hi]; exact ⟨-1, rfl, .inl rfl⟩
theorem LineParses.close_mono (s : ByteArray) (i : Int) (k : Nat) : LeO (prebendref26_close.l0 k s i) (prebendref26_close.l0 (k + 1) s i) := prebendref26_close.mono_l k s i
theorem LineParses.close_at (s : ByteArray) (hs : s.size ≤ 4000) (rest : List Int) : ∀ (w : List Int), (∀ c ∈ w, Byte c) → ∀ (i : Nat), (bl s).drop i = w.flatMap q1 ++ 34 :: rest → ∃ K, prebendref26_close.l0 K s (i : Nat) = some ((i + (w.flatMap q1).length : Nat) : Int)
 | [], _, i, h => by
  obtain ⟨a, b, _⟩ := at_cons h
  exact ⟨1, by rw [prebendref26_close.l0, if_pos (by omega), if_pos (by omega), if_neg (by omega), if_pos b]; rfl⟩
 | c :: w, hb, i, h => by
  have hc : Byte c := hb c (by simp)
  unfold Byte at hc
  rw [List.flatMap_cons, List.append_assoc] at h
  rw [List.flatMap_cons, List.length_append]
  have hw : ∀ d ∈ w, Byte d := fun d hd => hb d (by simp [hd])
  by_cases h1 : c = 34 ∨ c = 92
  ·rw [show q1 c = [92, c] by unfold q1; rw [if_pos h1]] at h ⊢
   obtain ⟨a1, b1, h1⟩ := at_cons h
   obtain ⟨a2, b2, h2⟩ := at_cons h1
   obtain ⟨K, e⟩ := LineParses.close_at s hs rest w hw (i + 2) h2
   refine ⟨K + 1, ?_⟩
   rw [prebendref26_close.l0, if_pos (by omega), if_pos (by omega), if_pos b1, wrap_nat i (by omega), wrap_nat (i + 1) (by omega), e]
   exact congrArg some (by simp only [List.length_cons, List.length_nil]; omega)
  ·by_cases h2 : 32 ≤ c ∧ c ≤ 126
   ·rw [show q1 c = [c] by unfold q1; rw [if_neg h1, if_pos h2]] at h ⊢
    obtain ⟨a1, b1, h1⟩ := at_cons h
    obtain ⟨K, e⟩ := LineParses.close_at s hs rest w hw (i + 1) h1
    refine ⟨K + 1, ?_⟩
    rw [prebendref26_close.l0, if_pos (by omega), if_pos (by omega), if_neg (by omega), if_neg (by omega), wrap_nat i (by omega), e]
    exact congrArg some (by simp only [List.length_cons, List.length_nil]; omega)
   ·have r1 := hexd_range (c / 16) (by omega)
    have r2 := hexd_range (c % 16) (by omega)
    have n1 : hexd (c / 16) ≠ 92 ∧ hexd (c / 16) ≠ 34 := by unfold hexd; split <;> omega
    have n2 : hexd (c % 16) ≠ 92 ∧ hexd (c % 16) ≠ 34 := by unfold hexd; split <;> omega
    rw [show q1 c = [92, 120, hexd (c / 16), hexd (c % 16)] by unfold q1; rw [if_neg h1, if_neg h2]] at h ⊢
    obtain ⟨a1, b1, h1⟩ := at_cons h
    obtain ⟨a2, b2, h2⟩ := at_cons h1
    obtain ⟨a3, b3, h3⟩ := at_cons h2
    obtain ⟨a4, b4, h4⟩ := at_cons h3
    obtain ⟨K, e⟩ := LineParses.close_at s hs rest w hw (i + 4) h4
    refine ⟨K + 1 + 1 + 1, ?_⟩
    rw [prebendref26_close.l0, if_pos (by omega), if_pos (by omega), if_pos b1, wrap_nat i (by omega), wrap_nat (i + 1) (by omega)]
    rw [prebendref26_close.l0, if_pos (by omega), if_pos (by omega), if_neg (by rw [b3]; exact n1.1), if_neg (by rw [b3]; exact n1.2), wrap_nat (i + 1 + 1) (by omega)]
    rw [prebendref26_close.l0, if_pos (by omega), if_pos (by omega), if_neg (by rw [b4]; exact n2.1), if_neg (by rw [b4]; exact n2.2), wrap_nat (i + 1 + 1 + 1) (by omega), e]
    exact congrArg some (by simp only [List.length_cons, List.length_nil]; omega)
theorem LineParses.plain_some (s : ByteArray) (hs : s.size ≤ 4000) : ∀ (n i : Nat) (x : List Int), s.size ≤ i + n → x.length ≤ i → i ≤ 4004 → ∃ t, prebendref26_plain.l0 (2 * n + 3) s x (i : Nat) = some t ∧ t.size ≤ 4004
 | 0, i, x, h, hx, hi => ⟨_, by rw [prebendref26_plain.l0, if_neg (by omega)], by rw [nums_size]; omega⟩
 | n + 1, i, x, h, hx, hi => by
  rw [show 2 * (n + 1) + 3 = (2 * n + 3) + 1 + 1 by omega]
  have up : ∀ (m : Nat) (y : List Int), s.size ≤ m + n → y.length ≤ m → m ≤ 4004 → ∃ t, prebendref26_plain.l0 (2 * n + 3 + 1) s y (m : Nat) = some t ∧ t.size ≤ 4004 := fun m y h1 h2 h3 => by
   obtain ⟨t, e, z⟩ := LineParses.plain_some s hs n m y h1 h2 h3
   exact ⟨t, (prebendref26_plain.mono_l (2 * n + 3)).1 s y m t e, z⟩
  rw [prebendref26_plain.l0]
  by_cases hlt : (i : Int) < (s.size : Int)
  ·rw [if_pos hlt, if_pos (by omega), wrap_nat i (by omega), wrap2 i (by omega), wrap3 i (by omega)]
   by_cases h92 : bt s (i : Nat) = 92
   ·rw [if_pos h92]
    have jf : ∃ t, prebendref26_plain.j1 (2 * n + 3 + 1) s x (i : Nat) false = some t ∧ t.size ≤ 4004 := by
     rw [prebendref26_plain.j1, if_neg (by decide), wrap_nat i (by omega), wrap_nat (i + 1) (by omega)]
     by_cases h1 : ((i + 1 : Nat) : Int) < (s.size : Int)
     ·rw [if_pos h1, if_pos (by omega), if_pos (by omega)]
      exact LineParses.plain_some s hs n (i + 2) _ (by omega) (by simp; omega) (by omega)
     ·rw [if_neg h1]
      exact LineParses.plain_some s hs n (i + 1) _ (by omega) (by omega) (by omega)
    by_cases h3 : ((i + 3 : Nat) : Int) < (s.size : Int)
    ·rw [if_pos h3, if_pos (by omega), if_pos (by omega)]
     by_cases h120 : bt s ((i + 1 : Nat) : Int) = 120
     ·rw [if_pos h120, if_pos (by omega), if_pos (by omega), LineParses.hex _ (bt_range _ _), Option.bind_some]
      split
      ·rw [if_pos (by omega), LineParses.hex _ (bt_range _ _), Option.bind_some]
       by_cases hd : hexv (bt s ((i + 3 : Nat) : Int)) ≥ 0
       ·rw [decide_eq_true hd, prebendref26_plain.j1, if_pos rfl, wrap2 i (by omega), wrap3 i (by omega), if_pos (by omega), if_pos (by omega), LineParses.hex _ (bt_range _ _), Option.bind_some, if_pos (by omega), if_pos (by omega), LineParses.hex _ (bt_range _ _), Option.bind_some, if_pos (by omega), wrap_nat (i + 3) (by omega)]
        exact LineParses.plain_some s hs n (i + 4) _ (by omega) (by simp; omega) (by omega)
       ·rw [decide_eq_false hd]; exact jf
      ·exact jf
     ·rw [if_neg h120]; exact jf
    ·rw [if_neg h3]; exact jf
   ·rw [if_neg h92, if_pos (by omega)]
    exact up (i + 1) _ (by omega) (by simp; omega) (by omega)
  ·rw [if_neg hlt]; exact ⟨_, rfl, by rw [nums_size]; omega⟩
theorem LineParses.plain_at (s : ByteArray) (hs : s.size ≤ 4000) : ∀ (w : List Int), (∀ c ∈ w, Byte c) → ∀ (i : Nat) (x : List Int), x.length ≤ i → (bl s).drop i = w.flatMap q1 → ∃ K, prebendref26_plain.l0 (K + 1) s x (i : Nat) = some (strOfNums (x ++ w))
 | [], _, i, x, hx, h => by
  have := at_nil h
  exact ⟨0, by rw [prebendref26_plain.l0, if_neg (by omega), List.append_nil]⟩
 | c :: w, hb, i, x, hx, h => by
  have hc : Byte c := hb c (by simp)
  unfold Byte at hc
  rw [List.flatMap_cons] at h
  rw [show x ++ c :: w = (x ++ [c]) ++ w by simp]
  have hw : ∀ d ∈ w, Byte d := fun d hd => hb d (by simp [hd])
  by_cases h1 : c = 34 ∨ c = 92
  ·rw [show q1 c = [92, c] by unfold q1; rw [if_pos h1]] at h
   obtain ⟨a1, b1, h1'⟩ := at_cons h
   obtain ⟨a2, b2, h2'⟩ := at_cons h1'
   obtain ⟨K, e⟩ := LineParses.plain_at s hs w hw (i + 2) (x ++ [c]) (by simp; omega) h2'
   refine ⟨K + 1 + 1, ?_⟩
   have jf : prebendref26_plain.j1 (K + 1 + 1) s x (i : Nat) false = some (strOfNums (x ++ [c] ++ w)) := by
    rw [prebendref26_plain.j1, if_neg (by decide), wrap_nat i (by omega), wrap_nat (i + 1) (by omega), if_pos (by omega), if_pos (by omega), if_pos (by omega), b2]
    exact e
   rw [prebendref26_plain.l0, if_pos (by omega), if_pos (by omega), if_pos b1, wrap_nat i (by omega), wrap3 i (by omega), b2, if_neg (show ¬ c = 120 by omega), jf]
   split
   ·rw [if_pos (by omega), if_pos (by omega)]
   ·rfl
  ·by_cases h2 : 32 ≤ c ∧ c ≤ 126
   ·rw [show q1 c = [c] by unfold q1; rw [if_neg h1, if_pos h2]] at h
    obtain ⟨a1, b1, h1'⟩ := at_cons h
    obtain ⟨K, e⟩ := LineParses.plain_at s hs w hw (i + 1) (x ++ [c]) (by simp; omega) h1'
    refine ⟨K + 1, ?_⟩
    rw [prebendref26_plain.l0, if_pos (by omega), if_pos (by omega), if_neg (by omega), if_pos (by omega), wrap_nat i (by omega), b1]
    exact e
   ·have e1 := hexv_hexd (c / 16) (by omega)
    have e2 := hexv_hexd (c % 16) (by omega)
    rw [show q1 c = [92, 120, hexd (c / 16), hexd (c % 16)] by unfold q1; rw [if_neg h1, if_neg h2]] at h
    obtain ⟨a1, b1, h1'⟩ := at_cons h
    obtain ⟨a2, b2, h2'⟩ := at_cons h1'
    obtain ⟨a3, b3, h3'⟩ := at_cons h2'
    obtain ⟨a4, b4, h4'⟩ := at_cons h3'
    obtain ⟨K, e⟩ := LineParses.plain_at s hs w hw (i + 4) (x ++ [c]) (by simp; omega) h4'
    refine ⟨K + 1 + 1 + 1, ?_⟩
    have e' := (prebendref26_plain.mono_l (K + 1)).1 _ _ _ _ e
    have t3 : hexv (bt s ((i + 2 : Nat) : Int)) = c / 16 := by rw [show i + 2 = i + 1 + 1 from rfl, b3, e1]
    have t4 : hexv (bt s ((i + 3 : Nat) : Int)) = c % 16 := by rw [show i + 3 = i + 1 + 1 + 1 from rfl, b4, e2]
    rw [prebendref26_plain.l0, if_pos (by omega), if_pos (by omega), if_pos b1, wrap_nat i (by omega), wrap2 i (by omega), wrap3 i (by omega), if_pos (by omega), if_pos (by omega), if_pos (by omega), if_pos b2, if_pos (by omega), if_pos (by omega), LineParses.hex _ (bt_range _ _), Option.bind_some, t3, if_pos (by omega), if_pos (by omega), LineParses.hex _ (bt_range _ _), Option.bind_some, t4, decide_eq_true (by omega)]
    rw [prebendref26_plain.j1, if_pos rfl, wrap2 i (by omega), wrap3 i (by omega), if_pos (by omega), if_pos (by omega), LineParses.hex _ (bt_range _ _), Option.bind_some, t3, if_pos (by omega), if_pos (by omega), LineParses.hex _ (bt_range _ _), Option.bind_some, t4, if_pos (by omega), wrap_nat (i + 3) (by omega)]
    rw [show (wrap64 (wrap64 (16 * (c / 16)) + c % 16)) % 256 = c by unfold wrap64; omega]
    exact e'
theorem LineParses.bare (c : Int) : prebendref26_bare.f c = some (bareI c) := by
 have e : (32 < c) = (c ≥ 33) := propext (by omega)
 unfold prebendref26_bare.f bareI
 simp only [e]
 by_cases h1 : c ≥ 33 <;> by_cases h2 : c ≤ 126 <;> by_cases h3 : c = 34 <;> by_cases h4 : c = 92 <;> simp [h1, h2, h3, h4, bne]
theorem LineParses.run (s : ByteArray) (hs : s.size ≤ 4000) (out : List ByteArray) (i : Int) : ∀ (tw rest : List Int) (j : Nat), (bl s).drop j = tw ++ rest → (∀ c ∈ tw, bareI c = true) → (rest = [] ∨ ∃ c r, rest = c :: r ∧ bareI c = false) → ∀ K, prebendref26_Words.l1 (K + tw.length + 1) s out i (j : Nat) = prebendref26_Words.j2 K s out i ((j + tw.length : Nat) : Int)
 | [], rest, j, h, _, hr, K => by
  rw [List.nil_append] at h
  rcases hr with rfl | ⟨c, r, rfl, hc⟩
  ·have := at_nil h
   rw [prebendref26_Words.l1, if_neg (by omega)]; rfl
  ·obtain ⟨a, b, _⟩ := at_cons h
   rw [prebendref26_Words.l1, if_pos (by omega), if_pos (by omega), LineParses.bare, b, hc, Option.bind_some, if_neg (by decide)]; rfl
 | c :: tw, rest, j, h, hb, hr, K => by
  obtain ⟨a, b, h'⟩ := at_cons h
  rw [prebendref26_Words.l1, if_pos (by omega), if_pos (by omega), LineParses.bare, b, hb c (by simp), Option.bind_some, if_pos rfl, wrap_nat j (by omega)]
  have := LineParses.run s hs out i tw rest (j + 1) h' (fun d hd => hb d (by simp [hd])) hr K
  rw [show K + (c :: tw).length = K + tw.length + 1 by rw [List.length_cons]; omega, this]
  congr 1
  rw [List.length_cons]; omega
def LineParses.Good (s : ByteArray) (N : Nat) : Prop := ∀ n, n ≤ N → ∀ (out : List ByteArray) (i : Nat) (res : List ByteArray × Int), out.length ≤ i → i ≤ s.size → bw n out ((bl s).drop i) = some res → ∃ K, prebendref26_Words.l0 K s out (i : Nat) = some res
theorem LineParses.tail (s : ByteArray) (N : Nat) (H : LineParses.Good s N) (m : Nat) (hm : m ≤ N + 1) (out : List ByteArray) (w : List Int) (j : Nat) (res : List ByteArray × Int) (ho : out.length + 1 ≤ j) (hj : j ≤ s.size) (h : ed m out w ((bl s).drop j) = some res) :
  ∃ K, ∀ k, K ≤ k → (if (j : Int) < (s.size : Int) then (if 0 ≤ (j : Int) then (if bt s (j : Nat) = 32 then prebendref26_Words.l0 k s (out ++ [strOfNums w]) (j : Nat) else some ([], 11)) else none) else prebendref26_Words.l0 k s (out ++ [strOfNums w]) (j : Nat)) = some res := by
 match m with
 | 0 => simp [ed] at h
 | m + 1 =>
  rcases hd : (bl s).drop j with _ | ⟨c, r⟩
  ·rw [hd] at h
   simp only [ed] at h
   have := at_nil hd
   obtain ⟨K, e⟩ := H m (by omega) (out ++ [strOfNums w]) j res (by simp; omega) hj (by rw [hd]; exact h)
   exact ⟨K, fun k hk => by rw [if_neg (by omega)]; exact lift_le (f := fun k => prebendref26_Words.l0 k s (out ++ [strOfNums w]) (j : Nat)) (fun k => (prebendref26_Words.mono_l k).1 _ _ _) e hk⟩
  ·rw [hd] at h
   simp only [ed] at h
   obtain ⟨a, b, _⟩ := at_cons hd
   by_cases hc : c = 32
   ·rw [if_pos hc] at h
    obtain ⟨K, e⟩ := H m (by omega) (out ++ [strOfNums w]) j res (by simp; omega) hj (by rw [hd]; exact h)
    exact ⟨K, fun k hk => by rw [if_pos (by omega), if_pos (by omega), if_pos (by rw [b]; exact hc)]; exact lift_le (f := fun k => prebendref26_Words.l0 k s (out ++ [strOfNums w]) (j : Nat)) (fun k => (prebendref26_Words.mono_l k).1 _ _ _) e hk⟩
   ·rw [if_neg hc] at h
    exact ⟨0, fun k _ => by rw [if_pos (by omega), if_pos (by omega), if_neg (by rw [b]; exact hc)]; exact h⟩
theorem LineParses.inS (t : ByteArray) (h : t.size ≤ 1099511627776) : prebendref26_In.f t = some (strOfNums (34 :: (bl t).flatMap q1 ++ [34])) := by
 show XIn.inS t = _
 unfold XIn.inS
 rw [if_pos h]
theorem LineParses.quoted (s : ByteArray) (hs : s.size ≤ 4000) (N : Nat) (H : LineParses.Good s N) (n : Nat) (hn : n ≤ N) (out : List ByteArray) (i : Nat) (r : List Int) (res : List ByteArray × Int) (ho : out.length ≤ i) (hd : (bl s).drop i = 34 :: r) (h : qt n out [] r = some res) : ∃ K, prebendref26_Words.l0 K s out (i : Nat) = some res := by
 obtain ⟨a, b, hr⟩ := at_cons hd
 have hb : ∀ d ∈ r, Byte d := fun d hx => byte_bl s d (List.mem_of_mem_drop (by rw [hr]; exact hx))
 have hl := bl_length s
 by_cases hdec : ∃ (w' rest : List Int), (∀ c ∈ w', Byte c) ∧ r = w'.flatMap q1 ++ 34 :: rest
 ·obtain ⟨w', rest, hw, he⟩ := hdec
  obtain ⟨m, hm, hed⟩ := qt_dec rest out res w' hw n [] (by rw [← he]; exact h)
  rw [List.nil_append] at hed
  have hr2 : (bl s).drop (i + 1) = w'.flatMap q1 ++ 34 :: rest := by rw [hr, he]
  obtain ⟨Kc, ec⟩ := LineParses.close_at s hs rest w' hw (i + 1) hr2
  obtain ⟨L, hL⟩ : ∃ L, L = (w'.flatMap q1).length := ⟨_, rfl⟩
  rw [← hL] at ec
  have hj : (bl s).drop (i + 1 + L) = 34 :: rest := by rw [← List.drop_drop, hr2, hL, List.drop_left]
  obtain ⟨aj, bj, hj1⟩ := at_cons hj
  have hcont : bl (s.extract (i + 1) (i + 1 + L)) = w'.flatMap q1 := by
   rw [bl_extract, List.drop_take, hr2, show i + 1 + L - (i + 1) = L by omega, hL, List.take_left]
  have hall : s.extract i (i + 1 + L + 1) = strOfNums (34 :: w'.flatMap q1 ++ [34]) := by
   rw [← strOfNums_bl (s.extract i (i + 1 + L + 1))]
   congr 1
   rw [bl_extract, List.drop_take, hd, he, show i + 1 + L + 1 - i = L + 1 + 1 by omega, List.take_succ_cons, hL, List.cons_append]
   congr 1
   rw [show (w'.flatMap q1 ++ 34 :: rest) = (w'.flatMap q1 ++ [34]) ++ rest by simp, List.take_left' (by simp)]
  obtain ⟨Kp, ep⟩ := LineParses.plain_at (s.extract (i + 1) (i + 1 + L)) (by rw [ByteArray.size_extract]; omega) w' hw 0 [] (by simp) (by rw [List.drop_zero]; exact hcont)
  rw [List.nil_append] at ep
  obtain ⟨Kt, et⟩ := LineParses.tail s N H m (by omega) out w' (i + 1 + L + 1) res (by omega) (by omega) (by rw [hj1]; exact hed)
  refine ⟨max Kc (max (Kp + 1) Kt) + 1, ?_⟩
  have c1 : Kc ≤ max Kc (max (Kp + 1) Kt) := Nat.le_max_left _ _
  have c2 : Kp + 1 ≤ max Kc (max (Kp + 1) Kt) := Nat.le_trans (Nat.le_max_left _ _) (Nat.le_max_right _ _)
  have c3 : Kt ≤ max Kc (max (Kp + 1) Kt) := Nat.le_trans (Nat.le_max_right _ _) (Nat.le_max_right _ _)
  generalize max Kc (max (Kp + 1) Kt) = K at *
  have e1 : prebendref26_close.f K s (i : Nat) = some ((i + 1 + L : Nat) : Int) := by
   unfold prebendref26_close.f
   rw [wrap_nat i (by omega)]
   exact lift_le (f := fun k => prebendref26_close.l0 k s ((i + 1 : Nat) : Int)) (fun k => LineParses.close_mono _ _ k) ec c1
  have e2 : prebendref26_plain.f K (s.extract (i + 1) (i + 1 + L)) = some (strOfNums w') :=
   lift_le (f := fun k => prebendref26_plain.l0 k (s.extract (i + 1) (i + 1 + L)) [] 0) (fun k => (prebendref26_plain.mono_l k).1 _ _ _) ep c2
  have hsz : (strOfNums w').size ≤ 1099511627776 := by
   rw [nums_size]
   have := flat_ge w'
   omega
  rw [prebendref26_Words.l0, if_pos (by omega), if_pos (by omega), if_neg (by omega), if_neg (by omega), if_pos b, e1, Option.bind_some, if_neg (by omega), wrap_nat i (by omega), if_pos (by omega), if_pos (by omega), if_pos (by omega), Int.toNat_natCast, Int.toNat_natCast, e2, Option.bind_some, LineParses.inS _ hsz, Option.bind_some, wrap_nat (i + 1 + L) (by omega), if_pos (by omega), if_pos (by omega), Int.toNat_natCast, Int.toNat_natCast, hall, bl_strOfNums w' hw, if_pos rfl, if_pos (by omega), Option.bind_some]
  exact et K c3
 ·have hres : res = ([], 11) := (qt_neg out res n [] r hb h).resolve_left hdec
  obtain ⟨t, ct, ht⟩ := LineParses.close_some s hs s.size (i + 1) (by omega) (by omega)
  rcases ht with rfl | ⟨j, rfl, h1, h2⟩
  ·refine ⟨s.size + 1 + 1, ?_⟩
   have e1 : prebendref26_close.f (s.size + 1) s (i : Nat) = some (-1) := by
    unfold prebendref26_close.f
    rw [wrap_nat i (by omega)]; exact ct
   rw [prebendref26_Words.l0, if_pos (by omega), if_pos (by omega), if_neg (by omega), if_neg (by omega), if_pos b, e1, Option.bind_some, if_pos (by decide), hres]
  ·obtain ⟨q, eq, hq⟩ := LineParses.plain_some (s.extract (i + 1) j) (by rw [ByteArray.size_extract]; omega) s.size 0 [] (by rw [ByteArray.size_extract]; omega) (by simp) (by omega)
   refine ⟨2 * s.size + 3 + 1, ?_⟩
   have e1 : prebendref26_close.f (2 * s.size + 3) s (i : Nat) = some (j : Int) := by
    unfold prebendref26_close.f
    rw [wrap_nat i (by omega)]
    exact lift_le (f := fun k => prebendref26_close.l0 k s ((i + 1 : Nat) : Int)) (fun k => LineParses.close_mono _ _ k) ct (by omega)
   have e2 : prebendref26_plain.f (2 * s.size + 3) (s.extract (i + 1) j) = some q := eq
   rw [prebendref26_Words.l0, if_pos (by omega), if_pos (by omega), if_neg (by omega), if_neg (by omega), if_pos b, e1, Option.bind_some, if_neg (by omega), wrap_nat i (by omega), if_pos (by omega), if_pos (by omega), if_pos (by omega), Int.toNat_natCast, Int.toNat_natCast, e2, Option.bind_some, LineParses.inS q (by omega), Option.bind_some, wrap_nat j (by omega), if_pos (by omega), if_pos (by omega), Int.toNat_natCast, Int.toNat_natCast, if_neg, hres]
   intro hc
   have hc := congrArg bl (toList_inj hc)
   rw [bl_strOfNums, bl_extract] at hc
   ·apply hdec
    refine ⟨bl q, (bl s).drop (j + 1), byte_bl q, ?_⟩
    have e3 : (bl s).drop i = ((bl s).take (j + 1)).drop i ++ (bl s).drop (j + 1) := by
     rw [← List.drop_append_of_le_length (by rw [List.length_take]; omega), List.take_append_drop]
    rw [← hc, hd] at e3
    simp only [List.cons_append, List.cons.injEq, true_and, List.append_assoc, List.nil_append] at e3
    exact e3
   ·intro d hx
    simp only [List.cons_append, List.mem_cons, List.mem_append, List.mem_flatMap, List.not_mem_nil, or_false] at hx
    rcases hx with rfl | ⟨c, hc, hx⟩ | rfl
    ·omega
    ·have := q1_range c (byte_bl q c hc) d hx; omega
    ·omega
theorem LineParses.good (s : ByteArray) (hs : s.size ≤ 4000) : ∀ N, LineParses.Good s N
 | 0 => fun n hn out i res _ _ h => by rw [show n = 0 by omega] at h; simp [bw] at h
 | N + 1 => fun n hn out i res ho hi h => by
  have H := LineParses.good s hs N
  match n with
  | 0 => simp [bw] at h
  | n + 1 =>
   rcases hd : (bl s).drop i with _ | ⟨c, r⟩
   ·rw [hd] at h
    simp only [bw, Option.some.injEq] at h
    have := at_nil hd
    exact ⟨1, by rw [prebendref26_Words.l0, if_neg (by omega), h]⟩
   ·obtain ⟨a, b, hr⟩ := at_cons hd
    rw [hd] at h
    simp only [bw] at h
    by_cases h32 : c = 32
    ·rw [if_pos h32] at h
     obtain ⟨K, e⟩ := H n (by omega) out (i + 1) res (by omega) (by omega) (by rw [hr]; exact h)
     exact ⟨K + 1, by rw [prebendref26_Words.l0, if_pos (by omega), if_pos (by omega), if_pos (by rw [b]; exact h32), wrap_nat i (by omega)]; exact e⟩
    ·rw [if_neg h32] at h
     by_cases h35 : c = 35
     ·rw [if_pos h35] at h
      exact ⟨1, by rw [prebendref26_Words.l0, if_pos (by omega), if_pos (by omega), if_neg (by rw [b]; exact h32), if_pos (by rw [b]; exact h35)]; exact h⟩
     ·rw [if_neg h35] at h
      by_cases h34 : c = 34
      ·rw [if_pos h34] at h
       subst h34
       exact LineParses.quoted s hs N H n (by omega) out i r res ho hd h
      ·rw [if_neg h34] at h
       have hsplit : (bl s).drop i = (c :: r).takeWhile bareI ++ (c :: r).dropWhile bareI := by rw [List.takeWhile_append_dropWhile, hd]
       have hrun := LineParses.run s hs out (i : Nat) _ _ i hsplit (fun d hx => tw_all _ _ d hx) (dw_head _ _)
       have start : ∀ K, prebendref26_Words.l0 (K + ((c :: r).takeWhile bareI).length + 1 + 1) s out (i : Nat) = prebendref26_Words.j2 K s out (i : Nat) ((i + ((c :: r).takeWhile bareI).length : Nat) : Int) := fun K => by
        rw [prebendref26_Words.l0, if_pos (by omega), if_pos (by omega), if_neg (by rw [b]; exact h32), if_neg (by rw [b]; exact h35), if_neg (by rw [b]; exact h34)]
        exact hrun K
       generalize (c :: r).takeWhile bareI = tw at *
       generalize (c :: r).dropWhile bareI = dw at *
       by_cases ht : tw = []
       ·rw [if_pos ht] at h
        refine ⟨1 + tw.length + 1 + 1, ?_⟩
        rw [start, prebendref26_Words.j2, if_pos (by rw [ht]; rfl)]
        exact h
       ·rw [if_neg ht] at h
        have hp : 0 < tw.length := List.length_pos_iff.2 ht
        have hlen : i + tw.length ≤ s.size := by
         have := congrArg List.length hsplit
         rw [List.length_drop, List.length_append, bl_length] at this
         omega
        have hj : (bl s).drop (i + tw.length) = dw := by rw [← List.drop_drop, hsplit, List.drop_left]
        obtain ⟨Kt, et⟩ := LineParses.tail s N H n (by omega) out tw (i + tw.length) res (by omega) hlen (by rw [hj]; exact h)
        have hx : s.extract i (i + tw.length) = strOfNums tw := by
         rw [← strOfNums_bl (s.extract i (i + tw.length)), bl_extract, List.drop_take, hsplit, show i + tw.length - i = tw.length by omega, List.take_left]
        refine ⟨Kt + 1 + tw.length + 1 + 1, ?_⟩
        rw [start, prebendref26_Words.j2, if_neg (by omega), if_pos (by omega), if_pos (by omega), if_pos (by omega), if_pos (by omega), Int.toNat_natCast, Int.toNat_natCast, hx, Option.bind_some]
        exact et Kt (Nat.le_refl _)
theorem LineParses.count : ∀ k : Nat, (∀ out l res, bw k out l = some res → res.1.length ≤ out.length + k) ∧ (∀ out w l res, qt k out w l = some res → res.1.length ≤ out.length + k) ∧ (∀ out w l res, ed k out w l = some res → res.1.length ≤ out.length + k)
 | 0 => ⟨fun _ _ _ h => by simp [bw] at h, fun _ _ _ _ h => by simp [qt] at h, fun _ _ _ _ h => by simp [ed] at h⟩
 | k + 1 => by
  have ih := LineParses.count k
  have e0 : ∀ (out : List ByteArray) (res : List ByteArray × Int), some (([] : List ByteArray), (11 : Int)) = some res → res.1.length ≤ out.length + (k + 1) := fun out res h => by
   rw [← Option.some.inj h]; simp
  have e1 : ∀ (out : List ByteArray) (res : List ByteArray × Int), some (out, (0 : Int)) = some res → res.1.length ≤ out.length + (k + 1) := fun out res h => by
   rw [← Option.some.inj h]; simp
  refine ⟨fun out l res h => ?_, fun out w l res h => ?_, fun out w l res h => ?_⟩
  ·match l with
   | [] => simp only [bw] at h; exact e1 _ _ h
   | c :: r =>
    simp only [bw] at h
    split at h
    ·have := ih.1 _ _ _ h; omega
    ·split at h
     ·exact e1 _ _ h
     ·split at h
      ·have := ih.2.1 _ _ _ _ h; omega
      ·split at h
       ·exact e0 _ _ h
       ·have := ih.2.2 _ _ _ _ h; omega
  ·match l with
   | [] => simp only [qt] at h; exact e0 _ _ h
   | c :: r =>
    rw [qt_step] at h
    split at h
    ·exact e0 _ _ h
    ·split at h
     ·have := ih.2.2 _ _ _ _ h; omega
     ·split at h
      ·split at h
       ·exact e0 _ _ h
       ·have := ih.2.1 _ _ _ _ h; omega
      ·have := ih.2.1 _ _ _ _ h; omega
  ·match l with
   | [] => simp only [ed] at h; have := ih.1 _ _ _ h; simp at this; omega
   | c :: r =>
    simp only [ed] at h
    split at h
    ·have := ih.1 _ _ _ h; simp at this; omega
    ·exact e0 _ _ h
theorem LineParses.ref (s : ByteArray) (hs : s.size ≤ 4000) (r : List ByteArray × Int) (h : XWords.words s = some r) : ∃ K, prebendref26_Words.f K s = some r := by
 have h2 : XWordsP.words s = some r := h
 unfold XWordsP.words at h2
 rw [if_pos (by omega)] at h2
 exact LineParses.good s hs _ _ (Nat.le_refl _) [] 0 r (by simp) (by omega) (by rw [List.drop_zero]; exact h2)

theorem LineParses.u64 (n : Int) : IntKind.u64.wrap n = n % 18446744073709551616 := IntKind.wrap_u64 n
theorem LineParses.numl (a : Int) : ∀ (n u : Nat) (x : ByteArray), u < 10 ^ (n + 1) → u < 18446744073709551616 → x.size + n ≤ 100 → ∃ t, prebendref26_Num.l0 (n + 1) a (u : Nat) x = some t ∧ bl t = (if a < 0 then [45] else []) ++ dI u ++ bl x
 | n, u, x, h, hu, hx => by
  by_cases h9 : (u : Int) > 9
  ·match n with
   | 0 => simp at h; omega
   | n + 1 =>
    have hd : dI u = dI (u / 10) ++ [48 + (u : Int) % 10] := dI_step (by omega)
    have e1 : (IntKind.u64.wrap (48 + Int.tmod (u : Int) 10)) % 256 = 48 + (u : Int) % 10 := by rw [LineParses.u64, Int.tmod_eq_emod_of_nonneg (by omega)]; omega
    have e2 : IntKind.u64.wrap (Int.tdiv (u : Int) 10) = ((u / 10 : Nat) : Int) := by rw [LineParses.u64, Int.tdiv_eq_ediv_of_nonneg (by omega)]; omega
    have z : (strOfNums [48 + (u : Int) % 10]).size = 1 := nums_size _
    obtain ⟨t, e, hb⟩ := LineParses.numl a n (u / 10) (strOfNums [48 + (u : Int) % 10] ++ x) (by rw [Nat.pow_succ] at h; omega) (by omega) (by rw [ByteArray.size_append]; omega)
    refine ⟨t, ?_, ?_⟩
    ·rw [prebendref26_Num.l0, if_pos h9, e1, e2, Option.bind_some, if_pos (by omega)]; exact e
    ·rw [hb, hd, bl_append, bl_strOfNums _ (by intro c hc; rw [List.mem_singleton] at hc; omega)]
     simp
  ·have hd : dI u = [48 + (u : Int)] := dI_small (by omega)
   have e1 : (IntKind.u64.wrap (48 + (u : Int))) % 256 = 48 + (u : Int) := by rw [LineParses.u64]; omega
   have z : (strOfNums [48 + (u : Int)]).size = 1 := nums_size _
   rw [prebendref26_Num.l0, if_neg h9, e1, Option.bind_some, if_pos (by omega)]
   have hb : bl (strOfNums [48 + (u : Int)] ++ x) = dI u ++ bl x := by
    rw [hd, bl_append, bl_strOfNums _ (by intro c hc; rw [List.mem_singleton] at hc; omega)]
   by_cases ha : a < 0
   ·rw [if_pos ha, if_pos (by rw [ByteArray.size_append]; omega)]
    refine ⟨_, rfl, ?_⟩
    rw [bl_append, hb, if_pos ha, show bl (⟨#[45]⟩ : ByteArray) = [45] by decide +kernel, List.append_assoc]
   ·rw [if_neg ha]
    refine ⟨_, rfl, ?_⟩
    rw [hb, if_neg ha]; rfl
theorem LineParses.num (a : Int) (h : -9223372036854775808 ≤ a ∧ a ≤ 9223372036854775807) (k : Nat) (hk : 22 ≤ k) : prebendref26_Num.f k a = some (numeral a) := by
 refine lift_le (f := fun k => prebendref26_Num.f k a) (fun k => prebendref26_Num.mono a k) (n := 22) ?_ hk
 show prebendref26_Num.f 22 a = _
 unfold prebendref26_Num.f
 by_cases ha : a < 0
 ·have e : IntKind.u64.wrap (-(IntKind.u64.wrap a)) = ((a.natAbs : Nat) : Int) := by rw [LineParses.u64, LineParses.u64]; omega
  obtain ⟨t, e2, hb⟩ := LineParses.numl a 20 a.natAbs ⟨#[]⟩ (by omega) (by omega) (by decide)
  rw [if_pos ha, prebendref26_Num.j0, e, e2]
  congr 1
  apply bl_inj
  rw [hb, bl_numeral, if_pos ha, if_pos ha, show bl (⟨#[]⟩ : ByteArray) = [] by decide +kernel]
  simp
 ·have e : IntKind.u64.wrap a = ((a.toNat : Nat) : Int) := by rw [LineParses.u64]; omega
  obtain ⟨t, e2, hb⟩ := LineParses.numl a 20 a.toNat ⟨#[]⟩ (by omega) (by omega) (by decide)
  rw [if_neg ha, prebendref26_Num.j0, e, e2]
  congr 1
  apply bl_inj
  rw [hb, bl_numeral, if_neg ha, if_neg ha, show bl (⟨#[]⟩ : ByteArray) = [] by decide +kernel]
  simp
def LineParses.Fits (v : Int) : Prop := -9223372036854775808 ≤ v ∧ v ≤ 9223372036854775807
def LineParses.Says (s : ByteArray) (r : Int × Bool) : Prop := r = (0, false) ∨ ∃ v : Int, LineParses.Fits v ∧ r = (v, true) ∧ s = numeral v
theorem LineParses.wrapFits (n : Int) : LineParses.Fits (wrap64 n) := by unfold LineParses.Fits wrap64; omega
def LineParses.val (s : ByteArray) (n : Int) : Int := if bt s 0 = 45 then wrap64 (-(wrap64 n)) else wrap64 n
theorem LineParses.val_fits (s : ByteArray) (n : Int) : LineParses.Fits (LineParses.val s n) := by unfold LineParses.val; split <;> exact LineParses.wrapFits _
theorem LineParses.numend (s : ByteArray) (hp : 0 < s.size) (n : Int) (k : Nat) (hk : 22 ≤ k) : prebendref26_Number.l0 (k + 1) s n (s.size : Nat) = (if s = numeral (LineParses.val s n) then some (LineParses.val s n, true) else some (0, false)) := by
 have hf := LineParses.val_fits s n
 unfold LineParses.Fits at hf
 rw [prebendref26_Number.l0, if_neg (by omega), if_pos (by omega)]
 unfold LineParses.val at *
 by_cases h : bt s 0 = 45
 ·rw [if_pos h] at hf
  simp only [if_pos h]
  rw [LineParses.num _ hf k hk, Option.bind_some]
  by_cases hs : s = numeral (wrap64 (-(wrap64 n)))
  ·rw [if_pos hs, if_pos (by rw [← hs])]
  ·rw [if_neg hs, if_neg (fun hc => hs (toList_inj hc).symm)]
 ·rw [if_neg h] at hf
  simp only [if_neg h]
  rw [LineParses.num _ hf k hk, Option.bind_some]
  by_cases hs : s = numeral (wrap64 n)
  ·rw [if_pos hs, if_pos (by rw [← hs])]
  ·rw [if_neg hs, if_neg (fun hc => hs (toList_inj hc).symm)]
theorem LineParses.numsome (s : ByteArray) (hp : 0 < s.size) (hs : s.size ≤ 4000) : ∀ (m i : Nat) (n : Int), i + m = s.size → ∃ r, prebendref26_Number.l0 (2 * m + 23) s n (i : Nat) = some r ∧ LineParses.Says s r
 | 0, i, n, h => by
  rw [show i = s.size by omega, LineParses.numend s hp n 22 (Nat.le_refl _)]
  split
  ·rename_i hc; exact ⟨_, rfl, .inr ⟨_, LineParses.val_fits s n, rfl, hc⟩⟩
  ·exact ⟨_, rfl, .inl rfl⟩
 | m + 1, i, n, h => by
  have hj : ∀ b : Bool, ∃ r, prebendref26_Number.j2 (2 * m + 23 + 1) s n (i : Nat) b = some r ∧ LineParses.Says s r := fun b => by
   rw [prebendref26_Number.j2, wrap_nat i (by omega)]
   by_cases hb : b = true
   ·rw [if_pos hb]; exact LineParses.numsome s hp hs m (i + 1) _ (by omega)
   ·rw [if_neg hb, if_pos (by omega), if_pos (by omega)]
    split
    ·exact ⟨_, rfl, .inl rfl⟩
    ·split
     ·exact ⟨_, rfl, .inl rfl⟩
     ·exact LineParses.numsome s hp hs m (i + 1) _ (by omega)
  rw [show 2 * (m + 1) + 23 = (2 * m + 23 + 1) + 1 by omega, prebendref26_Number.l0, if_pos (by omega)]
  by_cases h0 : (i : Int) = 0
  ·rw [if_pos h0, if_pos (by omega)]; exact hj _
  ·rw [if_neg h0]; exact hj _
theorem LineParses.numrun (s : ByteArray) (hs : s.size ≤ 4000) (res : Int × Bool) : ∀ (ds : List Int) (i : Nat) (n : Int), (bl s).drop i = ds → (∀ c ∈ ds, 48 ≤ c ∧ c ≤ 57) → 0 ≤ n → fv n ds < 18446744073709551616 →
  (∃ K, prebendref26_Number.l0 K s (fv n ds) ((i + ds.length : Nat) : Int) = some res) → ∃ K, prebendref26_Number.l0 K s n (i : Nat) = some res
 | [], i, n, h, hd, hn, hv, he => he
 | c :: ds, i, n, h, hd, hn, hv, he => by
  obtain ⟨a, b, h'⟩ := at_cons h
  have hc := hd c (by simp)
  have hg := fv_ge ds (n * 10 + (c - 48)) (fun d hx => hd d (by simp [hx])) (by omega)
  rw [fv] at hv he
  obtain ⟨K, e⟩ := LineParses.numrun s hs res ds (i + 1) (n * 10 + (c - 48)) h' (fun d hx => hd d (by simp [hx])) (by omega) hv (by
   rw [List.length_cons, show i + (ds.length + 1) = i + 1 + ds.length by omega] at he; exact he)
  have hw : IntKind.u64.wrap ((IntKind.u64.wrap (n * 10)) + ((c - 48) % 256)) = n * 10 + (c - 48) := by rw [LineParses.u64, LineParses.u64]; omega
  have hj : prebendref26_Number.j2 (K + 1) s n (i : Nat) false = some res := by
   rw [prebendref26_Number.j2, if_neg (by decide), if_pos (by omega), if_pos (by omega), b, if_neg (by omega), if_neg (by omega), hw, wrap_nat i (by omega), e]
  refine ⟨K + 1 + 1, ?_⟩
  rw [prebendref26_Number.l0, if_pos (by omega)]
  by_cases h0 : (i : Int) = 0
  ·rw [if_pos h0, if_pos (by omega), b, show (c == 45) = false by simp; omega]; exact hj
  ·rw [if_neg h0]; exact hj
theorem LineParses.numback (v : Int) (hv : LineParses.Fits v) : ∃ K, prebendref26_Number.l0 K (numeral v) 0 0 = some (v, true) := by
 unfold LineParses.Fits at hv
 have hz := numeral_size v hv
 have hb := bl_numeral v
 have hlen := bl_length (numeral v)
 by_cases h : v < 0
 ·rw [if_pos h] at hb
  have h0 : (bl (numeral v)).drop 0 = 45 :: dI v.natAbs := by rw [List.drop_zero, hb]
  obtain ⟨a, b, h1⟩ := at_cons h0
  rw [show ((0 : Nat) : Int) = 0 from rfl] at b
  have hval : LineParses.val (numeral v) ((v.natAbs : Nat) : Int) = v := by
   unfold LineParses.val
   rw [if_pos b]
   unfold wrap64; omega
  obtain ⟨K, e⟩ := LineParses.numrun (numeral v) (by omega) (v, true) (dI v.natAbs) 1 0 h1 (dI_range _) (by omega) (by rw [fv_dI]; omega) (by
   refine ⟨22 + 1, ?_⟩
   rw [fv_dI, show 1 + (dI v.natAbs).length = (numeral v).size by rw [← hlen, hb, List.length_cons]; omega, LineParses.numend _ hz.1 _ 22 (Nat.le_refl _), hval, if_pos rfl])
  refine ⟨K + 1 + 1, ?_⟩
  rw [prebendref26_Number.l0, if_pos (by omega), if_pos rfl, if_pos (by omega), show (bt (numeral v) 0 == 45) = true by simpa using b, prebendref26_Number.j2, if_pos rfl, show wrap64 (0 + 1) = ((1 : Nat) : Int) by unfold wrap64; rfl]
  exact e
 ·rw [if_neg h] at hb
  have h0 : (bl (numeral v)).drop 0 = dI v.toNat := by rw [List.drop_zero, hb]
  have hne : ¬ bt (numeral v) 0 = 45 := by
   have hr := dI_range v.toNat
   have hp := dI_pos v.toNat
   match hd : dI v.toNat with
   | [] => rw [hd] at hp; simp at hp
   | c :: r =>
    rw [hd] at h0 hr
    obtain ⟨_, b, _⟩ := at_cons h0
    have := hr c (by simp)
    rw [show ((0 : Nat) : Int) = 0 from rfl] at b
    omega
  have hval : LineParses.val (numeral v) ((v.toNat : Nat) : Int) = v := by
   unfold LineParses.val
   rw [if_neg hne]
   unfold wrap64; omega
  exact LineParses.numrun (numeral v) (by omega) (v, true) (dI v.toNat) 0 0 h0 (dI_range _) (by omega) (by rw [fv_dI]; omega) (by
   refine ⟨22 + 1, ?_⟩
   rw [fv_dI, show 0 + (dI v.toNat).length = (numeral v).size by rw [← hlen, hb]; omega, LineParses.numend _ hz.1 _ 22 (Nat.le_refl _), hval, if_pos rfl])
theorem LineParses.refnum (s : ByteArray) (hs : s.size ≤ 4000) : ∃ K, prebendref26_Number.f K s = some (numberP s) := by
 by_cases h0 : (s.size : Int) < 1
 ·refine ⟨2, ?_⟩
  unfold prebendref26_Number.f
  rw [if_pos h0, prebendref26_Number.j0, if_pos rfl, number_no]
  intro v hv hc
  have := numeral_size v hv
  rw [hc] at h0; omega
 ·by_cases h20 : (s.size : Int) > 20
  ·refine ⟨2, ?_⟩
   unfold prebendref26_Number.f
   rw [if_neg h0, decide_eq_true h20, prebendref26_Number.j0, if_pos rfl, number_no]
   intro v hv hc
   have := numeral_size v hv
   rw [hc] at h20; omega
  ·obtain ⟨r, e, hr⟩ := LineParses.numsome s (by omega) hs s.size 0 0 (by omega)
   have up : ∀ (K : Nat) (r : Int × Bool), prebendref26_Number.l0 K s 0 0 = some r → prebendref26_Number.f (K + 1) s = some r := fun K r h => by
    unfold prebendref26_Number.f
    rw [if_neg h0, decide_eq_false h20, prebendref26_Number.j0, if_neg (by decide)]; exact h
   by_cases hx : ∃ v, LineParses.Fits v ∧ s = numeral v
   ·obtain ⟨v, hv, rfl⟩ := hx
    obtain ⟨K, e2⟩ := LineParses.numback v hv
    exact ⟨K + 1, by rw [up K _ e2, number_of v hv]⟩
   ·rcases hr with rfl | ⟨v, hv, rfl, hc⟩
    ·exact ⟨_, by rw [up _ _ e, number_no s (fun v hv hc => hx ⟨v, hv, hc⟩)]⟩
    ·exact absurd ⟨v, hv, hc⟩ hx

theorem LineParses.word_all : ∀ n : Fin 29, prebendref27_word.f (n.val : Int) = some (kwz (n.val : Int)) := by decide +kernel
theorem LineParses.word (n : Int) : prebendref27_word.f n = some (kwz n) := by
 by_cases h : 0 ≤ n ∧ n < 29
 ·have := LineParses.word_all ⟨n.toNat, by omega⟩
  simp only at this
  rwa [show ((n.toNat : Nat) : Int) = n by omega] at this
 ·rw [kwz_no (fun hv => h ⟨hv.1, hv.2.1⟩)]
  unfold prebendref27_word.f
  repeat rw [if_neg (by omega)]
theorem LineParses.refwords0 (kind : Int) (key name : ByteArray) (A : List Int) (hA : ∀ a ∈ A, Fits a) (hl : A.length ≤ 100000) (x0 : ByteArray) : ∀ (b a : List Int), a ++ b = A → prebendref27_Words.l0 (b.length + 24) (x0 :: a.map numeral) (a.length : Nat) kind key name A = some (x0 :: tailWords key name A)
 | [], a, h => by
  rw [List.append_nil] at h
  subst h
  have hc : (x0 :: a.map numeral).length = a.length + 1 := by simp
  unfold tailWords opt
  rw [List.length_nil, prebendref27_Words.l0, if_neg (by omega)]
  by_cases h1 : name.toList = []
  ·rw [if_pos h1, if_pos h1]
   by_cases h2 : key.toList = []
   ·rw [if_pos h2, if_pos h2, List.append_nil, List.append_nil]
   ·rw [if_neg h2, if_neg h2, Option.bind_some, if_pos (by simp; omega), Option.bind_some, Option.bind_some, if_pos (by simp; omega)]
    simp [keyB]
  ·rw [if_neg h1, if_neg h1, Option.bind_some, if_pos (by simp; omega), Option.bind_some, Option.bind_some, if_pos (by simp; omega), Option.bind_some]
   by_cases h2 : key.toList = []
   ·rw [if_pos h2, if_pos h2]
    simp [nameB]
   ·rw [if_neg h2, if_neg h2, Option.bind_some, if_pos (by simp; omega), Option.bind_some, Option.bind_some, if_pos (by simp; omega)]
    simp [nameB, keyB]
 | v :: b, a, h => by
  subst h
  have hlen : (a ++ v :: b).length = a.length + (b.length + 1) := by simp
  have hrd : rd (a ++ v :: b) (a.length : Nat) = v := by unfold rd; simp
  have ih := LineParses.refwords0 kind key name (a ++ v :: b) hA hl x0 b (a ++ [v]) (by simp)
  rw [List.map_append, List.map_cons, List.map_nil, show (a ++ [v]).length = a.length + 1 by simp] at ih
  rw [List.length_cons, show b.length + 1 + 24 = (b.length + 24) + 1 by omega, prebendref27_Words.l0, if_pos (by omega), if_pos (by omega), hrd, LineParses.num v (hA v (by simp)) (b.length + 24) (by omega), Option.bind_some, Option.bind_some, if_pos (by simp; omega), wrap_nat _ (by omega)]
  exact ih
theorem LineParses.refwords (kind : Int) (key name : ByteArray) (A : List Int) (hA : ∀ a ∈ A, Fits a) (hl : A.length ≤ 100000) (k : Nat) (hk : A.length + 24 ≤ k) : prebendref27_Words.f k kind key name A = some (kwz kind :: tailWords key name A) := by
 unfold prebendref27_Words.f
 rw [LineParses.word, Option.bind_some]
 exact lift_le (f := fun k => prebendref27_Words.l0 k [kwz kind] 0 kind key name A) (fun k => prebendref27_Words.mono_l k _ _ _ _ _ _) (LineParses.refwords0 kind key name A hA hl (kwz kind) A [] rfl) hk

/-! ### lists of texts -/
theorem LineParses.texts0 (x y : List ByteArray) (hl : x.length = y.length) (hx : x.length ≤ 1000000) : ∀ (n i : Nat), i + n = x.length → prebendref26_Texts.l0 (n + 1) x y (i : Nat) = some (decide (x.drop i = y.drop i))
 | 0, i, h => by
  rw [prebendref26_Texts.l0, if_neg (by omega), List.drop_eq_nil_of_le (by omega), List.drop_eq_nil_of_le (by omega)]
  simp
 | n + 1, i, h => by
  have hi : i < x.length := by omega
  have hj : i < y.length := by omega
  have d1 : x.drop i = x[i] :: x.drop (i + 1) := List.drop_eq_getElem_cons hi
  have d2 : y.drop i = y[i] :: y.drop (i + 1) := List.drop_eq_getElem_cons hj
  have e1 : rdOf ByteArray.empty x (i : Nat) = x[i] := by unfold rdOf; simp [hi]
  have e2 : rdOf ByteArray.empty y (i : Nat) = y[i] := by unfold rdOf; simp [hj]
  rw [prebendref26_Texts.l0, if_pos (by omega), if_pos (by omega), if_pos (by omega), e1, e2, wrap_nat i (by omega), LineParses.texts0 x y hl hx n (i + 1) (by omega), d1, d2]
  by_cases hc : x[i].toList = y[i].toList
  ·rw [if_pos hc, toList_inj hc]
   have : (x.drop (i + 1) = y.drop (i + 1)) ↔ (y[i] :: x.drop (i + 1) = y[i] :: y.drop (i + 1)) := ⟨fun h => by rw [h], fun h => (List.cons.inj h).2⟩
   exact congrArg some (decide_eq_decide.2 this)
  ·rw [if_neg hc]
   have : ¬ x[i] = y[i] := fun h => hc (by rw [h])
   exact congrArg some (decide_eq_false (fun h => this (List.cons.inj h).1)).symm
theorem LineParses.texts (x y : List ByteArray) (hx : x.length ≤ 1000000) (k : Nat) (hk : x.length + 1 ≤ k) : prebendref26_Texts.f k x y = some (decide (x = y)) := by
 unfold prebendref26_Texts.f
 by_cases hl : (x.length : Int) = (y.length : Int)
 ·rw [if_pos hl]
  have := LineParses.texts0 x y (by omega) hx x.length 0 (by omega)
  rw [List.drop_zero, List.drop_zero] at this
  exact lift_le (f := fun k => prebendref26_Texts.l0 k x y 0) (fun k => prebendref26_Texts.mono_l k _ _ _) this hk
 ·rw [if_neg hl]
  have : ¬ x = y := fun h => hl (by rw [h])
  simp [this]
/-! ### the kind -/
theorem LineParses.kwz_iff (n : Nat) (h1 : 1 ≤ n) (h2 : n ≤ 28) (w0 : ByteArray) : ((kwz (n : Int)).toList ≠ [] ∧ (kwz (n : Int)).toList = w0.toList) ↔ kindOf w0 = (n : Int) := by
 have hz : kwz (n : Int) = kw (n : Int) := by unfold kwz; rw [if_pos (by omega)]
 rw [hz]
 constructor
 ·intro ⟨a, b⟩
  rw [← toList_inj b]
  exact kind_kw _ ⟨by omega, by omega, a⟩
 ·intro h
  obtain ⟨hv, hk⟩ := kind_valid w0 (by omega)
  rw [h] at hv hk
  exact ⟨hv.2.2, by rw [hk]⟩
theorem LineParses.kinds (w0 : ByteArray) (t : List ByteArray) (K : Nat) (res : Int × ByteArray × ByteArray × List Int × Int) (H : prebendref27_Parse.l1 K (w0 :: t) 1 (kindOf w0) ⟨#[]⟩ ⟨#[]⟩ [] = some res) :
  ∀ (n i : Nat), i + n = 29 → 1 ≤ i → prebendref27_Parse.l0 (K + n + 1) (w0 :: t) (i : Nat) (if kindOf w0 < (i : Int) then kindOf w0 else 0) ⟨#[]⟩ ⟨#[]⟩ = some res
 | 0, i, h, hi => by
  have hk : kindOf w0 < (i : Int) := by
   by_cases h0 : kindOf w0 = 0
   ·omega
   ·have := (kind_valid w0 h0).1.2.1; omega
  rw [prebendref27_Parse.l0, if_neg (by omega), if_pos hk]
  exact H
 | n + 1, i, h, hi => by
  have hiff := LineParses.kwz_iff i hi (by omega) w0
  have ih := LineParses.kinds w0 t K res H n (i + 1) (by omega) (by omega)
  rw [show K + (n + 1) + 1 = (K + n + 1) + 1 by omega, prebendref27_Parse.l0, if_pos (by omega), LineParses.word, Option.bind_some, wrap_nat i (by omega)]
  by_cases h1 : (kwz (i : Int)).toList = []
  ·have hne : kindOf w0 ≠ (i : Int) := fun hc => (hiff.2 hc).1 h1
   rw [if_pos h1]
   rw [show (if kindOf w0 < (i : Int) then kindOf w0 else 0) = (if kindOf w0 < ((i + 1 : Nat) : Int) then kindOf w0 else 0) by split <;> split <;> omega]
   exact ih
  ·rw [if_neg h1, Option.bind_some, if_pos (by simp <;> omega), show rdOf ByteArray.empty (w0 :: t) 0 = w0 from rfl]
   by_cases h2 : (kwz (i : Int)).toList = w0.toList
   ·have he := hiff.1 ⟨h1, h2⟩
    rw [if_pos h2]
    rw [he, if_pos (by omega)] at ih
    exact ih
   ·have hne : kindOf w0 ≠ (i : Int) := fun hc => h2 (hiff.2 hc).2
    rw [if_neg h2]
    rw [show (if kindOf w0 < (i : Int) then kindOf w0 else 0) = (if kindOf w0 < ((i + 1 : Nat) : Int) then kindOf w0 else 0) by split <;> split <;> omega]
    exact ih
/-! ### the loop over the words: it ends, and what it accepts is a command's words -/
def LineParses.Res (kind : Int) (ws : List ByteArray) (res : Int × ByteArray × ByteArray × List Int × Int) : Prop :=
 res = bad ∨ ∃ key name A, res = (kind, key, name, A, 0) ∧ kind ≠ 0 ∧ ws = kwz kind :: tailWords key name A ∧ (∀ a ∈ A, XLine.Fits a)
theorem LineParses.fin (ws : List ByteArray) (hl : ws.length ≤ 20000) (kind : Int) (key name : ByteArray) (A : List Int) (hA : ∀ a ∈ A, XLine.Fits a) (hAl : A.length ≤ 20002) (x8 : Int) (h8 : ¬ x8 < (ws.length : Int)) (k : Nat) (hk : 30000 ≤ k) :
  prebendref27_Parse.l1 (k + 1) ws x8 kind key name A = some (if kind ≠ 0 ∧ kwz kind :: tailWords key name A = ws then (kind, key, name, A, 0) else bad) := by
 have hc := tail_count key name A
 rw [prebendref27_Parse.l1, if_neg h8]
 by_cases h0 : kind = 0
 ·rw [if_pos h0, if_neg (fun h => h.1 h0)]; rfl
 ·rw [if_neg h0, LineParses.refwords kind key name A hA (by omega) k (by omega), Option.bind_some, LineParses.texts _ _ (by rw [List.length_cons]; omega) k (by rw [List.length_cons]; omega), Option.bind_some]
  by_cases h : kwz kind :: tailWords key name A = ws
  ·rw [if_pos (decide_eq_true h), if_pos ⟨h0, h⟩]
  ·rw [if_neg (by rw [decide_eq_false h]; decide), if_neg (fun hc => h hc.2)]; rfl
theorem LineParses.loop (ws : List ByteArray) (hl : ws.length ≤ 20000) (hw : ∀ w ∈ ws, w.size ≤ 4000) (kind : Int) : ∀ (n i : Nat) (key name : ByteArray) (A : List Int), ws.length ≤ i + n → 1 ≤ i → i ≤ 20002 → (∀ a ∈ A, XLine.Fits a) → A.length ≤ i →
  ∃ K res, prebendref27_Parse.l1 K ws (i : Nat) kind key name A = some res ∧ LineParses.Res kind ws res
 | n, i, key, name, A, hn, hi1, hi, hA, hAl => by
  by_cases hlt : (i : Int) < (ws.length : Int)
  ·match n with
   | 0 => omega
   | n + 1 =>
    have hget : i < ws.length := by omega
    have e1 : rdOf ByteArray.empty ws (i : Nat) = ws[i] := by unfold rdOf; simp [hget]
    have hz := hw ws[i] (List.getElem_mem hget)
    obtain ⟨K0, e0⟩ := LineParses.refnum ws[i] hz
    have hwp : wrap64 ((i : Int) - 1) = ((i - 1 : Nat) : Int) := by unfold wrap64; omega
    -- the ways on
    have up : ∀ {K K' : Nat} {x8 : Int} {ky nm : ByteArray} {B : List Int} {res : Int × ByteArray × ByteArray × List Int × Int}, K ≤ K' → prebendref27_Parse.l1 K ws x8 kind ky nm B = some res → prebendref27_Parse.l1 K' ws x8 kind ky nm B = some res := fun hk h => lift_le (f := fun k => prebendref27_Parse.l1 k ws _ kind _ _ _) (fun k => (prebendref27_Parse.mono_l k).2.2.1 _ _ _ _ _ _) h hk
    have j4 : ∀ b : Bool, (b = true → i + 1 < ws.length) → ∃ K res, prebendref27_Parse.j4 K ws (i : Nat) b kind key name A = some res ∧ LineParses.Res kind ws res := fun b hb => by
     obtain ⟨K1, r1, h1, g1⟩ := LineParses.loop ws hl hw kind n (i + 1) key name A (by omega) (by omega) (by omega) hA (by omega)
     by_cases hbt : b = true
     ·have := hb hbt
      obtain ⟨K2, r2, h2, g2⟩ := LineParses.loop ws hl hw kind n (i + 2) key (rdOf ByteArray.empty ws ((i + 1 : Nat) : Int)) A (by omega) (by omega) (by omega) hA (by omega)
      refine ⟨K2 + 1, r2, ?_, g2⟩
      rw [prebendref27_Parse.j4, if_pos hbt, wrap_nat i (by omega), if_pos (by omega), if_pos (by omega), wrap_nat (i + 1) (by omega)]
      exact h2
     ·rw [Bool.not_eq_true] at hbt
      subst hbt
      by_cases hkey : (rdOf ByteArray.empty ws (i : Nat)).toList = ([107, 101, 121] : List UInt8)
      ·by_cases hx : ((i + 1 : Nat) : Int) < (ws.length : Int)
       ·by_cases he : key.toList = ([] : List UInt8)
        ·obtain ⟨K2, r2, h2, g2⟩ := LineParses.loop ws hl hw kind n (i + 2) (rdOf ByteArray.empty ws ((i + 1 : Nat) : Int)) name A (by omega) (by omega) (by omega) hA (by omega)
         refine ⟨K2 + 1, r2, ?_, g2⟩
         rw [prebendref27_Parse.j4, if_neg (by decide), if_pos (by omega), if_pos hlt, if_pos hkey, wrap_nat i (by omega), if_pos hx, if_pos he, if_pos (by omega), wrap_nat (i + 1) (by omega)]
         exact h2
        ·refine ⟨K1 + 1, r1, ?_, g1⟩
         rw [prebendref27_Parse.j4, if_neg (by decide), if_pos (by omega), if_pos hlt, if_pos hkey, wrap_nat i (by omega), if_pos hx, if_neg he]
         exact h1
       ·refine ⟨K1 + 1, r1, ?_, g1⟩
        rw [prebendref27_Parse.j4, if_neg (by decide), if_pos (by omega), if_pos hlt, if_pos hkey, wrap_nat i (by omega), if_neg hx]
        exact h1
      ·refine ⟨K1 + 1, r1, ?_, g1⟩
       rw [prebendref27_Parse.j4, if_neg (by decide), if_pos (by omega), if_pos hlt, if_neg hkey, wrap_nat i (by omega)]
       exact h1
    have j3 : ∀ (b : Bool) (v : Int), (b = true → XLine.Fits v) → ∃ K res, prebendref27_Parse.j3 K ws (i : Nat) v b kind key name A = some res ∧ LineParses.Res kind ws res := fun b v hb => by
     by_cases hbt : b = true
     ·obtain ⟨K2, r2, h2, g2⟩ := LineParses.loop ws hl hw kind n (i + 1) key name (A ++ [v]) (by omega) (by omega) (by omega) (by
       intro a ha
       rcases List.mem_append.1 ha with ha | ha
       ·exact hA a ha
       ·rw [List.mem_singleton] at ha; rw [ha]; exact hb hbt) (by simp <;> omega)
      refine ⟨K2 + 1, r2, ?_, g2⟩
      rw [prebendref27_Parse.j3, if_pos hbt, if_pos (by omega), wrap_nat i (by omega)]
      exact h2
     ·by_cases hnm : (rdOf ByteArray.empty ws (i : Nat)).toList = ([110, 97, 109, 101] : List UInt8)
      ·by_cases hx : ((i + 1 : Nat) : Int) < (ws.length : Int)
       ·obtain ⟨K2, r2, h2, g2⟩ := j4 (name.toList == ([] : List UInt8)) (fun _ => by omega)
        refine ⟨K2 + 1, r2, ?_, g2⟩
        rw [prebendref27_Parse.j3, if_neg hbt, if_pos (by omega), if_pos hlt, if_pos hnm, wrap_nat i (by omega), if_pos hx]
        exact h2
       ·obtain ⟨K2, r2, h2, g2⟩ := j4 false (fun h => by cases h)
        refine ⟨K2 + 1, r2, ?_, g2⟩
        rw [prebendref27_Parse.j3, if_neg hbt, if_pos (by omega), if_pos hlt, if_pos hnm, wrap_nat i (by omega), if_neg hx]
        exact h2
      ·obtain ⟨K2, r2, h2, g2⟩ := j4 false (fun h => by cases h)
       refine ⟨K2 + 1, r2, ?_, g2⟩
       rw [prebendref27_Parse.j3, if_neg hbt, if_pos (by omega), if_pos hlt, if_neg hnm]
       exact h2
    have upj : ∀ {K K' : Nat} {v : Int} {b : Bool} {res : Int × ByteArray × ByteArray × List Int × Int}, K ≤ K' → prebendref27_Parse.j3 K ws (i : Nat) v b kind key name A = some res → prebendref27_Parse.j3 K' ws (i : Nat) v b kind key name A = some res := fun hk h => lift_le (f := fun k => prebendref27_Parse.j3 k ws _ _ _ kind _ _ _) (fun k => (prebendref27_Parse.mono_l k).2.2.2.1 _ _ _ _ _ _ _ _) h hk
    have fitsw : (numberP ws[i]).2 = true → XLine.Fits (numberP ws[i]).1 := numberP_fits ws[i]
    -- which way
    have step : ∀ (b : Bool), (b = true → XLine.Fits (numberP ws[i]).1) → (∀ k, prebendref26_Number.f k ws[i] = some (numberP ws[i]) → prebendref27_Parse.l1 (k + 1) ws (i : Nat) kind key name A = prebendref27_Parse.j3 k ws (i : Nat) (numberP ws[i]).1 b kind key name A) → ∃ K res, prebendref27_Parse.l1 K ws (i : Nat) kind key name A = some res ∧ LineParses.Res kind ws res := fun b hb hs => by
     obtain ⟨K2, r2, h2, g2⟩ := j3 b (numberP ws[i]).1 hb
     refine ⟨max K0 K2 + 1, r2, ?_, g2⟩
     rw [hs _ (lift_le (f := fun k => prebendref26_Number.f k ws[i]) (fun k => prebendref26_Number.mono _ k) e0 (Nat.le_max_left _ _))]
     exact upj (Nat.le_max_right _ _) h2
    by_cases hn2 : (numberP ws[i]).2 = true
    ·by_cases hnm : (rdOf ByteArray.empty ws ((i - 1 : Nat) : Int)).toList = ([110, 97, 109, 101] : List UInt8)
     ·exact step false (fun h => by cases h) (fun k h => by rw [prebendref27_Parse.l1, if_pos hlt, if_pos (by omega), e1, h, Option.bind_some, if_pos hn2, hwp, if_pos (by omega), if_pos (by omega), if_pos hnm])
     ·exact step ((rdOf ByteArray.empty ws ((i - 1 : Nat) : Int)).toList != ([107, 101, 121] : List UInt8)) (fun _ => fitsw hn2) (fun k h => by rw [prebendref27_Parse.l1, if_pos hlt, if_pos (by omega), e1, h, Option.bind_some, if_pos hn2, hwp, if_pos (by omega), if_pos (by omega), if_neg hnm])
    ·exact step false (fun h => by cases h) (fun k h => by rw [prebendref27_Parse.l1, if_pos hlt, if_pos (by omega), e1, h, Option.bind_some, if_neg hn2])
  ·refine ⟨30000 + 1, _, LineParses.fin ws hl kind key name A hA (by omega) i hlt 30000 (Nat.le_refl _), ?_⟩
   split
   ·rename_i h; exact .inr ⟨key, name, A, rfl, h.1, h.2.symm, hA⟩
   ·exact .inl rfl
/-! ### a command's words are read as it -/
theorem LineParses.numeral_inv (w : ByteArray) (h : (numberP w).2 = true) : w = numeral (numberP w).1 := by
 unfold numberP at h ⊢
 rcases hh : Lib.atoiAll w.data.toList with v | _ | _
 ·rw [hh] at h
  simp only at h ⊢
  split at h
  ·rename_i hc
   rw [if_pos hc]
   show w = ⟨(Lib.itoa v).toArray⟩
   rw [hc]
  ·simp at h
 ·rw [hh] at h; simp at h
 ·rw [hh] at h; simp at h
theorem LineParses.nums_inv : ∀ r : List ByteArray, r = (numsOf r).1.map numeral ++ (numsOf r).2
 | [] => rfl
 | w :: t => by
  have ih := LineParses.nums_inv t
  rw [numsOf]
  by_cases h : (numberP w).2 = true
  ·rw [if_pos h, List.map_cons, List.cons_append, ← LineParses.numeral_inv w h]
   simp only []
   rw [← ih]
  ·rw [if_neg h]; rfl
theorem LineParses.named_inv (nm : ByteArray) (r : List ByteArray) : r = opt nm (XLine.named nm r).1 ++ (XLine.named nm r).2 := by
 have h0 : opt nm (⟨#[]⟩ : ByteArray) = [] := by unfold opt; rw [if_pos (by decide +kernel)]
 match r with
 | [] => show _ = opt nm (⟨#[]⟩ : ByteArray) ++ []; rw [h0]; rfl
 | [a] => show _ = opt nm (⟨#[]⟩ : ByteArray) ++ [a]; rw [h0]; rfl
 | a :: b :: t =>
  rw [XLine.named]
  by_cases h : a.toList = nm.toList ∧ b.toList ≠ []
  ·rw [if_pos h]
   show _ = opt nm b ++ t
   unfold opt
   rw [if_neg h.2, toList_inj h.1]; rfl
  ·rw [if_neg h]
   show _ = opt nm (⟨#[]⟩ : ByteArray) ++ _
   rw [h0]; rfl
theorem LineParses.parse_inv (w0 : ByteArray) (t : List ByteArray) (hk : kindOf w0 ≠ 0) : parseW (w0 :: t, 0) = bad ∨ ∃ key name A, parseW (w0 :: t, 0) = (kindOf w0, key, name, A, 0) ∧ w0 :: t = kw (kindOf w0) :: tailWords key name A ∧ (∀ a ∈ A, XLine.Fits a) := by
 rw [parseW, if_pos rfl, if_neg hk, rest]
 split
 ·rename_i h
  refine .inr ⟨_, _, _, rfl, ?_, ?_⟩
  ·rw [(kind_valid w0 hk).2]
   congr 1
   have e1 := LineParses.nums_inv t
   have e2 := LineParses.named_inv nameB (numsOf t).2
   have e3 := LineParses.named_inv keyB (XLine.named nameB (numsOf t).2).2
   rw [h, List.append_nil] at e3
   unfold tailWords
   rw [← e3, ← e2, ← e1]
  ·exact (numsOf_ok (t.foldl (fun n w => n + w.size) 0 + 1000000000000) t (fun w hw => by
    have : ∀ (l : List ByteArray) (n : Nat), n ≤ l.foldl (fun n w => n + w.size) n ∧ (w ∈ l → w.size ≤ l.foldl (fun n w => n + w.size) n) := by
     intro l
     induction l with
     | nil => intro n; exact ⟨Nat.le_refl _, fun h => by simp at h⟩
     | cons x l ih =>
      intro n
      have h1 := ih (n + x.size)
      refine ⟨Nat.le_trans (Nat.le_add_right _ _) h1.1, fun h => ?_⟩
      rcases List.mem_cons.1 h with rfl | h
      ·exact Nat.le_trans (Nat.le_add_left _ _) h1.1
      ·exact h1.2 h
    have := (this t 0).2 hw
    omega)).1
 ·exact .inl rfl
theorem LineParses.kw_not_all : ∀ n : Fin 29, (kw (n.val : Int)).toList ≠ ([110, 97, 109, 101] : List UInt8) ∧ (kw (n.val : Int)).toList ≠ ([107, 101, 121] : List UInt8) := by decide +kernel
theorem LineParses.not_opt (kind : Int) (hv : Valid kind) (A : List Int) (hA : ∀ a ∈ A, XLine.Fits a) (w : ByteArray) (hw : w ∈ kw kind :: A.map numeral) : w.toList ≠ ([110, 97, 109, 101] : List UInt8) ∧ w.toList ≠ ([107, 101, 121] : List UInt8) := by
 rcases List.mem_cons.1 hw with rfl | hw
 ·have := LineParses.kw_not_all ⟨kind.toNat, by have := hv.1; have := hv.2.1; omega⟩
  simp only at this
  rwa [show ((kind.toNat : Nat) : Int) = kind by have := hv.1; omega] at this
 ·obtain ⟨a, ha, rfl⟩ := List.mem_map.1 hw
  have hn := number_of a (hA a ha)
  constructor
  ·intro hc
   have : numeral a = nameB := toList_inj (by rw [hc]; decide +kernel)
   rw [this] at hn
   have h2 := name_number
   rw [hn] at h2; cases h2
  ·intro hc
   have : numeral a = keyB := toList_inj (by rw [hc]; decide +kernel)
   rw [this] at hn
   have h2 := key_number
   rw [hn] at h2; cases h2
theorem LineParses.key3 (ws pre : List ByteArray) (kind : Int) (key name : ByteArray) (A : List Int) (hws : ws = pre ++ opt keyB key) (hall : ws = kwz kind :: tailWords key name A) (hk0 : kind ≠ 0) (hA : ∀ a ∈ A, XLine.Fits a) (hAl : A.length ≤ 20000) (hl : ws.length ≤ 20000) (hp : 1 ≤ pre.length) :
  ∃ K, prebendref27_Parse.l1 K ws (pre.length : Nat) kind ⟨#[]⟩ name A = some (kind, key, name, A, 0) := by
 by_cases h : key.toList = []
 ·have ho : opt keyB key = [] := by unfold opt; rw [if_pos h]
  rw [ho, List.append_nil] at hws
  have he := empty_of h
  refine ⟨30000 + 1, ?_⟩
  rw [LineParses.fin ws hl kind _ name A hA (by omega) _ (by rw [hws]; omega) 30000 (Nat.le_refl _), ← he, if_pos ⟨hk0, hall.symm⟩]
 ·have ho : opt keyB key = [keyB, key] := by unfold opt; rw [if_neg h]
  rw [ho] at hws
  have hlen : ws.length = pre.length + 2 := by rw [hws]; simp
  have r1 : rdOf ByteArray.empty ws (pre.length : Nat) = keyB := by rw [hws]; exact rd_at pre keyB [key]
  have r2 : rdOf ByteArray.empty ws ((pre.length + 1 : Nat) : Int) = key := by
   rw [hws, show pre ++ [keyB, key] = (pre ++ [keyB]) ++ key :: [] by simp, show pre.length + 1 = (pre ++ [keyB]).length by simp]
   exact rd_at _ key []
  obtain ⟨K0, e0⟩ := LineParses.refnum keyB (by decide)
  refine ⟨max K0 (30000 + 1 + 1 + 1) + 1, ?_⟩
  obtain ⟨k, hk, hk2, hk3⟩ : ∃ k, max K0 (30000 + 1 + 1 + 1) = k + 1 + 1 ∧ 30000 < k ∧ K0 ≤ k + 1 + 1 := ⟨max K0 (30000 + 1 + 1 + 1) - 2, by omega, by omega, by omega⟩
  rw [hk]
  have e0' : prebendref26_Number.f (k + 1 + 1) keyB = some (numberP keyB) := lift_le (f := fun k => prebendref26_Number.f k keyB) (fun k => prebendref26_Number.mono _ k) e0 hk3
  rw [prebendref27_Parse.l1, if_pos (by omega), if_pos (by omega), r1, e0', Option.bind_some, if_neg (by rw [key_number]; decide), prebendref27_Parse.j3, if_neg (by decide), if_pos (by omega), if_pos (by omega), r1, if_neg (by decide +kernel), prebendref27_Parse.j4, if_neg (by decide), if_pos (by omega), if_pos (by omega), r1, if_pos (by decide +kernel), wrap_nat _ (by omega), if_pos (by omega), if_pos (by decide +kernel), if_pos (by omega), r2, wrap_nat _ (by omega)]
  obtain ⟨k', hk'⟩ : ∃ k', k = k' + 1 := ⟨k - 1, by omega⟩
  rw [hk', LineParses.fin ws hl kind key name A hA (by omega) _ (by omega) k' (by omega), if_pos ⟨hk0, hall.symm⟩]
theorem LineParses.name2 (ws pre : List ByteArray) (kind : Int) (key name : ByteArray) (A : List Int) (hws : ws = pre ++ (opt nameB name ++ opt keyB key)) (hall : ws = kwz kind :: tailWords key name A) (hk0 : kind ≠ 0) (hA : ∀ a ∈ A, XLine.Fits a) (hAl : A.length ≤ 20000) (hl : ws.length ≤ 20000) (hp : 1 ≤ pre.length) :
  ∃ K, prebendref27_Parse.l1 K ws (pre.length : Nat) kind ⟨#[]⟩ ⟨#[]⟩ A = some (kind, key, name, A, 0) := by
 by_cases h : name.toList = []
 ·have ho : opt nameB name = [] := by unfold opt; rw [if_pos h]
  rw [ho, List.nil_append] at hws
  have := LineParses.key3 ws pre kind key name A hws hall hk0 hA hAl hl hp
  rw [empty_of h] at this ⊢
  exact this
 ·have ho : opt nameB name = [nameB, name] := by unfold opt; rw [if_neg h]
  rw [ho] at hws
  have hlen : ws.length = pre.length + 2 + (opt keyB key).length := by rw [hws]; simp; omega
  have r1 : rdOf ByteArray.empty ws (pre.length : Nat) = nameB := by rw [hws]; exact rd_at pre nameB (name :: opt keyB key)
  have r2 : rdOf ByteArray.empty ws ((pre.length + 1 : Nat) : Int) = name := by
   rw [hws, show pre ++ ([nameB, name] ++ opt keyB key) = (pre ++ [nameB]) ++ name :: opt keyB key by simp, show pre.length + 1 = (pre ++ [nameB]).length by simp]
   exact rd_at _ name _
  obtain ⟨K1, e1⟩ := LineParses.key3 ws (pre ++ [nameB, name]) kind key name A (by rw [hws]; simp) hall hk0 hA hAl hl (by simp)
  rw [show (pre ++ [nameB, name]).length = pre.length + 2 by simp] at e1
  obtain ⟨K0, e0⟩ := LineParses.refnum nameB (by decide)
  refine ⟨max K0 K1 + 1 + 1 + 1, ?_⟩
  have e0' : prebendref26_Number.f (max K0 K1 + 1 + 1) nameB = some (numberP nameB) := lift_le (f := fun k => prebendref26_Number.f k nameB) (fun k => prebendref26_Number.mono _ k) e0 (by omega)
  rw [prebendref27_Parse.l1, if_pos (by omega), if_pos (by omega), r1, e0', Option.bind_some, if_neg (by rw [name_number]; decide), prebendref27_Parse.j3, if_neg (by decide), if_pos (by omega), if_pos (by omega), r1, if_pos (by decide +kernel), wrap_nat _ (by omega), if_pos (by omega), prebendref27_Parse.j4, if_pos (by decide +kernel), wrap_nat _ (by omega), if_pos (by omega), if_pos (by omega), r2, wrap_nat _ (by omega)]
  exact lift_le (f := fun k => prebendref27_Parse.l1 k ws ((pre.length + 1 + 1 : Nat) : Int) kind ⟨#[]⟩ name A) (fun k => (prebendref27_Parse.mono_l k).2.2.1 _ _ _ _ _ _) e1 (by omega)
theorem LineParses.nums1 (ws : List ByteArray) (kind : Int) (hv : Valid kind) (key name : ByteArray) (A : List Int) (hall : ws = kwz kind :: tailWords key name A) (hk0 : kind ≠ 0) (hA : ∀ a ∈ A, XLine.Fits a) (hAl : A.length ≤ 20000) (hl : ws.length ≤ 20000) :
  ∀ (b a : List Int), a ++ b = A → ∃ K, prebendref27_Parse.l1 K ws ((a.length + 1 : Nat) : Int) kind ⟨#[]⟩ ⟨#[]⟩ a = some (kind, key, name, A, 0)
 | [], a, h => by
  rw [List.append_nil] at h
  subst h
  have := LineParses.name2 ws (kwz kind :: a.map numeral) kind key name a (by rw [hall]; rfl) hall hk0 hA hAl hl (by simp)
  rwa [show (kwz kind :: a.map numeral).length = a.length + 1 by simp] at this
 | v :: b, a, h => by
  subst h
  obtain ⟨K1, e1⟩ := LineParses.nums1 ws kind hv key name (a ++ v :: b) hall hk0 hA hAl hl b (a ++ [v]) (by simp)
  rw [show (a ++ [v]).length = a.length + 1 by simp] at e1
  have hw : ws = (kwz kind :: a.map numeral) ++ numeral v :: (b.map numeral ++ (opt nameB name ++ opt keyB key)) := by rw [hall]; unfold tailWords; simp
  have hlen : ws.length = a.length + 1 + (1 + (b.map numeral ++ (opt nameB name ++ opt keyB key)).length) := by rw [hw]; simp; omega
  have r1 : rdOf ByteArray.empty ws ((a.length + 1 : Nat) : Int) = numeral v := by
   rw [hw, show a.length + 1 = (kwz kind :: a.map numeral).length by simp]
   exact rd_at _ _ _
  have hpm : rdOf ByteArray.empty ws (a.length : Nat) ∈ kw kind :: (a ++ v :: b).map numeral := by
   have hj : a.length < (kwz kind :: a.map numeral).length := by simp
   unfold rdOf
   rw [hw, Int.toNat_natCast, List.getD_eq_getElem?_getD, List.getElem?_append_left hj, List.getElem?_eq_getElem hj]
   show (kwz kind :: a.map numeral)[a.length] ∈ _
   have hm := List.getElem_mem hj
   rw [kwz_valid hv] at hm ⊢
   rcases List.mem_cons.1 hm with hm | hm
   ·rw [hm]; simp
   ·exact List.mem_cons_of_mem _ (by rw [List.map_append]; exact List.mem_append_left _ hm)
  obtain ⟨p1, p2⟩ := LineParses.not_opt kind hv (a ++ v :: b) hA _ hpm
  have hfv := hA v (by simp)
  have hz := numeral_size v hfv
  obtain ⟨K0, e0⟩ := LineParses.refnum (numeral v) (by omega)
  refine ⟨max K0 K1 + 1 + 1, ?_⟩
  have e0' : prebendref26_Number.f (max K0 K1 + 1) (numeral v) = some (v, true) := by
   rw [← number_of v hfv]
   exact lift_le (f := fun k => prebendref26_Number.f k (numeral v)) (fun k => prebendref26_Number.mono _ k) e0 (by omega)
  have hal : a.length ≤ 20000 := by rw [List.length_append] at hAl; omega
  rw [prebendref27_Parse.l1, if_pos (by omega), if_pos (by omega), r1, e0', Option.bind_some, if_pos rfl, show wrap64 (((a.length + 1 : Nat) : Int) - 1) = ((a.length : Nat) : Int) by unfold wrap64; omega, if_pos (by omega), if_pos (by omega), if_neg p1, prebendref27_Parse.j3, if_pos (bne_iff_ne.2 p2), if_pos (by omega), wrap_nat _ (by omega)]
  exact lift_le (f := fun k => prebendref27_Parse.l1 k ws ((a.length + 1 + 1 : Nat) : Int) kind ⟨#[]⟩ ⟨#[]⟩ (a ++ [v])) (fun k => (prebendref27_Parse.mono_l k).2.2.1 _ _ _ _ _ _) e1 (by omega)
theorem LineParses.refparse (s : ByteArray) (hs : s.size ≤ 400) (ws : List ByteArray) (e : Int) (hw : text_Words.f s = some (ws, e)) (hl : ws.length ≤ 2000) (hz : ∀ w ∈ ws, w.size ≤ 400) : ∃ K, prebendref27_Parse.f K s = some (parseW (ws, e)) := by
 obtain ⟨K0, e0⟩ := LineParses.ref s (by omega) (ws, e) hw
 have up : ∀ (K : Nat) (b : Bool) (res : Int × ByteArray × ByteArray × List Int × Int), (e = 0 → ((ws.length : Int) == 0) = b) → (e ≠ 0 → b = true) → prebendref27_Parse.j0 K ws b = some res → ∃ K, prebendref27_Parse.f K s = some res := fun K b res h1 h2 h => by
  refine ⟨max K0 K, ?_⟩
  have e0' : prebendref26_Words.f (max K0 K) s = some (ws, e) := lift_le (f := fun k => prebendref26_Words.f k s) (fun k => prebendref26_Words.mono _ k) e0 (Nat.le_max_left _ _)
  have h' : prebendref27_Parse.j0 (max K0 K) ws b = some res := lift_le (f := fun k => prebendref27_Parse.j0 k ws b) (fun k => (prebendref27_Parse.mono_l k).1 _ _) h (Nat.le_max_right _ _)
  unfold prebendref27_Parse.f
  rw [e0', Option.bind_some]
  by_cases he : e = 0
  ·rw [if_pos he, h1 he]; exact h'
  ·rw [if_neg he, ← h2 he]; exact h'
 by_cases he : e = 0
 ·match ws, hl, hz, up with
  | [], hl, hz, up => exact up 1 true _ (fun _ => rfl) (fun h => absurd he h) (by rw [prebendref27_Parse.j0, if_pos rfl]; rfl)
  | w0 :: t, hl, hz, up =>
   subst he
   obtain ⟨K1, res, e1, hr⟩ := LineParses.loop (w0 :: t) (by omega) (fun w hm => by have := hz w hm; omega) (kindOf w0) (w0 :: t).length 1 ⟨#[]⟩ ⟨#[]⟩ [] (by omega) (by omega) (by omega) (by intro a ha; simp at ha) (by simp)
   have e2 := LineParses.kinds w0 t K1 res e1 28 1 rfl (Nat.le_refl _)
   rw [show (if kindOf w0 < ((1 : Nat) : Int) then kindOf w0 else 0) = 0 by
    by_cases h0 : kindOf w0 = 0
    ·rw [h0]; rfl
    ·have h1 := (kind_valid w0 h0).1.1
     rw [if_neg (by omega)]] at e2
   have e3 : prebendref27_Parse.j0 (K1 + 28 + 1 + 1) (w0 :: t) false = some res := by
    rw [prebendref27_Parse.j0, if_neg (by decide)]; exact e2
   have hres : res = parseW (w0 :: t, 0) := by
    rcases hr with hb | ⟨key, name, A, hb, hk0, hws, hA⟩
    ·by_cases h0 : kindOf w0 = 0
     ·rw [hb, parseW, if_pos rfl, if_pos h0]
     ·rcases LineParses.parse_inv w0 t h0 with hp | ⟨key, name, A, hp, hws, hA⟩
      ·rw [hb, hp]
      ·exfalso
       have hv := (kind_valid w0 h0).1
       have hcount : A.length ≤ 2000 := by
        have := congrArg List.length hws
        unfold tailWords at this
        simp at this
        rw [List.length_cons] at hl
        omega
       obtain ⟨K2, e4⟩ := LineParses.nums1 (w0 :: t) (kindOf w0) hv key name A (by rw [kwz_valid hv]; exact hws) h0 hA (by omega) (by omega) A [] rfl
       have a1 := lift_le (f := fun k => prebendref27_Parse.l1 k (w0 :: t) 1 (kindOf w0) ⟨#[]⟩ ⟨#[]⟩ []) (fun k => (prebendref27_Parse.mono_l k).2.2.1 _ _ _ _ _ _) e1 (Nat.le_max_left K1 K2)
       have a2 := lift_le (f := fun k => prebendref27_Parse.l1 k (w0 :: t) 1 (kindOf w0) ⟨#[]⟩ ⟨#[]⟩ []) (fun k => (prebendref27_Parse.mono_l k).2.2.1 _ _ _ _ _ _) e4 (Nat.le_max_right K1 K2)
       rw [a1, hb] at a2
       have := congrArg (fun x => x.2.2.2.2) (Option.some.inj a2)
       exact absurd (show (11 : Int) = 0 from this) (by decide)
    ·have hv := (kind_valid w0 hk0).1
     rw [hb, hws, kwz_valid hv, parse_back _ key name A hv hA]
   rw [← hres]
   exact up _ false res (fun _ => by simp <;> omega) (fun h => absurd rfl h) e3
 ·refine up 1 true _ (fun h => absurd h he) (fun _ => rfl) ?_
  rw [prebendref27_Parse.j0, if_pos rfl]
  match ws with
  | [] => rfl
  | w0 :: t => rw [parseW, if_neg he]; rfl
theorem LineParses.j0 (s : ByteArray) (hs : s.size ≤ 400) : ∃ K, prebendlaw27_LineParses.j0 K s = some true := by
 obtain ⟨ws, e, hw, hc, hz⟩ := words_ok s (by omega)
 obtain ⟨K0, e0⟩ := LineParses.refparse s hs ws e hw (by omega) (fun w hm => by have := hz w hm; omega)
 refine ⟨max K0 10000 + 1, ?_⟩
 have e0' : prebendref27_Parse.f (max K0 10000) s = some (parseW (ws, e)) := lift_le (f := fun k => prebendref27_Parse.f k s) (fun k => prebendref27_Parse.mono _ k) e0 (Nat.le_max_left _ _)
 have hp : line_Parse.f (max K0 10000) s = some (parseW (ws, e)) := LineParses.parse s ws e hw (by omega) (fun w hm => by have := hz w hm; omega) _ (by omega)
 have hlen : (parseW (ws, e)).2.2.2.1.length ≤ 2000 := by
  rcases parseW_ok s.size ws e hz with hb | ⟨kind, key, name, A, hb, _, _, _, _, h3⟩
  ·rw [hb]; exact Nat.zero_le _
  ·rw [hb]; show A.length ≤ 2000; omega
 rw [prebendlaw27_LineParses.j0, hp, Option.bind_some, e0', Option.bind_some, LineParses.awake _ (by omega), Option.bind_some, if_pos rfl, LineParses.same _ _ _ _ (by omega) _ (by omega), Option.bind_some, if_pos rfl]
 simp
theorem LineParses : prebendlaw27_LineParses.Pure := by
 intro s _
 by_cases h : (s.size : Int) > 400
 ·obtain ⟨K, e⟩ := LineParses.j0 (s.extract 0 400) (by rw [ByteArray.size_extract]; omega)
  refine ⟨K, ?_⟩
  unfold prebendlaw27_LineParses.f
  rw [if_pos h, if_pos (by omega), if_pos (by omega)]
  exact e
 ·obtain ⟨K, e⟩ := LineParses.j0 s (by omega)
  refine ⟨K, ?_⟩
  unfold prebendlaw27_LineParses.f
  rw [if_neg h]
  exact e
end Go.Proofs.YtkenihkjdbdlkaaDoor.Pure
