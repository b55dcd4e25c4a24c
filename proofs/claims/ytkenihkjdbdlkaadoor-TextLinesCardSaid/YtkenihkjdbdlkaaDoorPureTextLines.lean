import Derived.Test.YtkenihkjdbdlkaaDoorQTextLinesx5
import Derived.Test.YtkenihkjdbdlkaaDoorXNumP
namespace Go.Proofs.YtkenihkjdbdlkaaDoor.Pure
open Go.RowKit Go.Proofs.YtkenihkjdbdlkaaDoor.QTextLines Go.Proofs.YtkenihkjdbdlkaaDoorW.PrintWords Go.Proofs.YtkenihkjdbdlkaaDoorW.PrintLast XEsc XPlain XQuote XLines XWordsP XCut XNumber XNumP
set_option linter.unusedVariables false
theorem TextLines.awake_5 : prebendlaw26_awake.f 5 = some true := by decide +kernel
theorem TextLines.awake (k : Nat) (h : 5 ≤ k) : prebendlaw26_awake.f k = some true := lift_le prebendlaw26_awake.mono TextLines.awake_5 h
theorem TextLines.short (a : ByteArray) : ∃ t, prebendlaw26_short.f a = some t ∧ t.size ≤ 400 := by
  unfold prebendlaw26_short.f
  by_cases h : (a.size : Int) > 400
  · rw [if_pos h, if_pos (by omega), if_pos (by omega)]
    exact ⟨_, rfl, by rw [ByteArray.size_extract]; omega⟩
  · rw [if_neg h]; exact ⟨_, rfl, by omega⟩
theorem TextLines.texts0 (x : List ByteArray) (hx : x.length ≤ 4611686018427387904) : ∀ (n i : Nat), i + n = x.length → prebendref26_Texts.l0 (n + 1) x x i = some true
  | 0, i, h => by rw [prebendref26_Texts.l0, if_neg (by omega)]
  | n + 1, i, h => by
    rw [prebendref26_Texts.l0, if_pos (by omega), if_pos (by omega), if_pos (by omega), if_pos rfl, wrap_nat i (by omega)]
    exact TextLines.texts0 x hx n (i + 1) (by omega)
theorem TextLines.texts (x : List ByteArray) (hx : x.length ≤ 4611686018427387904) (k : Nat) (h : x.length + 1 ≤ k) : prebendref26_Texts.f k x x = some true :=
  lift_le (f := fun k => prebendref26_Texts.f k x x) (fun k => prebendref26_Texts.mono x x k) (n := x.length + 1) (by
    show prebendref26_Texts.f (x.length + 1) x x = some true
    unfold prebendref26_Texts.f
    rw [if_pos rfl]
    exact TextLines.texts0 x hx x.length 0 (by omega)) h

theorem TextLines.hex (c : Int) (h : Byte c) (k : Nat) : prebendref26_hex.f (k + 1) c = some (hexv c) := by
  unfold Byte at h
  unfold prebendref26_hex.f hexv
  by_cases h1 : c ≥ 48
  · rw [if_pos h1, prebendref26_hex.j0]
    by_cases h2 : c ≤ 57
    · rw [decide_eq_true h2, if_pos rfl, if_pos (by omega)]
      exact congrArg some (by omega)
    · rw [decide_eq_false h2, if_neg (by decide), if_neg (show ¬ (48 ≤ c ∧ c ≤ 57) by omega)]
      by_cases h3 : c ≥ 97
      · by_cases h4 : c ≤ 102
        · rw [if_pos h3, if_pos h4, if_pos (show 97 ≤ c ∧ c ≤ 102 by omega)]
          exact congrArg some (by omega)
        · rw [if_pos h3, if_neg h4, if_neg (show ¬ (97 ≤ c ∧ c ≤ 102) by omega)]
      · rw [if_neg h3, if_neg (show ¬ (97 ≤ c ∧ c ≤ 102) by omega)]
  · rw [if_neg h1, prebendref26_hex.j0, if_neg (by decide), if_neg (show ¬ (c ≥ 97) by omega), if_neg (show ¬ (48 ≤ c ∧ c ≤ 57) by omega), if_neg (show ¬ (97 ≤ c ∧ c ≤ 102) by omega)]
theorem TextLines.close_some (s : ByteArray) (hs : s.size ≤ 4000) : ∀ (n i : Nat), s.size ≤ i + n → i ≤ 4002 → ∃ t : Int, prebendref26_close.l0 (n + 1) s (i : Nat) = some t ∧ (t = -1 ∨ (∃ j : Nat, t = j ∧ i ≤ j ∧ j < s.size))
  | 0, i, h, h2 => ⟨-1, by rw [prebendref26_close.l0, if_neg (by omega)], .inl rfl⟩
  | n + 1, i, h, h2 => by
    rw [prebendref26_close.l0]
    by_cases hi : (i : Int) < (s.size : Int)
    · rw [if_pos hi, if_pos (by omega), wrap_nat i (by omega), wrap_nat (i + 1) (by omega)]
      by_cases h92 : bt s (i : Nat) = 92
      · rw [if_pos h92]
        obtain ⟨t, e, ht⟩ := TextLines.close_some s hs n (i + 2) (by omega) (by omega)
        refine ⟨t, e, ?_⟩
        rcases ht with ht | ⟨j, e, a, b⟩
        · exact .inl ht
        · exact .inr ⟨j, e, by omega, b⟩
      · rw [if_neg h92]
        by_cases h34 : bt s (i : Nat) = 34
        · rw [if_pos h34]; exact ⟨_, rfl, .inr ⟨i, rfl, by omega, by omega⟩⟩
        · rw [if_neg h34]
          obtain ⟨t, e, ht⟩ := TextLines.close_some s hs n (i + 1) (by omega) (by omega)
          refine ⟨t, e, ?_⟩
          rcases ht with ht | ⟨j, e, a, b⟩
          · exact .inl ht
          · exact .inr ⟨j, e, by omega, b⟩
    · rw [if_neg hi]; exact ⟨-1, rfl, .inl rfl⟩
theorem TextLines.close_mono (s : ByteArray) (i : Int) (k : Nat) : LeO (prebendref26_close.l0 k s i) (prebendref26_close.l0 (k + 1) s i) := prebendref26_close.mono_l k s i
theorem TextLines.close_at (s : ByteArray) (hs : s.size ≤ 4000) (rest : List Int) : ∀ (w : List Int), (∀ c ∈ w, Byte c) → ∀ (i : Nat), (bl s).drop i = w.flatMap q1 ++ 34 :: rest → ∃ K, prebendref26_close.l0 K s (i : Nat) = some ((i + (w.flatMap q1).length : Nat) : Int)
  | [], _, i, h => by
    obtain ⟨a, b, _⟩ := at_cons h
    exact ⟨1, by rw [prebendref26_close.l0, if_pos (by omega), if_pos (by omega), if_neg (by omega), if_pos b]; rfl⟩
  | c :: w, hb, i, h => by
    have hc : Byte c := hb c (by simp)
    unfold Byte at hc
    rw [List.flatMap_cons, List.append_assoc] at h
    rw [List.flatMap_cons, List.length_append]
    have hw : ∀ d ∈ w, Byte d := fun d hd => hb d (by simp [hd])
    by_cases h1 : c = 34 ∨ c = 92
    · rw [show q1 c = [92, c] by unfold q1; rw [if_pos h1]] at h ⊢
      obtain ⟨a1, b1, h1⟩ := at_cons h
      obtain ⟨a2, b2, h2⟩ := at_cons h1
      obtain ⟨K, e⟩ := TextLines.close_at s hs rest w hw (i + 2) h2
      refine ⟨K + 1, ?_⟩
      rw [prebendref26_close.l0, if_pos (by omega), if_pos (by omega), if_pos b1, wrap_nat i (by omega), wrap_nat (i + 1) (by omega), e]
      exact congrArg some (by simp only [List.length_cons, List.length_nil]; omega)
    · by_cases h2 : 32 ≤ c ∧ c ≤ 126
      · rw [show q1 c = [c] by unfold q1; rw [if_neg h1, if_pos h2]] at h ⊢
        obtain ⟨a1, b1, h1⟩ := at_cons h
        obtain ⟨K, e⟩ := TextLines.close_at s hs rest w hw (i + 1) h1
        refine ⟨K + 1, ?_⟩
        rw [prebendref26_close.l0, if_pos (by omega), if_pos (by omega), if_neg (by omega), if_neg (by omega), wrap_nat i (by omega), e]
        exact congrArg some (by simp only [List.length_cons, List.length_nil]; omega)
      · have r1 := hexd_range (c / 16) (by omega)
        have r2 := hexd_range (c % 16) (by omega)
        have n1 : hexd (c / 16) ≠ 92 ∧ hexd (c / 16) ≠ 34 := by unfold hexd; split <;> omega
        have n2 : hexd (c % 16) ≠ 92 ∧ hexd (c % 16) ≠ 34 := by unfold hexd; split <;> omega
        rw [show q1 c = [92, 120, hexd (c / 16), hexd (c % 16)] by unfold q1; rw [if_neg h1, if_neg h2]] at h ⊢
        obtain ⟨a1, b1, h1⟩ := at_cons h
        obtain ⟨a2, b2, h2⟩ := at_cons h1
        obtain ⟨a3, b3, h3⟩ := at_cons h2
        obtain ⟨a4, b4, h4⟩ := at_cons h3
        obtain ⟨K, e⟩ := TextLines.close_at s hs rest w hw (i + 4) h4
        refine ⟨K + 1 + 1 + 1, ?_⟩
        rw [prebendref26_close.l0, if_pos (by omega), if_pos (by omega), if_pos b1, wrap_nat i (by omega), wrap_nat (i + 1) (by omega)]
        rw [prebendref26_close.l0, if_pos (by omega), if_pos (by omega), if_neg (by rw [b3]; exact n1.1), if_neg (by rw [b3]; exact n1.2), wrap_nat (i + 1 + 1) (by omega)]
        rw [prebendref26_close.l0, if_pos (by omega), if_pos (by omega), if_neg (by rw [b4]; exact n2.1), if_neg (by rw [b4]; exact n2.2), wrap_nat (i + 1 + 1 + 1) (by omega), e]
        exact congrArg some (by simp only [List.length_cons, List.length_nil]; omega)
theorem TextLines.plain_some (s : ByteArray) (hs : s.size ≤ 4000) : ∀ (n i : Nat) (x : List Int), s.size ≤ i + n → x.length ≤ i → i ≤ 4004 → ∃ t, prebendref26_plain.l0 (2 * n + 3) s x (i : Nat) = some t ∧ t.size ≤ 4004
  | 0, i, x, h, hx, hi => ⟨_, by rw [prebendref26_plain.l0, if_neg (by omega)], by rw [nums_size]; omega⟩
  | n + 1, i, x, h, hx, hi => by
    rw [show 2 * (n + 1) + 3 = (2 * n + 3) + 1 + 1 by omega]
    have up : ∀ (m : Nat) (y : List Int), s.size ≤ m + n → y.length ≤ m → m ≤ 4004 → ∃ t, prebendref26_plain.l0 (2 * n + 3 + 1) s y (m : Nat) = some t ∧ t.size ≤ 4004 := fun m y h1 h2 h3 => by
      obtain ⟨t, e, z⟩ := TextLines.plain_some s hs n m y h1 h2 h3
      exact ⟨t, (prebendref26_plain.mono_l (2 * n + 3)).1 s y m t e, z⟩
    rw [prebendref26_plain.l0]
    by_cases hlt : (i : Int) < (s.size : Int)
    · rw [if_pos hlt, if_pos (by omega), wrap_nat i (by omega), wrap2 i (by omega), wrap3 i (by omega)]
      by_cases h92 : bt s (i : Nat) = 92
      · rw [if_pos h92]
        have jf : ∃ t, prebendref26_plain.j1 (2 * n + 3 + 1) s x (i : Nat) false = some t ∧ t.size ≤ 4004 := by
          rw [prebendref26_plain.j1, if_neg (by decide), wrap_nat i (by omega), wrap_nat (i + 1) (by omega)]
          by_cases h1 : ((i + 1 : Nat) : Int) < (s.size : Int)
          · rw [if_pos h1, if_pos (by omega), if_pos (by omega)]
            exact TextLines.plain_some s hs n (i + 2) _ (by omega) (by simp; omega) (by omega)
          · rw [if_neg h1]
            exact TextLines.plain_some s hs n (i + 1) _ (by omega) (by omega) (by omega)
        by_cases h3 : ((i + 3 : Nat) : Int) < (s.size : Int)
        · rw [if_pos h3, if_pos (by omega), if_pos (by omega)]
          by_cases h120 : bt s ((i + 1 : Nat) : Int) = 120
          · rw [if_pos h120, if_pos (by omega), if_pos (by omega), TextLines.hex _ (bt_range _ _), Option.bind_some]
            split
            · rw [if_pos (by omega), TextLines.hex _ (bt_range _ _), Option.bind_some]
              by_cases hd : hexv (bt s ((i + 3 : Nat) : Int)) ≥ 0
              · rw [decide_eq_true hd, prebendref26_plain.j1, if_pos rfl, wrap2 i (by omega), wrap3 i (by omega), if_pos (by omega), if_pos (by omega), TextLines.hex _ (bt_range _ _), Option.bind_some, if_pos (by omega), if_pos (by omega), TextLines.hex _ (bt_range _ _), Option.bind_some, if_pos (by omega), wrap_nat (i + 3) (by omega)]
                exact TextLines.plain_some s hs n (i + 4) _ (by omega) (by simp; omega) (by omega)
              · rw [decide_eq_false hd]; exact jf
            · exact jf
          · rw [if_neg h120]; exact jf
        · rw [if_neg h3]; exact jf
      · rw [if_neg h92, if_pos (by omega)]
        exact up (i + 1) _ (by omega) (by simp; omega) (by omega)
    · rw [if_neg hlt]; exact ⟨_, rfl, by rw [nums_size]; omega⟩
theorem TextLines.plain_at (s : ByteArray) (hs : s.size ≤ 4000) : ∀ (w : List Int), (∀ c ∈ w, Byte c) → ∀ (i : Nat) (x : List Int), x.length ≤ i → (bl s).drop i = w.flatMap q1 → ∃ K, prebendref26_plain.l0 (K + 1) s x (i : Nat) = some (strOfNums (x ++ w))
  | [], _, i, x, hx, h => by
    have := at_nil h
    exact ⟨0, by rw [prebendref26_plain.l0, if_neg (by omega), List.append_nil]⟩
  | c :: w, hb, i, x, hx, h => by
    have hc : Byte c := hb c (by simp)
    unfold Byte at hc
    rw [List.flatMap_cons] at h
    rw [show x ++ c :: w = (x ++ [c]) ++ w by simp]
    have hw : ∀ d ∈ w, Byte d := fun d hd => hb d (by simp [hd])
    by_cases h1 : c = 34 ∨ c = 92
    · rw [show q1 c = [92, c] by unfold q1; rw [if_pos h1]] at h
      obtain ⟨a1, b1, h1'⟩ := at_cons h
      obtain ⟨a2, b2, h2'⟩ := at_cons h1'
      obtain ⟨K, e⟩ := TextLines.plain_at s hs w hw (i + 2) (x ++ [c]) (by simp; omega) h2'
      refine ⟨K + 1 + 1, ?_⟩
      have jf : prebendref26_plain.j1 (K + 1 + 1) s x (i : Nat) false = some (strOfNums (x ++ [c] ++ w)) := by
        rw [prebendref26_plain.j1, if_neg (by decide), wrap_nat i (by omega), wrap_nat (i + 1) (by omega), if_pos (by omega), if_pos (by omega), if_pos (by omega), b2]
        exact e
      rw [prebendref26_plain.l0, if_pos (by omega), if_pos (by omega), if_pos b1, wrap_nat i (by omega), wrap3 i (by omega), b2, if_neg (show ¬ c = 120 by omega), jf]
      split
      · rw [if_pos (by omega), if_pos (by omega)]
      · rfl
    · by_cases h2 : 32 ≤ c ∧ c ≤ 126
      · rw [show q1 c = [c] by unfold q1; rw [if_neg h1, if_pos h2]] at h
        obtain ⟨a1, b1, h1'⟩ := at_cons h
        obtain ⟨K, e⟩ := TextLines.plain_at s hs w hw (i + 1) (x ++ [c]) (by simp; omega) h1'
        refine ⟨K + 1, ?_⟩
        rw [prebendref26_plain.l0, if_pos (by omega), if_pos (by omega), if_neg (by omega), if_pos (by omega), wrap_nat i (by omega), b1]
        exact e
      · have e1 := hexv_hexd (c / 16) (by omega)
        have e2 := hexv_hexd (c % 16) (by omega)
        rw [show q1 c = [92, 120, hexd (c / 16), hexd (c % 16)] by unfold q1; rw [if_neg h1, if_neg h2]] at h
        obtain ⟨a1, b1, h1'⟩ := at_cons h
        obtain ⟨a2, b2, h2'⟩ := at_cons h1'
        obtain ⟨a3, b3, h3'⟩ := at_cons h2'
        obtain ⟨a4, b4, h4'⟩ := at_cons h3'
        obtain ⟨K, e⟩ := TextLines.plain_at s hs w hw (i + 4) (x ++ [c]) (by simp; omega) h4'
        refine ⟨K + 1 + 1 + 1, ?_⟩
        have e' := (prebendref26_plain.mono_l (K + 1)).1 _ _ _ _ e
        have t3 : hexv (bt s ((i + 2 : Nat) : Int)) = c / 16 := by rw [show i + 2 = i + 1 + 1 from rfl, b3, e1]
        have t4 : hexv (bt s ((i + 3 : Nat) : Int)) = c % 16 := by rw [show i + 3 = i + 1 + 1 + 1 from rfl, b4, e2]
        rw [prebendref26_plain.l0, if_pos (by omega), if_pos (by omega), if_pos b1, wrap_nat i (by omega), wrap2 i (by omega), wrap3 i (by omega), if_pos (by omega), if_pos (by omega), if_pos (by omega), if_pos b2, if_pos (by omega), if_pos (by omega), TextLines.hex _ (bt_range _ _), Option.bind_some, t3, if_pos (by omega), if_pos (by omega), TextLines.hex _ (bt_range _ _), Option.bind_some, t4, decide_eq_true (by omega)]
        rw [prebendref26_plain.j1, if_pos rfl, wrap2 i (by omega), wrap3 i (by omega), if_pos (by omega), if_pos (by omega), TextLines.hex _ (bt_range _ _), Option.bind_some, t3, if_pos (by omega), if_pos (by omega), TextLines.hex _ (bt_range _ _), Option.bind_some, t4, if_pos (by omega), wrap_nat (i + 3) (by omega)]
        rw [show (wrap64 (wrap64 (16 * (c / 16)) + c % 16)) % 256 = c by unfold wrap64; omega]
        exact e'
theorem TextLines.bare (c : Int) : prebendref26_bare.f c = some (bareI c) := by
  have e : (32 < c) = (c ≥ 33) := propext (by omega)
  unfold prebendref26_bare.f bareI
  simp only [e]
  by_cases h1 : c ≥ 33 <;> by_cases h2 : c ≤ 126 <;> by_cases h3 : c = 34 <;> by_cases h4 : c = 92 <;> simp [h1, h2, h3, h4, bne]
theorem TextLines.run (s : ByteArray) (hs : s.size ≤ 4000) (out : List ByteArray) (i : Int) : ∀ (tw rest : List Int) (j : Nat), (bl s).drop j = tw ++ rest → (∀ c ∈ tw, bareI c = true) → (rest = [] ∨ ∃ c r, rest = c :: r ∧ bareI c = false) → ∀ K, prebendref26_Words.l1 (K + tw.length + 1) s out i (j : Nat) = prebendref26_Words.j2 K s out i ((j + tw.length : Nat) : Int)
  | [], rest, j, h, _, hr, K => by
    rw [List.nil_append] at h
    rcases hr with rfl | ⟨c, r, rfl, hc⟩
    · have := at_nil h
      rw [prebendref26_Words.l1, if_neg (by omega)]; rfl
    · obtain ⟨a, b, _⟩ := at_cons h
      rw [prebendref26_Words.l1, if_pos (by omega), if_pos (by omega), TextLines.bare, b, hc, Option.bind_some, if_neg (by decide)]; rfl
  | c :: tw, rest, j, h, hb, hr, K => by
    obtain ⟨a, b, h'⟩ := at_cons h
    rw [prebendref26_Words.l1, if_pos (by omega), if_pos (by omega), TextLines.bare, b, hb c (by simp), Option.bind_some, if_pos rfl, wrap_nat j (by omega)]
    have := TextLines.run s hs out i tw rest (j + 1) h' (fun d hd => hb d (by simp [hd])) hr K
    rw [show K + (c :: tw).length = K + tw.length + 1 by rw [List.length_cons]; omega, this]
    congr 1
    rw [List.length_cons]; omega
def TextLines.Good (s : ByteArray) (N : Nat) : Prop := ∀ n, n ≤ N → ∀ (out : List ByteArray) (i : Nat) (res : List ByteArray × Int), out.length ≤ i → i ≤ s.size → bw n out ((bl s).drop i) = some res → ∃ K, prebendref26_Words.l0 K s out (i : Nat) = some res
theorem TextLines.tail (s : ByteArray) (N : Nat) (H : TextLines.Good s N) (m : Nat) (hm : m ≤ N + 1) (out : List ByteArray) (w : List Int) (j : Nat) (res : List ByteArray × Int) (ho : out.length + 1 ≤ j) (hj : j ≤ s.size) (h : ed m out w ((bl s).drop j) = some res) :
    ∃ K, ∀ k, K ≤ k → (if (j : Int) < (s.size : Int) then (if 0 ≤ (j : Int) then (if bt s (j : Nat) = 32 then prebendref26_Words.l0 k s (out ++ [strOfNums w]) (j : Nat) else some ([], 11)) else none) else prebendref26_Words.l0 k s (out ++ [strOfNums w]) (j : Nat)) = some res := by
  match m with
  | 0 => simp [ed] at h
  | m + 1 =>
    rcases hd : (bl s).drop j with _ | ⟨c, r⟩
    · rw [hd] at h
      simp only [ed] at h
      have := at_nil hd
      obtain ⟨K, e⟩ := H m (by omega) (out ++ [strOfNums w]) j res (by simp; omega) hj (by rw [hd]; exact h)
      exact ⟨K, fun k hk => by rw [if_neg (by omega)]; exact lift_le (f := fun k => prebendref26_Words.l0 k s (out ++ [strOfNums w]) (j : Nat)) (fun k => (prebendref26_Words.mono_l k).1 _ _ _) e hk⟩
    · rw [hd] at h
      simp only [ed] at h
      obtain ⟨a, b, _⟩ := at_cons hd
      by_cases hc : c = 32
      · rw [if_pos hc] at h
        obtain ⟨K, e⟩ := H m (by omega) (out ++ [strOfNums w]) j res (by simp; omega) hj (by rw [hd]; exact h)
        exact ⟨K, fun k hk => by rw [if_pos (by omega), if_pos (by omega), if_pos (by rw [b]; exact hc)]; exact lift_le (f := fun k => prebendref26_Words.l0 k s (out ++ [strOfNums w]) (j : Nat)) (fun k => (prebendref26_Words.mono_l k).1 _ _ _) e hk⟩
      · rw [if_neg hc] at h
        exact ⟨0, fun k _ => by rw [if_pos (by omega), if_pos (by omega), if_neg (by rw [b]; exact hc)]; exact h⟩
theorem TextLines.inS (t : ByteArray) (h : t.size ≤ 1099511627776) : prebendref26_In.f t = some (strOfNums (34 :: (bl t).flatMap q1 ++ [34])) := by
  show XIn.inS t = _
  unfold XIn.inS
  rw [if_pos h]
theorem TextLines.quoted (s : ByteArray) (hs : s.size ≤ 4000) (N : Nat) (H : TextLines.Good s N) (n : Nat) (hn : n ≤ N) (out : List ByteArray) (i : Nat) (r : List Int) (res : List ByteArray × Int) (ho : out.length ≤ i) (hd : (bl s).drop i = 34 :: r) (h : qt n out [] r = some res) : ∃ K, prebendref26_Words.l0 K s out (i : Nat) = some res := by
  obtain ⟨a, b, hr⟩ := at_cons hd
  have hb : ∀ d ∈ r, Byte d := fun d hx => byte_bl s d (List.mem_of_mem_drop (by rw [hr]; exact hx))
  have hl := bl_length s
  by_cases hdec : ∃ (w' rest : List Int), (∀ c ∈ w', Byte c) ∧ r = w'.flatMap q1 ++ 34 :: rest
  · obtain ⟨w', rest, hw, he⟩ := hdec
    obtain ⟨m, hm, hed⟩ := qt_dec rest out res w' hw n [] (by rw [← he]; exact h)
    rw [List.nil_append] at hed
    have hr2 : (bl s).drop (i + 1) = w'.flatMap q1 ++ 34 :: rest := by rw [hr, he]
    obtain ⟨Kc, ec⟩ := TextLines.close_at s hs rest w' hw (i + 1) hr2
    obtain ⟨L, hL⟩ : ∃ L, L = (w'.flatMap q1).length := ⟨_, rfl⟩
    rw [← hL] at ec
    have hj : (bl s).drop (i + 1 + L) = 34 :: rest := by rw [← List.drop_drop, hr2, hL, List.drop_left]
    obtain ⟨aj, bj, hj1⟩ := at_cons hj
    have hcont : bl (s.extract (i + 1) (i + 1 + L)) = w'.flatMap q1 := by
      rw [bl_extract, List.drop_take, hr2, show i + 1 + L - (i + 1) = L by omega, hL, List.take_left]
    have hall : s.extract i (i + 1 + L + 1) = strOfNums (34 :: w'.flatMap q1 ++ [34]) := by
      rw [← strOfNums_bl (s.extract i (i + 1 + L + 1))]
      congr 1
      rw [bl_extract, List.drop_take, hd, he, show i + 1 + L + 1 - i = L + 1 + 1 by omega, List.take_succ_cons, hL, List.cons_append]
      congr 1
      rw [show (w'.flatMap q1 ++ 34 :: rest) = (w'.flatMap q1 ++ [34]) ++ rest by simp, List.take_left' (by simp)]
    obtain ⟨Kp, ep⟩ := TextLines.plain_at (s.extract (i + 1) (i + 1 + L)) (by rw [ByteArray.size_extract]; omega) w' hw 0 [] (by simp) (by rw [List.drop_zero]; exact hcont)
    rw [List.nil_append] at ep
    obtain ⟨Kt, et⟩ := TextLines.tail s N H m (by omega) out w' (i + 1 + L + 1) res (by omega) (by omega) (by rw [hj1]; exact hed)
    refine ⟨max Kc (max (Kp + 1) Kt) + 1, ?_⟩
    have c1 : Kc ≤ max Kc (max (Kp + 1) Kt) := Nat.le_max_left _ _
    have c2 : Kp + 1 ≤ max Kc (max (Kp + 1) Kt) := Nat.le_trans (Nat.le_max_left _ _) (Nat.le_max_right _ _)
    have c3 : Kt ≤ max Kc (max (Kp + 1) Kt) := Nat.le_trans (Nat.le_max_right _ _) (Nat.le_max_right _ _)
    generalize max Kc (max (Kp + 1) Kt) = K at *
    have e1 : prebendref26_close.f K s (i : Nat) = some ((i + 1 + L : Nat) : Int) := by
      unfold prebendref26_close.f
      rw [wrap_nat i (by omega)]
      exact lift_le (f := fun k => prebendref26_close.l0 k s ((i + 1 : Nat) : Int)) (fun k => TextLines.close_mono _ _ k) ec c1
    have e2 : prebendref26_plain.f K (s.extract (i + 1) (i + 1 + L)) = some (strOfNums w') :=
      lift_le (f := fun k => prebendref26_plain.l0 k (s.extract (i + 1) (i + 1 + L)) [] 0) (fun k => (prebendref26_plain.mono_l k).1 _ _ _) ep c2
    have hsz : (strOfNums w').size ≤ 1099511627776 := by
      rw [nums_size]
      have := flat_ge w'
      omega
    rw [prebendref26_Words.l0, if_pos (by omega), if_pos (by omega), if_neg (by omega), if_neg (by omega), if_pos b, e1, Option.bind_some, if_neg (by omega), wrap_nat i (by omega), if_pos (by omega), if_pos (by omega), if_pos (by omega), Int.toNat_natCast, Int.toNat_natCast, e2, Option.bind_some, TextLines.inS _ hsz, Option.bind_some, wrap_nat (i + 1 + L) (by omega), if_pos (by omega), if_pos (by omega), Int.toNat_natCast, Int.toNat_natCast, hall, bl_strOfNums w' hw, if_pos rfl, if_pos (by omega), Option.bind_some]
    exact et K c3
  · have hres : res = ([], 11) := (qt_neg out res n [] r hb h).resolve_left hdec
    obtain ⟨t, ct, ht⟩ := TextLines.close_some s hs s.size (i + 1) (by omega) (by omega)
    rcases ht with rfl | ⟨j, rfl, h1, h2⟩
    · refine ⟨s.size + 1 + 1, ?_⟩
      have e1 : prebendref26_close.f (s.size + 1) s (i : Nat) = some (-1) := by
        unfold prebendref26_close.f
        rw [wrap_nat i (by omega)]; exact ct
      rw [prebendref26_Words.l0, if_pos (by omega), if_pos (by omega), if_neg (by omega), if_neg (by omega), if_pos b, e1, Option.bind_some, if_pos (by decide), hres]
    · obtain ⟨q, eq, hq⟩ := TextLines.plain_some (s.extract (i + 1) j) (by rw [ByteArray.size_extract]; omega) s.size 0 [] (by rw [ByteArray.size_extract]; omega) (by simp) (by omega)
      refine ⟨2 * s.size + 3 + 1, ?_⟩
      have e1 : prebendref26_close.f (2 * s.size + 3) s (i : Nat) = some (j : Int) := by
        unfold prebendref26_close.f
        rw [wrap_nat i (by omega)]
        exact lift_le (f := fun k => prebendref26_close.l0 k s ((i + 1 : Nat) : Int)) (fun k => TextLines.close_mono _ _ k) ct (by omega)
      have e2 : prebendref26_plain.f (2 * s.size + 3) (s.extract (i + 1) j) = some q := eq
      rw [prebendref26_Words.l0, if_pos (by omega), if_pos (by omega), if_neg (by omega), if_neg (by omega), if_pos b, e1, Option.bind_some, if_neg (by omega), wrap_nat i (by omega), if_pos (by omega), if_pos (by omega), if_pos (by omega), Int.toNat_natCast, Int.toNat_natCast, e2, Option.bind_some, TextLines.inS q (by omega), Option.bind_some, wrap_nat j (by omega), if_pos (by omega), if_pos (by omega), Int.toNat_natCast, Int.toNat_natCast, if_neg, hres]
      intro hc
      have hc := congrArg bl (toList_inj hc)
      rw [bl_strOfNums, bl_extract] at hc
      · apply hdec
        refine ⟨bl q, (bl s).drop (j + 1), byte_bl q, ?_⟩
        have e3 : (bl s).drop i = ((bl s).take (j + 1)).drop i ++ (bl s).drop (j + 1) := by
          rw [← List.drop_append_of_le_length (by rw [List.length_take]; omega), List.take_append_drop]
        rw [← hc, hd] at e3
        simp only [List.cons_append, List.cons.injEq, true_and, List.append_assoc, List.nil_append] at e3
        exact e3
      · intro d hx
        simp only [List.cons_append, List.mem_cons, List.mem_append, List.mem_flatMap, List.not_mem_nil, or_false] at hx
        rcases hx with rfl | ⟨c, hc, hx⟩ | rfl
        · omega
        · have := q1_range c (byte_bl q c hc) d hx; omega
        · omega
theorem TextLines.good (s : ByteArray) (hs : s.size ≤ 4000) : ∀ N, TextLines.Good s N
  | 0 => fun n hn out i res _ _ h => by rw [show n = 0 by omega] at h; simp [bw] at h
  | N + 1 => fun n hn out i res ho hi h => by
    have H := TextLines.good s hs N
    match n with
    | 0 => simp [bw] at h
    | n + 1 =>
      rcases hd : (bl s).drop i with _ | ⟨c, r⟩
      · rw [hd] at h
        simp only [bw, Option.some.injEq] at h
        have := at_nil hd
        exact ⟨1, by rw [prebendref26_Words.l0, if_neg (by omega), h]⟩
      · obtain ⟨a, b, hr⟩ := at_cons hd
        rw [hd] at h
        simp only [bw] at h
        by_cases h32 : c = 32
        · rw [if_pos h32] at h
          obtain ⟨K, e⟩ := H n (by omega) out (i + 1) res (by omega) (by omega) (by rw [hr]; exact h)
          exact ⟨K + 1, by rw [prebendref26_Words.l0, if_pos (by omega), if_pos (by omega), if_pos (by rw [b]; exact h32), wrap_nat i (by omega)]; exact e⟩
        · rw [if_neg h32] at h
          by_cases h35 : c = 35
          · rw [if_pos h35] at h
            exact ⟨1, by rw [prebendref26_Words.l0, if_pos (by omega), if_pos (by omega), if_neg (by rw [b]; exact h32), if_pos (by rw [b]; exact h35)]; exact h⟩
          · rw [if_neg h35] at h
            by_cases h34 : c = 34
            · rw [if_pos h34] at h
              subst h34
              exact TextLines.quoted s hs N H n (by omega) out i r res ho hd h
            · rw [if_neg h34] at h
              have hsplit : (bl s).drop i = (c :: r).takeWhile bareI ++ (c :: r).dropWhile bareI := by rw [List.takeWhile_append_dropWhile, hd]
              have hrun := TextLines.run s hs out (i : Nat) _ _ i hsplit (fun d hx => tw_all _ _ d hx) (dw_head _ _)
              have start : ∀ K, prebendref26_Words.l0 (K + ((c :: r).takeWhile bareI).length + 1 + 1) s out (i : Nat) = prebendref26_Words.j2 K s out (i : Nat) ((i + ((c :: r).takeWhile bareI).length : Nat) : Int) := fun K => by
                rw [prebendref26_Words.l0, if_pos (by omega), if_pos (by omega), if_neg (by rw [b]; exact h32), if_neg (by rw [b]; exact h35), if_neg (by rw [b]; exact h34)]
                exact hrun K
              generalize (c :: r).takeWhile bareI = tw at *
              generalize (c :: r).dropWhile bareI = dw at *
              by_cases ht : tw = []
              · rw [if_pos ht] at h
                refine ⟨1 + tw.length + 1 + 1, ?_⟩
                rw [start, prebendref26_Words.j2, if_pos (by rw [ht]; rfl)]
                exact h
              · rw [if_neg ht] at h
                have hp : 0 < tw.length := List.length_pos_iff.2 ht
                have hlen : i + tw.length ≤ s.size := by
                  have := congrArg List.length hsplit
                  rw [List.length_drop, List.length_append, bl_length] at this
                  omega
                have hj : (bl s).drop (i + tw.length) = dw := by rw [← List.drop_drop, hsplit, List.drop_left]
                obtain ⟨Kt, et⟩ := TextLines.tail s N H n (by omega) out tw (i + tw.length) res (by omega) hlen (by rw [hj]; exact h)
                have hx : s.extract i (i + tw.length) = strOfNums tw := by
                  rw [← strOfNums_bl (s.extract i (i + tw.length)), bl_extract, List.drop_take, hsplit, show i + tw.length - i = tw.length by omega, List.take_left]
                refine ⟨Kt + 1 + tw.length + 1 + 1, ?_⟩
                rw [start, prebendref26_Words.j2, if_neg (by omega), if_pos (by omega), if_pos (by omega), if_pos (by omega), if_pos (by omega), Int.toNat_natCast, Int.toNat_natCast, hx, Option.bind_some]
                exact et Kt (Nat.le_refl _)
theorem TextLines.count : ∀ k : Nat, (∀ out l res, bw k out l = some res → res.1.length ≤ out.length + k) ∧ (∀ out w l res, qt k out w l = some res → res.1.length ≤ out.length + k) ∧ (∀ out w l res, ed k out w l = some res → res.1.length ≤ out.length + k)
  | 0 => ⟨fun _ _ _ h => by simp [bw] at h, fun _ _ _ _ h => by simp [qt] at h, fun _ _ _ _ h => by simp [ed] at h⟩
  | k + 1 => by
    have ih := TextLines.count k
    have e0 : ∀ (out : List ByteArray) (res : List ByteArray × Int), some (([] : List ByteArray), (11 : Int)) = some res → res.1.length ≤ out.length + (k + 1) := fun out res h => by
      rw [← Option.some.inj h]; simp
    have e1 : ∀ (out : List ByteArray) (res : List ByteArray × Int), some (out, (0 : Int)) = some res → res.1.length ≤ out.length + (k + 1) := fun out res h => by
      rw [← Option.some.inj h]; simp
    refine ⟨fun out l res h => ?_, fun out w l res h => ?_, fun out w l res h => ?_⟩
    · match l with
      | [] => simp only [bw] at h; exact e1 _ _ h
      | c :: r =>
        simp only [bw] at h
        split at h
        · have := ih.1 _ _ _ h; omega
        · split at h
          · exact e1 _ _ h
          · split at h
            · have := ih.2.1 _ _ _ _ h; omega
            · split at h
              · exact e0 _ _ h
              · have := ih.2.2 _ _ _ _ h; omega
    · match l with
      | [] => simp only [qt] at h; exact e0 _ _ h
      | c :: r =>
        rw [qt_step] at h
        split at h
        · exact e0 _ _ h
        · split at h
          · have := ih.2.2 _ _ _ _ h; omega
          · split at h
            · split at h
              · exact e0 _ _ h
              · have := ih.2.1 _ _ _ _ h; omega
            · have := ih.2.1 _ _ _ _ h; omega
    · match l with
      | [] => simp only [ed] at h; have := ih.1 _ _ _ h; simp at this; omega
      | c :: r =>
        simp only [ed] at h
        split at h
        · have := ih.1 _ _ _ h; simp at this; omega
        · exact e0 _ _ h
theorem TextLines.words_len (s : ByteArray) (hs : s.size ≤ 4000) (r : List ByteArray × Int) (h : XWords.words s = some r) : r.1.length ≤ 17000 := by
  have h2 : XWordsP.words s = some r := h
  unfold XWordsP.words at h2
  rw [if_pos (by omega)] at h2
  have := (TextLines.count _).1 _ _ _ h2
  simp at this
  omega
/-- The reference's words are the words. -/
theorem TextLines.ref (s : ByteArray) (hs : s.size ≤ 4000) (r : List ByteArray × Int) (h : XWords.words s = some r) : ∃ K, prebendref26_Words.f K s = some r := by
  have h2 : XWordsP.words s = some r := h
  unfold XWordsP.words at h2
  rw [if_pos (by omega)] at h2
  exact TextLines.good s hs _ _ (Nat.le_refl _) [] 0 r (by simp) (by omega) (by rw [List.drop_zero]; exact h2)

theorem TextLines.u64 (n : Int) : IntKind.u64.wrap n = n % 18446744073709551616 := IntKind.wrap_u64 n
theorem TextLines.numl (a : Int) : ∀ (n u : Nat) (x : ByteArray), u < 10 ^ (n + 1) → u < 18446744073709551616 → x.size + n ≤ 100 → ∃ t, prebendref26_Num.l0 (n + 1) a (u : Nat) x = some t ∧ bl t = (if a < 0 then [45] else []) ++ dI u ++ bl x
  | n, u, x, h, hu, hx => by
    by_cases h9 : (u : Int) > 9
    · match n with
      | 0 => simp at h; omega
      | n + 1 =>
        have hd : dI u = dI (u / 10) ++ [48 + (u : Int) % 10] := dI_step (by omega)
        have e1 : (IntKind.u64.wrap (48 + Int.tmod (u : Int) 10)) % 256 = 48 + (u : Int) % 10 := by rw [TextLines.u64, Int.tmod_eq_emod_of_nonneg (by omega)]; omega
        have e2 : IntKind.u64.wrap (Int.tdiv (u : Int) 10) = ((u / 10 : Nat) : Int) := by rw [TextLines.u64, Int.tdiv_eq_ediv_of_nonneg (by omega)]; omega
        have z : (strOfNums [48 + (u : Int) % 10]).size = 1 := nums_size _
        obtain ⟨t, e, hb⟩ := TextLines.numl a n (u / 10) (strOfNums [48 + (u : Int) % 10] ++ x) (by rw [Nat.pow_succ] at h; omega) (by omega) (by rw [ByteArray.size_append]; omega)
        refine ⟨t, ?_, ?_⟩
        · rw [prebendref26_Num.l0, if_pos h9, e1, e2, Option.bind_some, if_pos (by omega)]; exact e
        · rw [hb, hd, bl_append, bl_strOfNums _ (by intro c hc; rw [List.mem_singleton] at hc; omega)]
          simp
    · have hd : dI u = [48 + (u : Int)] := dI_small (by omega)
      have e1 : (IntKind.u64.wrap (48 + (u : Int))) % 256 = 48 + (u : Int) := by rw [TextLines.u64]; omega
      have z : (strOfNums [48 + (u : Int)]).size = 1 := nums_size _
      rw [prebendref26_Num.l0, if_neg h9, e1, Option.bind_some, if_pos (by omega)]
      have hb : bl (strOfNums [48 + (u : Int)] ++ x) = dI u ++ bl x := by
        rw [hd, bl_append, bl_strOfNums _ (by intro c hc; rw [List.mem_singleton] at hc; omega)]
      by_cases ha : a < 0
      · rw [if_pos ha, if_pos (by rw [ByteArray.size_append]; omega)]
        refine ⟨_, rfl, ?_⟩
        rw [bl_append, hb, if_pos ha, show bl (⟨#[45]⟩ : ByteArray) = [45] by decide +kernel, List.append_assoc]
      · rw [if_neg ha]
        refine ⟨_, rfl, ?_⟩
        rw [hb, if_neg ha]; rfl
theorem TextLines.num (a : Int) (h : -9223372036854775808 ≤ a ∧ a ≤ 9223372036854775807) (k : Nat) (hk : 22 ≤ k) : prebendref26_Num.f k a = some (numeral a) := by
  refine lift_le (f := fun k => prebendref26_Num.f k a) (fun k => prebendref26_Num.mono a k) (n := 22) ?_ hk
  show prebendref26_Num.f 22 a = _
  unfold prebendref26_Num.f
  by_cases ha : a < 0
  · have e : IntKind.u64.wrap (-(IntKind.u64.wrap a)) = ((a.natAbs : Nat) : Int) := by rw [TextLines.u64, TextLines.u64]; omega
    obtain ⟨t, e2, hb⟩ := TextLines.numl a 20 a.natAbs ⟨#[]⟩ (by omega) (by omega) (by decide)
    rw [if_pos ha, prebendref26_Num.j0, e, e2]
    congr 1
    apply bl_inj
    rw [hb, bl_numeral, if_pos ha, if_pos ha, show bl (⟨#[]⟩ : ByteArray) = [] by decide +kernel]
    simp
  · have e : IntKind.u64.wrap a = ((a.toNat : Nat) : Int) := by rw [TextLines.u64]; omega
    obtain ⟨t, e2, hb⟩ := TextLines.numl a 20 a.toNat ⟨#[]⟩ (by omega) (by omega) (by decide)
    rw [if_neg ha, prebendref26_Num.j0, e, e2]
    congr 1
    apply bl_inj
    rw [hb, bl_numeral, if_neg ha, if_neg ha, show bl (⟨#[]⟩ : ByteArray) = [] by decide +kernel]
    simp
def TextLines.Fits (v : Int) : Prop := -9223372036854775808 ≤ v ∧ v ≤ 9223372036854775807
def TextLines.Says (s : ByteArray) (r : Int × Bool) : Prop := r = (0, false) ∨ ∃ v : Int, TextLines.Fits v ∧ r = (v, true) ∧ s = numeral v
theorem TextLines.wrapFits (n : Int) : TextLines.Fits (wrap64 n) := by unfold TextLines.Fits wrap64; omega
/-- The value's sign as the text has it. -/
def TextLines.val (s : ByteArray) (n : Int) : Int := if bt s 0 = 45 then wrap64 (-(wrap64 n)) else wrap64 n
theorem TextLines.val_fits (s : ByteArray) (n : Int) : TextLines.Fits (TextLines.val s n) := by unfold TextLines.val; split <;> exact TextLines.wrapFits _
theorem TextLines.numend (s : ByteArray) (hp : 0 < s.size) (n : Int) (k : Nat) (hk : 22 ≤ k) : prebendref26_Number.l0 (k + 1) s n (s.size : Nat) = (if s = numeral (TextLines.val s n) then some (TextLines.val s n, true) else some (0, false)) := by
  have hf := TextLines.val_fits s n
  unfold TextLines.Fits at hf
  rw [prebendref26_Number.l0, if_neg (by omega), if_pos (by omega)]
  unfold TextLines.val at *
  by_cases h : bt s 0 = 45
  · rw [if_pos h] at hf
    simp only [if_pos h]
    rw [TextLines.num _ hf k hk, Option.bind_some]
    by_cases hs : s = numeral (wrap64 (-(wrap64 n)))
    · rw [if_pos hs, if_pos (by rw [← hs])]
    · rw [if_neg hs, if_neg (fun hc => hs (toList_inj hc).symm)]
  · rw [if_neg h] at hf
    simp only [if_neg h]
    rw [TextLines.num _ hf k hk, Option.bind_some]
    by_cases hs : s = numeral (wrap64 n)
    · rw [if_pos hs, if_pos (by rw [← hs])]
    · rw [if_neg hs, if_neg (fun hc => hs (toList_inj hc).symm)]
theorem TextLines.numsome (s : ByteArray) (hp : 0 < s.size) (hs : s.size ≤ 4000) : ∀ (m i : Nat) (n : Int), i + m = s.size → ∃ r, prebendref26_Number.l0 (2 * m + 23) s n (i : Nat) = some r ∧ TextLines.Says s r
  | 0, i, n, h => by
    rw [show i = s.size by omega, TextLines.numend s hp n 22 (Nat.le_refl _)]
    split
    · rename_i hc; exact ⟨_, rfl, .inr ⟨_, TextLines.val_fits s n, rfl, hc⟩⟩
    · exact ⟨_, rfl, .inl rfl⟩
  | m + 1, i, n, h => by
    have hj : ∀ b : Bool, ∃ r, prebendref26_Number.j2 (2 * m + 23 + 1) s n (i : Nat) b = some r ∧ TextLines.Says s r := fun b => by
      rw [prebendref26_Number.j2, wrap_nat i (by omega)]
      by_cases hb : b = true
      · rw [if_pos hb]; exact TextLines.numsome s hp hs m (i + 1) _ (by omega)
      · rw [if_neg hb, if_pos (by omega), if_pos (by omega)]
        split
        · exact ⟨_, rfl, .inl rfl⟩
        · split
          · exact ⟨_, rfl, .inl rfl⟩
          · exact TextLines.numsome s hp hs m (i + 1) _ (by omega)
    rw [show 2 * (m + 1) + 23 = (2 * m + 23 + 1) + 1 by omega, prebendref26_Number.l0, if_pos (by omega)]
    by_cases h0 : (i : Int) = 0
    · rw [if_pos h0, if_pos (by omega)]; exact hj _
    · rw [if_neg h0]; exact hj _
theorem TextLines.numrun (s : ByteArray) (hs : s.size ≤ 4000) (res : Int × Bool) : ∀ (ds : List Int) (i : Nat) (n : Int), (bl s).drop i = ds → (∀ c ∈ ds, 48 ≤ c ∧ c ≤ 57) → 0 ≤ n → fv n ds < 18446744073709551616 →
    (∃ K, prebendref26_Number.l0 K s (fv n ds) ((i + ds.length : Nat) : Int) = some res) → ∃ K, prebendref26_Number.l0 K s n (i : Nat) = some res
  | [], i, n, h, hd, hn, hv, he => he
  | c :: ds, i, n, h, hd, hn, hv, he => by
    obtain ⟨a, b, h'⟩ := at_cons h
    have hc := hd c (by simp)
    have hg := fv_ge ds (n * 10 + (c - 48)) (fun d hx => hd d (by simp [hx])) (by omega)
    rw [fv] at hv he
    obtain ⟨K, e⟩ := TextLines.numrun s hs res ds (i + 1) (n * 10 + (c - 48)) h' (fun d hx => hd d (by simp [hx])) (by omega) hv (by
      rw [List.length_cons, show i + (ds.length + 1) = i + 1 + ds.length by omega] at he; exact he)
    have hw : IntKind.u64.wrap ((IntKind.u64.wrap (n * 10)) + ((c - 48) % 256)) = n * 10 + (c - 48) := by rw [TextLines.u64, TextLines.u64]; omega
    have hj : prebendref26_Number.j2 (K + 1) s n (i : Nat) false = some res := by
      rw [prebendref26_Number.j2, if_neg (by decide), if_pos (by omega), if_pos (by omega), b, if_neg (by omega), if_neg (by omega), hw, wrap_nat i (by omega), e]
    refine ⟨K + 1 + 1, ?_⟩
    rw [prebendref26_Number.l0, if_pos (by omega)]
    by_cases h0 : (i : Int) = 0
    · rw [if_pos h0, if_pos (by omega), b, show (c == 45) = false by simp; omega]; exact hj
    · rw [if_neg h0]; exact hj
theorem TextLines.numback (v : Int) (hv : TextLines.Fits v) : ∃ K, prebendref26_Number.l0 K (numeral v) 0 0 = some (v, true) := by
  unfold TextLines.Fits at hv
  have hz := numeral_size v hv
  have hb := bl_numeral v
  have hlen := bl_length (numeral v)
  by_cases h : v < 0
  · rw [if_pos h] at hb
    have h0 : (bl (numeral v)).drop 0 = 45 :: dI v.natAbs := by rw [List.drop_zero, hb]
    obtain ⟨a, b, h1⟩ := at_cons h0
    rw [show ((0 : Nat) : Int) = 0 from rfl] at b
    have hval : TextLines.val (numeral v) ((v.natAbs : Nat) : Int) = v := by
      unfold TextLines.val
      rw [if_pos b]
      unfold wrap64; omega
    obtain ⟨K, e⟩ := TextLines.numrun (numeral v) (by omega) (v, true) (dI v.natAbs) 1 0 h1 (dI_range _) (by omega) (by rw [fv_dI]; omega) (by
      refine ⟨22 + 1, ?_⟩
      rw [fv_dI, show 1 + (dI v.natAbs).length = (numeral v).size by rw [← hlen, hb, List.length_cons]; omega, TextLines.numend _ hz.1 _ 22 (Nat.le_refl _), hval, if_pos rfl])
    refine ⟨K + 1 + 1, ?_⟩
    rw [prebendref26_Number.l0, if_pos (by omega), if_pos rfl, if_pos (by omega), show (bt (numeral v) 0 == 45) = true by simpa using b, prebendref26_Number.j2, if_pos rfl, show wrap64 (0 + 1) = ((1 : Nat) : Int) by unfold wrap64; rfl]
    exact e
  · rw [if_neg h] at hb
    have h0 : (bl (numeral v)).drop 0 = dI v.toNat := by rw [List.drop_zero, hb]
    have hne : ¬ bt (numeral v) 0 = 45 := by
      have hr := dI_range v.toNat
      have hp := dI_pos v.toNat
      match hd : dI v.toNat with
      | [] => rw [hd] at hp; simp at hp
      | c :: r =>
        rw [hd] at h0 hr
        obtain ⟨_, b, _⟩ := at_cons h0
        have := hr c (by simp)
        rw [show ((0 : Nat) : Int) = 0 from rfl] at b
        omega
    have hval : TextLines.val (numeral v) ((v.toNat : Nat) : Int) = v := by
      unfold TextLines.val
      rw [if_neg hne]
      unfold wrap64; omega
    exact TextLines.numrun (numeral v) (by omega) (v, true) (dI v.toNat) 0 0 h0 (dI_range _) (by omega) (by rw [fv_dI]; omega) (by
      refine ⟨22 + 1, ?_⟩
      rw [fv_dI, show 0 + (dI v.toNat).length = (numeral v).size by rw [← hlen, hb]; omega, TextLines.numend _ hz.1 _ 22 (Nat.le_refl _), hval, if_pos rfl])
/-- The reference's number is the number. -/
theorem TextLines.refnum (s : ByteArray) (hs : s.size ≤ 4000) : ∃ K, prebendref26_Number.f K s = some (numberP s) := by
  by_cases h0 : (s.size : Int) < 1
  · refine ⟨2, ?_⟩
    unfold prebendref26_Number.f
    rw [if_pos h0, prebendref26_Number.j0, if_pos rfl, number_no]
    intro v hv hc
    have := numeral_size v hv
    rw [hc] at h0; omega
  · by_cases h20 : (s.size : Int) > 20
    · refine ⟨2, ?_⟩
      unfold prebendref26_Number.f
      rw [if_neg h0, decide_eq_true h20, prebendref26_Number.j0, if_pos rfl, number_no]
      intro v hv hc
      have := numeral_size v hv
      rw [hc] at h20; omega
    · obtain ⟨r, e, hr⟩ := TextLines.numsome s (by omega) hs s.size 0 0 (by omega)
      have up : ∀ (K : Nat) (r : Int × Bool), prebendref26_Number.l0 K s 0 0 = some r → prebendref26_Number.f (K + 1) s = some r := fun K r h => by
        unfold prebendref26_Number.f
        rw [if_neg h0, decide_eq_false h20, prebendref26_Number.j0, if_neg (by decide)]; exact h
      by_cases hx : ∃ v, TextLines.Fits v ∧ s = numeral v
      · obtain ⟨v, hv, rfl⟩ := hx
        obtain ⟨K, e2⟩ := TextLines.numback v hv
        exact ⟨K + 1, by rw [up K _ e2, number_of v hv]⟩
      · rcases hr with rfl | ⟨v, hv, rfl, hc⟩
        · exact ⟨_, by rw [up _ _ e, number_no s (fun v hv hc => hx ⟨v, hv, hc⟩)]⟩
        · exact absurd ⟨v, hv, hc⟩ hx

theorem TextLines.cut (s : ByteArray) (hs : s.size ≤ 4000) (x3 : List ByteArray) (i j : Nat) (p : ByteArray) (res : List ByteArray) (hp : p = s.extract i j) (hx : x3.length ≤ 5000) (hij : i ≤ j) (hj : j ≤ s.size)
    (h : ∃ K, prebendref26_Lines.l0 K s (x3 ++ (if says p = true then [p] else [])) ((j + 1 : Nat) : Int) ((j + 1 : Nat) : Int) = some res) : ∃ K, prebendref26_Lines.j1 K s x3 (i : Nat) (j : Nat) false = some res := by
  obtain ⟨K, e⟩ := h
  have hz : p.size ≤ 4000 := by rw [hp, ByteArray.size_extract]; omega
  obtain ⟨r, hr⟩ := Option.isSome_iff_exists.1 (words_some p (by omega))
  obtain ⟨K2, e2⟩ := TextLines.ref p hz r hr
  refine ⟨max K K2 + 1, ?_⟩
  have c1 : K ≤ max K K2 := Nat.le_max_left _ _
  have c2 : K2 ≤ max K K2 := Nat.le_max_right _ _
  generalize max K K2 = k at *
  have e3 : prebendref26_Words.f k p = some r := lift_le (f := fun k => prebendref26_Words.f k p) (fun k => prebendref26_Words.mono p k) e2 c2
  have e4 : prebendref26_Lines.l0 k s (x3 ++ (if says p = true then [p] else [])) ((j + 1 : Nat) : Int) ((j + 1 : Nat) : Int) = some res := lift_le (f := fun k => prebendref26_Lines.l0 k s (x3 ++ (if says p = true then [p] else [])) ((j + 1 : Nat) : Int) ((j + 1 : Nat) : Int)) (fun k => (prebendref26_Lines.mono_l k).1 _ _ _ _) e c1
  have hsay : says p = ((r.2 != 0) || decide (0 < r.1.length)) := by
    unfold says
    rw [show XWords.words p = some r from hr]
  rw [prebendref26_Lines.j1, if_neg (by decide), if_pos (by omega), if_pos (by omega), if_pos (by omega), Int.toNat_natCast, Int.toNat_natCast, ← hp, e3, Option.bind_some, wrap_nat j (by omega)]
  by_cases h0 : r.2 = 0
  · rw [if_pos h0]
    by_cases hl : (r.1.length : Int) > 0
    · rw [if_pos hl, if_pos (by omega)]
      have ht : says p = true := by rw [hsay, decide_eq_true (by omega)]; simp
      rw [if_pos ht] at e4; exact e4
    · rw [if_neg hl]
      have ht : ¬ says p = true := by rw [hsay, decide_eq_false (by omega), h0]; decide
      rw [if_neg ht, List.append_nil] at e4; exact e4
  · rw [if_neg h0, if_pos (by omega)]
    have ht : says p = true := by
      rw [hsay, show (r.2 != 0) = true by simpa using h0]; rfl
    rw [if_pos ht] at e4; exact e4
theorem TextLines.reflines (s : ByteArray) (hs : s.size ≤ 4000) : ∀ (m i j : Nat) (x3 : List ByteArray), j + m = s.size → i ≤ j → (10 : Int) ∉ bl (s.extract i j) → x3.length ≤ i → ∃ K, prebendref26_Lines.l0 K s x3 (i : Nat) (j : Nat) = some (x3 ++ (pieces (s.extract i s.size)).filter says)
  | 0, i, j, x3, h, hij, hn, hx => by
    have hj : j = s.size := by omega
    subst hj
    obtain ⟨K, e⟩ := TextLines.cut s hs x3 i s.size _ (x3 ++ (pieces (s.extract i s.size)).filter says) rfl (by omega) hij (Nat.le_refl _) ⟨1, by
      rw [prebendref26_Lines.l0, if_neg (by omega), pieces_one _ hn, List.filter_cons, List.filter_nil]⟩
    exact ⟨K + 1, by rw [prebendref26_Lines.l0, if_pos (by omega), if_neg (by omega)]; exact e⟩
  | m + 1, i, j, x3, h, hij, hn, hx => by
    have hb : bt s (j : Nat) = 10 → s.extract i s.size = s.extract i j ++ nl ++ s.extract (j + 1) s.size := fun hb => by
      apply bl_inj
      rw [bl_append, bl_append, bl_nl, bl_extract, bl_extract, bl_extract, ← bl_length s, List.take_length, List.append_assoc, List.singleton_append, ← hb, ← at_lt (by omega)]
      rw [← List.drop_append_of_le_length (by rw [List.length_take, bl_length]; omega), List.take_append_drop]
    by_cases h10 : bt s (j : Nat) = 10
    · have hcut : pieces (s.extract i s.size) = s.extract i j :: pieces (s.extract (j + 1) s.size) := by rw [hb h10, pieces_cut _ _ hn]
      obtain ⟨K0, e0⟩ := TextLines.reflines s hs m (j + 1) (j + 1) (x3 ++ (if says (s.extract i j) = true then [s.extract i j] else [])) (by omega) (Nat.le_refl _) (by rw [bl_extract, List.drop_eq_nil_of_le (by rw [List.length_take]; omega)]; simp) (by rw [List.length_append]; split <;> simp <;> omega)
      obtain ⟨K, e⟩ := TextLines.cut s hs x3 i j _ _ rfl (by omega) hij (by omega) ⟨K0, e0⟩
      refine ⟨K + 1, ?_⟩
      rw [prebendref26_Lines.l0, if_pos (by omega), if_pos (by omega), if_pos (by omega), h10, show ((10 : Int) != 10) = false from rfl, e, hcut, List.filter_cons]
      split <;> simp
    · obtain ⟨K, e⟩ := TextLines.reflines s hs m i (j + 1) x3 (by omega) (by omega) (by
        rw [bl_extract] at hn ⊢
        have e3 : (bl s).take (j + 1) = (bl s).take j ++ [bt s (j : Nat)] := by
          rw [List.take_add_one, bt_bl, List.getElem?_eq_getElem (by rw [bl_length]; omega), List.getD_eq_getElem?_getD, List.getElem?_eq_getElem (by rw [bl_length]; omega)]; rfl
        rw [e3, List.drop_append_of_le_length (by rw [List.length_take, bl_length]; omega)]
        intro hc
        rcases List.mem_append.1 hc with hc | hc
        · exact hn hc
        · rw [List.mem_singleton] at hc; exact h10 hc.symm) hx
      refine ⟨K + 1 + 1, ?_⟩
      rw [prebendref26_Lines.l0, if_pos (by omega), if_pos (by omega), if_pos (by omega), show (bt s (j : Nat) != 10) = true by simpa using h10, prebendref26_Lines.j1, if_pos rfl, wrap_nat j (by omega)]
      exact e
theorem TextLines.lines (s : ByteArray) (hs : s.size ≤ 4000) : ∃ K, prebendref26_Lines.f K s = some ((pieces s).filter says) := by
  obtain ⟨K, e⟩ := TextLines.reflines s hs s.size 0 0 [] (by omega) (Nat.le_refl _) (by rw [bl_extract]; simp) (by simp)
  refine ⟨K, ?_⟩
  rw [show s.extract 0 s.size = s by apply bl_inj; rw [bl_extract, ← bl_length, List.take_length, List.drop_zero], List.nil_append] at e
  exact e

theorem TextLines : prebendlaw26_TextLines.Pure := by
  intro a0 a1 a2 _ _ hw
  obtain ⟨t, e, s⟩ := TextLines.short a1
  obtain ⟨u, e2, s2⟩ := TextLines.short a0
  obtain ⟨K1, h1⟩ := TextLines.refnum t (by omega)
  obtain ⟨K2, h2⟩ := TextLines.lines u (by omega)
  have hf : -9223372036854775808 ≤ a2 ∧ a2 ≤ 9223372036854775807 := by
    simp only [Lit.wf, IntKind.min, IntKind.max, IntKind.signed, IntKind.bits, Bool.and_eq_true, decide_eq_true_eq] at hw
    simp at hw
    omega
  have hz := numeral_size a2 hf
  have hl := pieces_len u
  have hfl : ((pieces u).filter says).length ≤ (pieces u).length := List.length_filter_le _ _
  refine ⟨max K1 K2 + 1000, ?_⟩
  have c1 : K1 ≤ max K1 K2 + 1000 := by have := Nat.le_max_left K1 K2; omega
  have c2 : K2 ≤ max K1 K2 + 1000 := by have := Nat.le_max_right K1 K2; omega
  have c3 : 1000 ≤ max K1 K2 + 1000 := by omega
  generalize max K1 K2 + 1000 = k at *
  have h1' : prebendref26_Number.f k t = some (numberP t) := lift_le (f := fun k => prebendref26_Number.f k t) (fun k => prebendref26_Number.mono t k) h1 c1
  have h2' : prebendref26_Lines.f k u = some ((pieces u).filter says) := lift_le (f := fun k => prebendref26_Lines.f k u) (fun k => prebendref26_Lines.mono u k) h2 c2
  have n1 : text_Number.f t = some (numberP t) := by
    show number t = _
    unfold number
    rw [if_pos (by omega)]
  have n2 : text_Number.f (numeral a2) = some (a2, true) := by
    show number _ = _
    unfold number
    rw [if_pos (by omega), number_of a2 hf]
  unfold prebendlaw26_TextLines.f
  rw [e, Option.bind_some, n1, Option.bind_some, Option.bind_some, h1', Option.bind_some, TextLines.num a2 hf k (by omega), Option.bind_some, n2, Option.bind_some, TextLines.awake k (by omega), Option.bind_some, if_pos rfl, e2, Option.bind_some, show text_Lines.f u = some _ from lines_some u (by omega), Option.bind_some, Option.bind_some, h2', Option.bind_some, TextLines.texts _ (by omega) k (by omega), Option.bind_some, if_pos rfl, if_pos rfl, if_pos (by simp), if_pos rfl]
end Go.Proofs.YtkenihkjdbdlkaaDoor.Pure
