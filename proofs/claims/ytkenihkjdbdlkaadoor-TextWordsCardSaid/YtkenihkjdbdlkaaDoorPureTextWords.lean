import Derived.Test.YtkenihkjdbdlkaaDoorQTextWordsx4
import Derived.Test.YtkenihkjdbdlkaaDoorXCut
namespace Go.Proofs.YtkenihkjdbdlkaaDoor.Pure
open Go.RowKit Go.Proofs.YtkenihkjdbdlkaaDoor.QTextWords Go.Proofs.YtkenihkjdbdlkaaDoorW.PrintWords Go.Proofs.YtkenihkjdbdlkaaDoorW.PrintLast XEsc XPlain XQuote XLines XWordsP XCut
set_option linter.unusedVariables false
theorem TextWords.awake_5 : prebendlaw26_awake.f 5 = some true := by decide +kernel
theorem TextWords.awake (k : Nat) (h : 5 ≤ k) : prebendlaw26_awake.f k = some true := lift_le prebendlaw26_awake.mono TextWords.awake_5 h
theorem TextWords.short (a : ByteArray) : ∃ t, prebendlaw26_short.f a = some t ∧ t.size ≤ 400 := by
  unfold prebendlaw26_short.f
  by_cases h : (a.size : Int) > 400
  · rw [if_pos h, if_pos (by omega), if_pos (by omega)]
    exact ⟨_, rfl, by rw [ByteArray.size_extract]; omega⟩
  · rw [if_neg h]; exact ⟨_, rfl, by omega⟩
theorem TextWords.texts0 (x : List ByteArray) (hx : x.length ≤ 4611686018427387904) : ∀ (n i : Nat), i + n = x.length → prebendref26_Texts.l0 (n + 1) x x i = some true
  | 0, i, h => by rw [prebendref26_Texts.l0, if_neg (by omega)]
  | n + 1, i, h => by
    rw [prebendref26_Texts.l0, if_pos (by omega), if_pos (by omega), if_pos (by omega), if_pos rfl, wrap_nat i (by omega)]
    exact TextWords.texts0 x hx n (i + 1) (by omega)
theorem TextWords.texts (x : List ByteArray) (hx : x.length ≤ 4611686018427387904) (k : Nat) (h : x.length + 1 ≤ k) : prebendref26_Texts.f k x x = some true :=
  lift_le (f := fun k => prebendref26_Texts.f k x x) (fun k => prebendref26_Texts.mono x x k) (n := x.length + 1) (by
    show prebendref26_Texts.f (x.length + 1) x x = some true
    unfold prebendref26_Texts.f
    rw [if_pos rfl]
    exact TextWords.texts0 x hx x.length 0 (by omega)) h

theorem TextWords.hex (c : Int) (h : Byte c) (k : Nat) : prebendref26_hex.f (k + 1) c = some (hexv c) := by
  unfold Byte at h
  unfold prebendref26_hex.f hexv
  by_cases h1 : c ≥ 48
  · rw [if_pos h1, prebendref26_hex.j0]
    by_cases h2 : c ≤ 57
    · rw [decide_eq_true h2, if_pos rfl, if_pos (by omega)]
      exact congrArg some (by omega)
    · rw [decide_eq_false h2, if_neg (by decide), if_neg (show ¬ (48 ≤ c ∧ c ≤ 57) by omega)]
      by_cases h3 : c ≥ 97
      · by_cases h4 : c ≤ 102
        · rw [if_pos h3, if_pos h4, if_pos (show 97 ≤ c ∧ c ≤ 102 by omega)]
          exact congrArg some (by omega)
        · rw [if_pos h3, if_neg h4, if_neg (show ¬ (97 ≤ c ∧ c ≤ 102) by omega)]
      · rw [if_neg h3, if_neg (show ¬ (97 ≤ c ∧ c ≤ 102) by omega)]
  · rw [if_neg h1, prebendref26_hex.j0, if_neg (by decide), if_neg (show ¬ (c ≥ 97) by omega), if_neg (show ¬ (48 ≤ c ∧ c ≤ 57) by omega), if_neg (show ¬ (97 ≤ c ∧ c ≤ 102) by omega)]
theorem TextWords.close_some (s : ByteArray) (hs : s.size ≤ 4000) : ∀ (n i : Nat), s.size ≤ i + n → i ≤ 4002 → ∃ t : Int, prebendref26_close.l0 (n + 1) s (i : Nat) = some t ∧ (t = -1 ∨ (∃ j : Nat, t = j ∧ i ≤ j ∧ j < s.size))
  | 0, i, h, h2 => ⟨-1, by rw [prebendref26_close.l0, if_neg (by omega)], .inl rfl⟩
  | n + 1, i, h, h2 => by
    rw [prebendref26_close.l0]
    by_cases hi : (i : Int) < (s.size : Int)
    · rw [if_pos hi, if_pos (by omega), wrap_nat i (by omega), wrap_nat (i + 1) (by omega)]
      by_cases h92 : bt s (i : Nat) = 92
      · rw [if_pos h92]
        obtain ⟨t, e, ht⟩ := TextWords.close_some s hs n (i + 2) (by omega) (by omega)
        refine ⟨t, e, ?_⟩
        rcases ht with ht | ⟨j, e, a, b⟩
        · exact .inl ht
        · exact .inr ⟨j, e, by omega, b⟩
      · rw [if_neg h92]
        by_cases h34 : bt s (i : Nat) = 34
        · rw [if_pos h34]; exact ⟨_, rfl, .inr ⟨i, rfl, by omega, by omega⟩⟩
        · rw [if_neg h34]
          obtain ⟨t, e, ht⟩ := TextWords.close_some s hs n (i + 1) (by omega) (by omega)
          refine ⟨t, e, ?_⟩
          rcases ht with ht | ⟨j, e, a, b⟩
          · exact .inl ht
          · exact .inr ⟨j, e, by omega, b⟩
    · rw [if_neg hi]; exact ⟨-1, rfl, .inl rfl⟩
theorem TextWords.close_mono (s : ByteArray) (i : Int) (k : Nat) : LeO (prebendref26_close.l0 k s i) (prebendref26_close.l0 (k + 1) s i) := prebendref26_close.mono_l k s i
theorem TextWords.close_at (s : ByteArray) (hs : s.size ≤ 4000) (rest : List Int) : ∀ (w : List Int), (∀ c ∈ w, Byte c) → ∀ (i : Nat), (bl s).drop i = w.flatMap q1 ++ 34 :: rest → ∃ K, prebendref26_close.l0 K s (i : Nat) = some ((i + (w.flatMap q1).length : Nat) : Int)
  | [], _, i, h => by
    obtain ⟨a, b, _⟩ := at_cons h
    exact ⟨1, by rw [prebendref26_close.l0, if_pos (by omega), if_pos (by omega), if_neg (by omega), if_pos b]; rfl⟩
  | c :: w, hb, i, h => by
    have hc : Byte c := hb c (by simp)
    unfold Byte at hc
    rw [List.flatMap_cons, List.append_assoc] at h
    rw [List.flatMap_cons, List.length_append]
    have hw : ∀ d ∈ w, Byte d := fun d hd => hb d (by simp [hd])
    by_cases h1 : c = 34 ∨ c = 92
    · rw [show q1 c = [92, c] by unfold q1; rw [if_pos h1]] at h ⊢
      obtain ⟨a1, b1, h1⟩ := at_cons h
      obtain ⟨a2, b2, h2⟩ := at_cons h1
      obtain ⟨K, e⟩ := TextWords.close_at s hs rest w hw (i + 2) h2
      refine ⟨K + 1, ?_⟩
      rw [prebendref26_close.l0, if_pos (by omega), if_pos (by omega), if_pos b1, wrap_nat i (by omega), wrap_nat (i + 1) (by omega), e]
      exact congrArg some (by simp only [List.length_cons, List.length_nil]; omega)
    · by_cases h2 : 32 ≤ c ∧ c ≤ 126
      · rw [show q1 c = [c] by unfold q1; rw [if_neg h1, if_pos h2]] at h ⊢
        obtain ⟨a1, b1, h1⟩ := at_cons h
        obtain ⟨K, e⟩ := TextWords.close_at s hs rest w hw (i + 1) h1
        refine ⟨K + 1, ?_⟩
        rw [prebendref26_close.l0, if_pos (by omega), if_pos (by omega), if_neg (by omega), if_neg (by omega), wrap_nat i (by omega), e]
        exact congrArg some (by simp only [List.length_cons, List.length_nil]; omega)
      · have r1 := hexd_range (c / 16) (by omega)
        have r2 := hexd_range (c % 16) (by omega)
        have n1 : hexd (c / 16) ≠ 92 ∧ hexd (c / 16) ≠ 34 := by unfold hexd; split <;> omega
        have n2 : hexd (c % 16) ≠ 92 ∧ hexd (c % 16) ≠ 34 := by unfold hexd; split <;> omega
        rw [show q1 c = [92, 120, hexd (c / 16), hexd (c % 16)] by unfold q1; rw [if_neg h1, if_neg h2]] at h ⊢
        obtain ⟨a1, b1, h1⟩ := at_cons h
        obtain ⟨a2, b2, h2⟩ := at_cons h1
        obtain ⟨a3, b3, h3⟩ := at_cons h2
        obtain ⟨a4, b4, h4⟩ := at_cons h3
        obtain ⟨K, e⟩ := TextWords.close_at s hs rest w hw (i + 4) h4
        refine ⟨K + 1 + 1 + 1, ?_⟩
        rw [prebendref26_close.l0, if_pos (by omega), if_pos (by omega), if_pos b1, wrap_nat i (by omega), wrap_nat (i + 1) (by omega)]
        rw [prebendref26_close.l0, if_pos (by omega), if_pos (by omega), if_neg (by rw [b3]; exact n1.1), if_neg (by rw [b3]; exact n1.2), wrap_nat (i + 1 + 1) (by omega)]
        rw [prebendref26_close.l0, if_pos (by omega), if_pos (by omega), if_neg (by rw [b4]; exact n2.1), if_neg (by rw [b4]; exact n2.2), wrap_nat (i + 1 + 1 + 1) (by omega), e]
        exact congrArg some (by simp only [List.length_cons, List.length_nil]; omega)
theorem TextWords.plain_some (s : ByteArray) (hs : s.size ≤ 4000) : ∀ (n i : Nat) (x : List Int), s.size ≤ i + n → x.length ≤ i → i ≤ 4004 → ∃ t, prebendref26_plain.l0 (2 * n + 3) s x (i : Nat) = some t ∧ t.size ≤ 4004
  | 0, i, x, h, hx, hi => ⟨_, by rw [prebendref26_plain.l0, if_neg (by omega)], by rw [nums_size]; omega⟩
  | n + 1, i, x, h, hx, hi => by
    rw [show 2 * (n + 1) + 3 = (2 * n + 3) + 1 + 1 by omega]
    have up : ∀ (m : Nat) (y : List Int), s.size ≤ m + n → y.length ≤ m → m ≤ 4004 → ∃ t, prebendref26_plain.l0 (2 * n + 3 + 1) s y (m : Nat) = some t ∧ t.size ≤ 4004 := fun m y h1 h2 h3 => by
      obtain ⟨t, e, z⟩ := TextWords.plain_some s hs n m y h1 h2 h3
      exact ⟨t, (prebendref26_plain.mono_l (2 * n + 3)).1 s y m t e, z⟩
    rw [prebendref26_plain.l0]
    by_cases hlt : (i : Int) < (s.size : Int)
    · rw [if_pos hlt, if_pos (by omega), wrap_nat i (by omega), wrap2 i (by omega), wrap3 i (by omega)]
      by_cases h92 : bt s (i : Nat) = 92
      · rw [if_pos h92]
        have jf : ∃ t, prebendref26_plain.j1 (2 * n + 3 + 1) s x (i : Nat) false = some t ∧ t.size ≤ 4004 := by
          rw [prebendref26_plain.j1, if_neg (by decide), wrap_nat i (by omega), wrap_nat (i + 1) (by omega)]
          by_cases h1 : ((i + 1 : Nat) : Int) < (s.size : Int)
          · rw [if_pos h1, if_pos (by omega), if_pos (by omega)]
            exact TextWords.plain_some s hs n (i + 2) _ (by omega) (by simp; omega) (by omega)
          · rw [if_neg h1]
            exact TextWords.plain_some s hs n (i + 1) _ (by omega) (by omega) (by omega)
        by_cases h3 : ((i + 3 : Nat) : Int) < (s.size : Int)
        · rw [if_pos h3, if_pos (by omega), if_pos (by omega)]
          by_cases h120 : bt s ((i + 1 : Nat) : Int) = 120
          · rw [if_pos h120, if_pos (by omega), if_pos (by omega), TextWords.hex _ (bt_range _ _), Option.bind_some]
            split
            · rw [if_pos (by omega), TextWords.hex _ (bt_range _ _), Option.bind_some]
              by_cases hd : hexv (bt s ((i + 3 : Nat) : Int)) ≥ 0
              · rw [decide_eq_true hd, prebendref26_plain.j1, if_pos rfl, wrap2 i (by omega), wrap3 i (by omega), if_pos (by omega), if_pos (by omega), TextWords.hex _ (bt_range _ _), Option.bind_some, if_pos (by omega), if_pos (by omega), TextWords.hex _ (bt_range _ _), Option.bind_some, if_pos (by omega), wrap_nat (i + 3) (by omega)]
                exact TextWords.plain_some s hs n (i + 4) _ (by omega) (by simp; omega) (by omega)
              · rw [decide_eq_false hd]; exact jf
            · exact jf
          · rw [if_neg h120]; exact jf
        · rw [if_neg h3]; exact jf
      · rw [if_neg h92, if_pos (by omega)]
        exact up (i + 1) _ (by omega) (by simp; omega) (by omega)
    · rw [if_neg hlt]; exact ⟨_, rfl, by rw [nums_size]; omega⟩
theorem TextWords.plain_at (s : ByteArray) (hs : s.size ≤ 4000) : ∀ (w : List Int), (∀ c ∈ w, Byte c) → ∀ (i : Nat) (x : List Int), x.length ≤ i → (bl s).drop i = w.flatMap q1 → ∃ K, prebendref26_plain.l0 (K + 1) s x (i : Nat) = some (strOfNums (x ++ w))
  | [], _, i, x, hx, h => by
    have := at_nil h
    exact ⟨0, by rw [prebendref26_plain.l0, if_neg (by omega), List.append_nil]⟩
  | c :: w, hb, i, x, hx, h => by
    have hc : Byte c := hb c (by simp)
    unfold Byte at hc
    rw [List.flatMap_cons] at h
    rw [show x ++ c :: w = (x ++ [c]) ++ w by simp]
    have hw : ∀ d ∈ w, Byte d := fun d hd => hb d (by simp [hd])
    by_cases h1 : c = 34 ∨ c = 92
    · rw [show q1 c = [92, c] by unfold q1; rw [if_pos h1]] at h
      obtain ⟨a1, b1, h1'⟩ := at_cons h
      obtain ⟨a2, b2, h2'⟩ := at_cons h1'
      obtain ⟨K, e⟩ := TextWords.plain_at s hs w hw (i + 2) (x ++ [c]) (by simp; omega) h2'
      refine ⟨K + 1 + 1, ?_⟩
      have jf : prebendref26_plain.j1 (K + 1 + 1) s x (i : Nat) false = some (strOfNums (x ++ [c] ++ w)) := by
        rw [prebendref26_plain.j1, if_neg (by decide), wrap_nat i (by omega), wrap_nat (i + 1) (by omega), if_pos (by omega), if_pos (by omega), if_pos (by omega), b2]
        exact e
      rw [prebendref26_plain.l0, if_pos (by omega), if_pos (by omega), if_pos b1, wrap_nat i (by omega), wrap3 i (by omega), b2, if_neg (show ¬ c = 120 by omega), jf]
      split
      · rw [if_pos (by omega), if_pos (by omega)]
      · rfl
    · by_cases h2 : 32 ≤ c ∧ c ≤ 126
      · rw [show q1 c = [c] by unfold q1; rw [if_neg h1, if_pos h2]] at h
        obtain ⟨a1, b1, h1'⟩ := at_cons h
        obtain ⟨K, e⟩ := TextWords.plain_at s hs w hw (i + 1) (x ++ [c]) (by simp; omega) h1'
        refine ⟨K + 1, ?_⟩
        rw [prebendref26_plain.l0, if_pos (by omega), if_pos (by omega), if_neg (by omega), if_pos (by omega), wrap_nat i (by omega), b1]
        exact e
      · have e1 := hexv_hexd (c / 16) (by omega)
        have e2 := hexv_hexd (c % 16) (by omega)
        rw [show q1 c = [92, 120, hexd (c / 16), hexd (c % 16)] by unfold q1; rw [if_neg h1, if_neg h2]] at h
        obtain ⟨a1, b1, h1'⟩ := at_cons h
        obtain ⟨a2, b2, h2'⟩ := at_cons h1'
        obtain ⟨a3, b3, h3'⟩ := at_cons h2'
        obtain ⟨a4, b4, h4'⟩ := at_cons h3'
        obtain ⟨K, e⟩ := TextWords.plain_at s hs w hw (i + 4) (x ++ [c]) (by simp; omega) h4'
        refine ⟨K + 1 + 1 + 1, ?_⟩
        have e' := (prebendref26_plain.mono_l (K + 1)).1 _ _ _ _ e
        have t3 : hexv (bt s ((i + 2 : Nat) : Int)) = c / 16 := by rw [show i + 2 = i + 1 + 1 from rfl, b3, e1]
        have t4 : hexv (bt s ((i + 3 : Nat) : Int)) = c % 16 := by rw [show i + 3 = i + 1 + 1 + 1 from rfl, b4, e2]
        rw [prebendref26_plain.l0, if_pos (by omega), if_pos (by omega), if_pos b1, wrap_nat i (by omega), wrap2 i (by omega), wrap3 i (by omega), if_pos (by omega), if_pos (by omega), if_pos (by omega), if_pos b2, if_pos (by omega), if_pos (by omega), TextWords.hex _ (bt_range _ _), Option.bind_some, t3, if_pos (by omega), if_pos (by omega), TextWords.hex _ (bt_range _ _), Option.bind_some, t4, decide_eq_true (by omega)]
        rw [prebendref26_plain.j1, if_pos rfl, wrap2 i (by omega), wrap3 i (by omega), if_pos (by omega), if_pos (by omega), TextWords.hex _ (bt_range _ _), Option.bind_some, t3, if_pos (by omega), if_pos (by omega), TextWords.hex _ (bt_range _ _), Option.bind_some, t4, if_pos (by omega), wrap_nat (i + 3) (by omega)]
        rw [show (wrap64 (wrap64 (16 * (c / 16)) + c % 16)) % 256 = c by unfold wrap64; omega]
        exact e'
theorem TextWords.bare (c : Int) : prebendref26_bare.f c = some (bareI c) := by
  have e : (32 < c) = (c ≥ 33) := propext (by omega)
  unfold prebendref26_bare.f bareI
  simp only [e]
  by_cases h1 : c ≥ 33 <;> by_cases h2 : c ≤ 126 <;> by_cases h3 : c = 34 <;> by_cases h4 : c = 92 <;> simp [h1, h2, h3, h4, bne]
theorem TextWords.run (s : ByteArray) (hs : s.size ≤ 4000) (out : List ByteArray) (i : Int) : ∀ (tw rest : List Int) (j : Nat), (bl s).drop j = tw ++ rest → (∀ c ∈ tw, bareI c = true) → (rest = [] ∨ ∃ c r, rest = c :: r ∧ bareI c = false) → ∀ K, prebendref26_Words.l1 (K + tw.length + 1) s out i (j : Nat) = prebendref26_Words.j2 K s out i ((j + tw.length : Nat) : Int)
  | [], rest, j, h, _, hr, K => by
    rw [List.nil_append] at h
    rcases hr with rfl | ⟨c, r, rfl, hc⟩
    · have := at_nil h
      rw [prebendref26_Words.l1, if_neg (by omega)]; rfl
    · obtain ⟨a, b, _⟩ := at_cons h
      rw [prebendref26_Words.l1, if_pos (by omega), if_pos (by omega), TextWords.bare, b, hc, Option.bind_some, if_neg (by decide)]; rfl
  | c :: tw, rest, j, h, hb, hr, K => by
    obtain ⟨a, b, h'⟩ := at_cons h
    rw [prebendref26_Words.l1, if_pos (by omega), if_pos (by omega), TextWords.bare, b, hb c (by simp), Option.bind_some, if_pos rfl, wrap_nat j (by omega)]
    have := TextWords.run s hs out i tw rest (j + 1) h' (fun d hd => hb d (by simp [hd])) hr K
    rw [show K + (c :: tw).length = K + tw.length + 1 by rw [List.length_cons]; omega, this]
    congr 1
    rw [List.length_cons]; omega
def TextWords.Good (s : ByteArray) (N : Nat) : Prop := ∀ n, n ≤ N → ∀ (out : List ByteArray) (i : Nat) (res : List ByteArray × Int), out.length ≤ i → i ≤ s.size → bw n out ((bl s).drop i) = some res → ∃ K, prebendref26_Words.l0 K s out (i : Nat) = some res
theorem TextWords.tail (s : ByteArray) (N : Nat) (H : TextWords.Good s N) (m : Nat) (hm : m ≤ N + 1) (out : List ByteArray) (w : List Int) (j : Nat) (res : List ByteArray × Int) (ho : out.length + 1 ≤ j) (hj : j ≤ s.size) (h : ed m out w ((bl s).drop j) = some res) :
    ∃ K, ∀ k, K ≤ k → (if (j : Int) < (s.size : Int) then (if 0 ≤ (j : Int) then (if bt s (j : Nat) = 32 then prebendref26_Words.l0 k s (out ++ [strOfNums w]) (j : Nat) else some ([], 11)) else none) else prebendref26_Words.l0 k s (out ++ [strOfNums w]) (j : Nat)) = some res := by
  match m with
  | 0 => simp [ed] at h
  | m + 1 =>
    rcases hd : (bl s).drop j with _ | ⟨c, r⟩
    · rw [hd] at h
      simp only [ed] at h
      have := at_nil hd
      obtain ⟨K, e⟩ := H m (by omega) (out ++ [strOfNums w]) j res (by simp; omega) hj (by rw [hd]; exact h)
      exact ⟨K, fun k hk => by rw [if_neg (by omega)]; exact lift_le (f := fun k => prebendref26_Words.l0 k s (out ++ [strOfNums w]) (j : Nat)) (fun k => (prebendref26_Words.mono_l k).1 _ _ _) e hk⟩
    · rw [hd] at h
      simp only [ed] at h
      obtain ⟨a, b, _⟩ := at_cons hd
      by_cases hc : c = 32
      · rw [if_pos hc] at h
        obtain ⟨K, e⟩ := H m (by omega) (out ++ [strOfNums w]) j res (by simp; omega) hj (by rw [hd]; exact h)
        exact ⟨K, fun k hk => by rw [if_pos (by omega), if_pos (by omega), if_pos (by rw [b]; exact hc)]; exact lift_le (f := fun k => prebendref26_Words.l0 k s (out ++ [strOfNums w]) (j : Nat)) (fun k => (prebendref26_Words.mono_l k).1 _ _ _) e hk⟩
      · rw [if_neg hc] at h
        exact ⟨0, fun k _ => by rw [if_pos (by omega), if_pos (by omega), if_neg (by rw [b]; exact hc)]; exact h⟩
theorem TextWords.inS (t : ByteArray) (h : t.size ≤ 1099511627776) : prebendref26_In.f t = some (strOfNums (34 :: (bl t).flatMap q1 ++ [34])) := by
  show XIn.inS t = _
  unfold XIn.inS
  rw [if_pos h]
theorem TextWords.quoted (s : ByteArray) (hs : s.size ≤ 4000) (N : Nat) (H : TextWords.Good s N) (n : Nat) (hn : n ≤ N) (out : List ByteArray) (i : Nat) (r : List Int) (res : List ByteArray × Int) (ho : out.length ≤ i) (hd : (bl s).drop i = 34 :: r) (h : qt n out [] r = some res) : ∃ K, prebendref26_Words.l0 K s out (i : Nat) = some res := by
  obtain ⟨a, b, hr⟩ := at_cons hd
  have hb : ∀ d ∈ r, Byte d := fun d hx => byte_bl s d (List.mem_of_mem_drop (by rw [hr]; exact hx))
  have hl := bl_length s
  by_cases hdec : ∃ (w' rest : List Int), (∀ c ∈ w', Byte c) ∧ r = w'.flatMap q1 ++ 34 :: rest
  · obtain ⟨w', rest, hw, he⟩ := hdec
    obtain ⟨m, hm, hed⟩ := qt_dec rest out res w' hw n [] (by rw [← he]; exact h)
    rw [List.nil_append] at hed
    have hr2 : (bl s).drop (i + 1) = w'.flatMap q1 ++ 34 :: rest := by rw [hr, he]
    obtain ⟨Kc, ec⟩ := TextWords.close_at s hs rest w' hw (i + 1) hr2
    obtain ⟨L, hL⟩ : ∃ L, L = (w'.flatMap q1).length := ⟨_, rfl⟩
    rw [← hL] at ec
    have hj : (bl s).drop (i + 1 + L) = 34 :: rest := by rw [← List.drop_drop, hr2, hL, List.drop_left]
    obtain ⟨aj, bj, hj1⟩ := at_cons hj
    have hcont : bl (s.extract (i + 1) (i + 1 + L)) = w'.flatMap q1 := by
      rw [bl_extract, List.drop_take, hr2, show i + 1 + L - (i + 1) = L by omega, hL, List.take_left]
    have hall : s.extract i (i + 1 + L + 1) = strOfNums (34 :: w'.flatMap q1 ++ [34]) := by
      rw [← strOfNums_bl (s.extract i (i + 1 + L + 1))]
      congr 1
      rw [bl_extract, List.drop_take, hd, he, show i + 1 + L + 1 - i = L + 1 + 1 by omega, List.take_succ_cons, hL, List.cons_append]
      congr 1
      rw [show (w'.flatMap q1 ++ 34 :: rest) = (w'.flatMap q1 ++ [34]) ++ rest by simp, List.take_left' (by simp)]
    obtain ⟨Kp, ep⟩ := TextWords.plain_at (s.extract (i + 1) (i + 1 + L)) (by rw [ByteArray.size_extract]; omega) w' hw 0 [] (by simp) (by rw [List.drop_zero]; exact hcont)
    rw [List.nil_append] at ep
    obtain ⟨Kt, et⟩ := TextWords.tail s N H m (by omega) out w' (i + 1 + L + 1) res (by omega) (by omega) (by rw [hj1]; exact hed)
    refine ⟨max Kc (max (Kp + 1) Kt) + 1, ?_⟩
    have c1 : Kc ≤ max Kc (max (Kp + 1) Kt) := Nat.le_max_left _ _
    have c2 : Kp + 1 ≤ max Kc (max (Kp + 1) Kt) := Nat.le_trans (Nat.le_max_left _ _) (Nat.le_max_right _ _)
    have c3 : Kt ≤ max Kc (max (Kp + 1) Kt) := Nat.le_trans (Nat.le_max_right _ _) (Nat.le_max_right _ _)
    generalize max Kc (max (Kp + 1) Kt) = K at *
    have e1 : prebendref26_close.f K s (i : Nat) = some ((i + 1 + L : Nat) : Int) := by
      unfold prebendref26_close.f
      rw [wrap_nat i (by omega)]
      exact lift_le (f := fun k => prebendref26_close.l0 k s ((i + 1 : Nat) : Int)) (fun k => TextWords.close_mono _ _ k) ec c1
    have e2 : prebendref26_plain.f K (s.extract (i + 1) (i + 1 + L)) = some (strOfNums w') :=
      lift_le (f := fun k => prebendref26_plain.l0 k (s.extract (i + 1) (i + 1 + L)) [] 0) (fun k => (prebendref26_plain.mono_l k).1 _ _ _) ep c2
    have hsz : (strOfNums w').size ≤ 1099511627776 := by
      rw [nums_size]
      have := flat_ge w'
      omega
    rw [prebendref26_Words.l0, if_pos (by omega), if_pos (by omega), if_neg (by omega), if_neg (by omega), if_pos b, e1, Option.bind_some, if_neg (by omega), wrap_nat i (by omega), if_pos (by omega), if_pos (by omega), if_pos (by omega), Int.toNat_natCast, Int.toNat_natCast, e2, Option.bind_some, TextWords.inS _ hsz, Option.bind_some, wrap_nat (i + 1 + L) (by omega), if_pos (by omega), if_pos (by omega), Int.toNat_natCast, Int.toNat_natCast, hall, bl_strOfNums w' hw, if_pos rfl, if_pos (by omega), Option.bind_some]
    exact et K c3
  · have hres : res = ([], 11) := (qt_neg out res n [] r hb h).resolve_left hdec
    obtain ⟨t, ct, ht⟩ := TextWords.close_some s hs s.size (i + 1) (by omega) (by omega)
    rcases ht with rfl | ⟨j, rfl, h1, h2⟩
    · refine ⟨s.size + 1 + 1, ?_⟩
      have e1 : prebendref26_close.f (s.size + 1) s (i : Nat) = some (-1) := by
        unfold prebendref26_close.f
        rw [wrap_nat i (by omega)]; exact ct
      rw [prebendref26_Words.l0, if_pos (by omega), if_pos (by omega), if_neg (by omega), if_neg (by omega), if_pos b, e1, Option.bind_some, if_pos (by decide), hres]
    · obtain ⟨q, eq, hq⟩ := TextWords.plain_some (s.extract (i + 1) j) (by rw [ByteArray.size_extract]; omega) s.size 0 [] (by rw [ByteArray.size_extract]; omega) (by simp) (by omega)
      refine ⟨2 * s.size + 3 + 1, ?_⟩
      have e1 : prebendref26_close.f (2 * s.size + 3) s (i : Nat) = some (j : Int) := by
        unfold prebendref26_close.f
        rw [wrap_nat i (by omega)]
        exact lift_le (f := fun k => prebendref26_close.l0 k s ((i + 1 : Nat) : Int)) (fun k => TextWords.close_mono _ _ k) ct (by omega)
      have e2 : prebendref26_plain.f (2 * s.size + 3) (s.extract (i + 1) j) = some q := eq
      rw [prebendref26_Words.l0, if_pos (by omega), if_pos (by omega), if_neg (by omega), if_neg (by omega), if_pos b, e1, Option.bind_some, if_neg (by omega), wrap_nat i (by omega), if_pos (by omega), if_pos (by omega), if_pos (by omega), Int.toNat_natCast, Int.toNat_natCast, e2, Option.bind_some, TextWords.inS q (by omega), Option.bind_some, wrap_nat j (by omega), if_pos (by omega), if_pos (by omega), Int.toNat_natCast, Int.toNat_natCast, if_neg, hres]
      intro hc
      have hc := congrArg bl (toList_inj hc)
      rw [bl_strOfNums, bl_extract] at hc
      · apply hdec
        refine ⟨bl q, (bl s).drop (j + 1), byte_bl q, ?_⟩
        have e3 : (bl s).drop i = ((bl s).take (j + 1)).drop i ++ (bl s).drop (j + 1) := by
          rw [← List.drop_append_of_le_length (by rw [List.length_take]; omega), List.take_append_drop]
        rw [← hc, hd] at e3
        simp only [List.cons_append, List.cons.injEq, true_and, List.append_assoc, List.nil_append] at e3
        exact e3
      · intro d hx
        simp only [List.cons_append, List.mem_cons, List.mem_append, List.mem_flatMap, List.not_mem_nil, or_false] at hx
        rcases hx with rfl | ⟨c, hc, hx⟩ | rfl
        · omega
        · have := q1_range c (byte_bl q c hc) d hx; omega
        · omega
theorem TextWords.good (s : ByteArray) (hs : s.size ≤ 4000) : ∀ N, TextWords.Good s N
  | 0 => fun n hn out i res _ _ h => by rw [show n = 0 by omega] at h; simp [bw] at h
  | N + 1 => fun n hn out i res ho hi h => by
    have H := TextWords.good s hs N
    match n with
    | 0 => simp [bw] at h
    | n + 1 =>
      rcases hd : (bl s).drop i with _ | ⟨c, r⟩
      · rw [hd] at h
        simp only [bw, Option.some.injEq] at h
        have := at_nil hd
        exact ⟨1, by rw [prebendref26_Words.l0, if_neg (by omega), h]⟩
      · obtain ⟨a, b, hr⟩ := at_cons hd
        rw [hd] at h
        simp only [bw] at h
        by_cases h32 : c = 32
        · rw [if_pos h32] at h
          obtain ⟨K, e⟩ := H n (by omega) out (i + 1) res (by omega) (by omega) (by rw [hr]; exact h)
          exact ⟨K + 1, by rw [prebendref26_Words.l0, if_pos (by omega), if_pos (by omega), if_pos (by rw [b]; exact h32), wrap_nat i (by omega)]; exact e⟩
        · rw [if_neg h32] at h
          by_cases h35 : c = 35
          · rw [if_pos h35] at h
            exact ⟨1, by rw [prebendref26_Words.l0, if_pos (by omega), if_pos (by omega), if_neg (by rw [b]; exact h32), if_pos (by rw [b]; exact h35)]; exact h⟩
          · rw [if_neg h35] at h
            by_cases h34 : c = 34
            · rw [if_pos h34] at h
              subst h34
              exact TextWords.quoted s hs N H n (by omega) out i r res ho hd h
            · rw [if_neg h34] at h
              have hsplit : (bl s).drop i = (c :: r).takeWhile bareI ++ (c :: r).dropWhile bareI := by rw [List.takeWhile_append_dropWhile, hd]
              have hrun := TextWords.run s hs out (i : Nat) _ _ i hsplit (fun d hx => tw_all _ _ d hx) (dw_head _ _)
              have start : ∀ K, prebendref26_Words.l0 (K + ((c :: r).takeWhile bareI).length + 1 + 1) s out (i : Nat) = prebendref26_Words.j2 K s out (i : Nat) ((i + ((c :: r).takeWhile bareI).length : Nat) : Int) := fun K => by
                rw [prebendref26_Words.l0, if_pos (by omega), if_pos (by omega), if_neg (by rw [b]; exact h32), if_neg (by rw [b]; exact h35), if_neg (by rw [b]; exact h34)]
                exact hrun K
              generalize (c :: r).takeWhile bareI = tw at *
              generalize (c :: r).dropWhile bareI = dw at *
              by_cases ht : tw = []
              · rw [if_pos ht] at h
                refine ⟨1 + tw.length + 1 + 1, ?_⟩
                rw [start, prebendref26_Words.j2, if_pos (by rw [ht]; rfl)]
                exact h
              · rw [if_neg ht] at h
                have hp : 0 < tw.length := List.length_pos_iff.2 ht
                have hlen : i + tw.length ≤ s.size := by
                  have := congrArg List.length hsplit
                  rw [List.length_drop, List.length_append, bl_length] at this
                  omega
                have hj : (bl s).drop (i + tw.length) = dw := by rw [← List.drop_drop, hsplit, List.drop_left]
                obtain ⟨Kt, et⟩ := TextWords.tail s N H n (by omega) out tw (i + tw.length) res (by omega) hlen (by rw [hj]; exact h)
                have hx : s.extract i (i + tw.length) = strOfNums tw := by
                  rw [← strOfNums_bl (s.extract i (i + tw.length)), bl_extract, List.drop_take, hsplit, show i + tw.length - i = tw.length by omega, List.take_left]
                refine ⟨Kt + 1 + tw.length + 1 + 1, ?_⟩
                rw [start, prebendref26_Words.j2, if_neg (by omega), if_pos (by omega), if_pos (by omega), if_pos (by omega), if_pos (by omega), Int.toNat_natCast, Int.toNat_natCast, hx, Option.bind_some]
                exact et Kt (Nat.le_refl _)
theorem TextWords.count : ∀ k : Nat, (∀ out l res, bw k out l = some res → res.1.length ≤ out.length + k) ∧ (∀ out w l res, qt k out w l = some res → res.1.length ≤ out.length + k) ∧ (∀ out w l res, ed k out w l = some res → res.1.length ≤ out.length + k)
  | 0 => ⟨fun _ _ _ h => by simp [bw] at h, fun _ _ _ _ h => by simp [qt] at h, fun _ _ _ _ h => by simp [ed] at h⟩
  | k + 1 => by
    have ih := TextWords.count k
    have e0 : ∀ (out : List ByteArray) (res : List ByteArray × Int), some (([] : List ByteArray), (11 : Int)) = some res → res.1.length ≤ out.length + (k + 1) := fun out res h => by
      rw [← Option.some.inj h]; simp
    have e1 : ∀ (out : List ByteArray) (res : List ByteArray × Int), some (out, (0 : Int)) = some res → res.1.length ≤ out.length + (k + 1) := fun out res h => by
      rw [← Option.some.inj h]; simp
    refine ⟨fun out l res h => ?_, fun out w l res h => ?_, fun out w l res h => ?_⟩
    · match l with
      | [] => simp only [bw] at h; exact e1 _ _ h
      | c :: r =>
        simp only [bw] at h
        split at h
        · have := ih.1 _ _ _ h; omega
        · split at h
          · exact e1 _ _ h
          · split at h
            · have := ih.2.1 _ _ _ _ h; omega
            · split at h
              · exact e0 _ _ h
              · have := ih.2.2 _ _ _ _ h; omega
    · match l with
      | [] => simp only [qt] at h; exact e0 _ _ h
      | c :: r =>
        rw [qt_step] at h
        split at h
        · exact e0 _ _ h
        · split at h
          · have := ih.2.2 _ _ _ _ h; omega
          · split at h
            · split at h
              · exact e0 _ _ h
              · have := ih.2.1 _ _ _ _ h; omega
            · have := ih.2.1 _ _ _ _ h; omega
    · match l with
      | [] => simp only [ed] at h; have := ih.1 _ _ _ h; simp at this; omega
      | c :: r =>
        simp only [ed] at h
        split at h
        · have := ih.1 _ _ _ h; simp at this; omega
        · exact e0 _ _ h
theorem TextWords.words_len (s : ByteArray) (hs : s.size ≤ 4000) (r : List ByteArray × Int) (h : XWords.words s = some r) : r.1.length ≤ 17000 := by
  have h2 : XWordsP.words s = some r := h
  unfold XWordsP.words at h2
  rw [if_pos (by omega)] at h2
  have := (TextWords.count _).1 _ _ _ h2
  simp at this
  omega
/-- The reference's words are the words. -/
theorem TextWords.ref (s : ByteArray) (hs : s.size ≤ 4000) (r : List ByteArray × Int) (h : XWords.words s = some r) : ∃ K, prebendref26_Words.f K s = some r := by
  have h2 : XWordsP.words s = some r := h
  unfold XWordsP.words at h2
  rw [if_pos (by omega)] at h2
  exact TextWords.good s hs _ _ (Nat.le_refl _) [] 0 r (by simp) (by omega) (by rw [List.drop_zero]; exact h2)

theorem TextWords.all (s : ByteArray) (hs : s.size ≤ 4000) : ∀ (n i : Nat), i + n = s.size → prebendref26_all.l0 (n + 1) s (i : Nat) = some (((bl s).drop i).all bareI && decide (0 < s.size))
  | 0, i, h => by
    rw [prebendref26_all.l0, if_neg (by omega), List.drop_eq_nil_of_le (by rw [bl_length]; omega)]
    simp
  | n + 1, i, h => by
    rw [at_lt (by omega), prebendref26_all.l0, if_pos (by omega), if_pos (by omega), TextWords.bare, Option.bind_some, wrap_nat i (by omega), List.all_cons]
    cases bareI (bt s (i : Nat)) with
    | true => rw [if_pos rfl, TextWords.all s hs n (i + 1) (by omega), Bool.true_and]
    | false => rw [if_neg (by decide)]; rfl
theorem TextWords.quote (s : ByteArray) (hs : s.size ≤ 4000) (k : Nat) (h : s.size + 1 ≤ k) : prebendref26_Quote.f k s = some (strOfNums (quoteL (bl s))) := by
  unfold prebendref26_Quote.f
  have ha : prebendref26_all.f k s = some ((bl s).all bareI && decide (0 < s.size)) :=
    lift_le (f := fun k => prebendref26_all.f k s) (fun k => prebendref26_all.mono s k) (n := s.size + 1) (TextWords.all s hs s.size 0 (by omega)) h
  rw [ha, Option.bind_some, TextWords.inS s (by omega), Option.bind_some]
  have hne : bl s ≠ [] ↔ 0 < s.size := by rw [← List.length_pos_iff, bl_length]
  unfold quoteL
  by_cases hp : 0 < s.size
  · rw [decide_eq_true hp, Bool.and_true]
    by_cases hq : (bl s).all bareI = true
    · rw [if_pos hq, if_pos ⟨hne.2 hp, hq⟩, strOfNums_bl]
    · rw [if_neg hq, if_neg (fun h => hq h.2)]
  · rw [decide_eq_false hp, Bool.and_false, if_neg (by decide), if_neg (fun h => hp (hne.1 h.1))]
theorem TextWords : prebendlaw26_TextWords.Pure := by
  intro a0 _
  obtain ⟨t, e, s⟩ := TextWords.short a0
  obtain ⟨r, hr⟩ := Option.isSome_iff_exists.1 (words_some t (by omega))
  obtain ⟨K, hK⟩ := TextWords.ref t (by omega) r hr
  have hl := TextWords.words_len t (by omega) r hr
  refine ⟨max K 20000, ?_⟩
  have c1 : K ≤ max K 20000 := Nat.le_max_left _ _
  have c2 : 20000 ≤ max K 20000 := Nat.le_max_right _ _
  generalize max K 20000 = k at *
  have hK' : prebendref26_Words.f k t = some r := lift_le (f := fun k => prebendref26_Words.f k t) (fun k => prebendref26_Words.mono t k) hK c1
  unfold prebendlaw26_TextWords.f
  rw [e, Option.bind_some, show text_Words.f t = some r from hr, Option.bind_some, hK', Option.bind_some, TextWords.awake k (by omega), Option.bind_some, if_pos rfl, TextWords.texts r.1 (by omega) k (by omega), Option.bind_some, if_pos rfl, if_pos rfl, show text_Quote.f t = some _ from quote_some t (by omega), Option.bind_some, TextWords.quote t (by omega) k (by omega), Option.bind_some]
  simp
end Go.Proofs.YtkenihkjdbdlkaaDoor.Pure
