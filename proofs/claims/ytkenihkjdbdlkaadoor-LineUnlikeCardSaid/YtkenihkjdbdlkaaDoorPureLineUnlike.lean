import Derived.Test.YtkenihkjdbdlkaaDoorQLineUnlikex6
import Derived.Test.YtkenihkjdbdlkaaDoorXLine
namespace Go.Proofs.YtkenihkjdbdlkaaDoor.Pure
open Go.RowKit Go.Proofs.YtkenihkjdbdlkaaDoor.QLineUnlike Go.Proofs.YtkenihkjdbdlkaaDoorW.PrintWords Go.Proofs.YtkenihkjdbdlkaaDoorW.PrintLast XEsc XPlain XQuote XLines XWordsP XCut XNumber XNumP XBack XLine
set_option linter.unusedVariables false
theorem LineUnlike.awake_k : prebendlaw27_awake.f 60 = some true := by decide +kernel
theorem LineUnlike.awake (k : Nat) (h : 60 ≤ k) : prebendlaw27_awake.f k = some true := lift_le prebendlaw27_awake.mono LineUnlike.awake_k h
theorem LineUnlike.words : line_words.f = some KW := rfl
theorem LineUnlike.itoa (v : Int) (h : Fits v) : strconv_Itoa_34.f v = some (numeral v) := by
  show XTabs.itoa v = _
  unfold XTabs.itoa
  rw [if_pos (show -9223372036854775808 ≤ v ∧ v ≤ 9223372036854775807 from h)]
  rfl
theorem LineUnlike.kind0 (w : ByteArray) (L : List ByteArray) (hL : L.length ≤ 100) : ∀ (n i : Nat), i + n = L.length → line_kind.l0 (n + 1) w L (L.length : Nat) (i : Nat) = some (kindL (L.drop i) (i : Nat) w)
  | 0, i, h => by rw [line_kind.l0, if_neg (by omega), List.drop_eq_nil_of_le (by omega)]; rfl
  | n + 1, i, h => by
    have hi : i < L.length := by omega
    have hr : rdOf ByteArray.empty L (i : Nat) = L[i] := by unfold rdOf; simp [hi]
    rw [line_kind.l0, if_pos (by omega), if_pos (by omega), if_pos (by omega), hr, wrap_nat i (by omega), LineUnlike.kind0 w L hL n (i + 1) (by omega), List.drop_eq_getElem_cons hi, kindL]
    rw [show ((i + 1 : Nat) : Int) = (i : Int) + 1 by omega]
    by_cases hx : (L[i]).toList = w.toList
    · rw [if_pos hx, if_pos hx]
      by_cases hw : w.toList = []
      · rw [if_pos hw, if_pos hw]
      · rw [if_neg hw, if_neg hw]
    · rw [if_neg hx, if_neg hx]
theorem LineUnlike.kind (w : ByteArray) (k : Nat) (h : 30 ≤ k) : line_kind.f k w = some (kindOf w) := by
  have h29 : KW.length = 29 := by decide +kernel
  refine lift_le (f := fun k => line_kind.f k w) (fun k => line_kind.mono w k) (n := 30) ?_ h
  show line_kind.f 30 w = _
  unfold line_kind.f
  rw [LineUnlike.words, Option.bind_some]
  exact LineUnlike.kind0 w KW (by omega) 29 0 (by omega)
/-! ### Print -/
def qS (w : ByteArray) : ByteArray := strOfNums (quoteL (bl w))
def LineUnlike.optQ (n x : ByteArray) : List ByteArray := if x.toList = [] then [] else [n, qS x]
theorem LineUnlike.join (x : ByteArray) (r ws : List ByteArray) (hs : sp r = lineOf 1 ws) (h : (bl x ++ lineOf 1 ws).length ≤ 1000000) (hr : r.length ≤ 1000000) : ∃ t, strings_Join.f (x :: r) (⟨#[32]⟩ : ByteArray) = some t ∧ bl t = bl x ++ lineOf 1 ws := by
  rw [← hs] at h ⊢
  exact join_bl x r h hr
theorem LineUnlike.sp_opt (n x : ByteArray) (hn : quoteL (bl n) = bl n) : sp (LineUnlike.optQ n x) = lineOf 1 (opt n x) := by
  unfold LineUnlike.optQ opt
  split
  · rfl
  · rw [← sp_quoted, List.map_cons, List.map_cons, List.map_nil, quoted_of hn]; rfl
theorem LineUnlike.print2 (x0 : ByteArray) (r : List ByteArray) (kind : Int) (key name : ByteArray) (args : List Int) (ws : List ByteArray) (hws : sp r = lineOf 1 ws) (hk : key.size ≤ 100000) (hr : r.length ≤ 100000) (hz : (bl x0 ++ lineOf 1 (ws ++ opt keyB key)).length ≤ 1000000) (K : Nat) :
    ∃ t, line_Print.j2 (K + 1) (x0 :: r) kind key name args = some (t, 0) ∧ bl t = bl x0 ++ lineOf 1 (ws ++ opt keyB key) := by
  rw [line_Print.j2]
  by_cases h : key.toList = []
  · have ho : opt keyB key = [] := by unfold opt; rw [if_pos h]
    rw [ho, List.append_nil] at hz ⊢
    obtain ⟨t, e, hb⟩ := LineUnlike.join x0 r ws hws hz (by omega)
    rw [if_pos h, e, Option.bind_some]
    exact ⟨t, rfl, hb⟩
  · have hoq : LineUnlike.optQ keyB key = [keyB, qS key] := by unfold LineUnlike.optQ; rw [if_neg h]
    have hs2 : sp (r ++ [keyB, qS key]) = lineOf 1 (ws ++ opt keyB key) := by
      rw [sp_append, lineOf_append, hws, ← LineUnlike.sp_opt keyB key key_bare, hoq]
    obtain ⟨t, e, hb⟩ := LineUnlike.join x0 (r ++ [keyB, qS key]) (ws ++ opt keyB key) hs2 hz (by simp <;> omega)
    rw [if_neg h, show text_Quote.f key = some (qS key) from quote_some key (by omega), Option.bind_some, Option.bind_some, if_pos (by simp <;> omega)]
    rw [show (x0 :: r) ++ [(⟨#[107, 101, 121]⟩ : ByteArray), qS key] = x0 :: (r ++ [keyB, qS key]) from rfl, e, Option.bind_some]
    exact ⟨t, rfl, hb⟩
theorem LineUnlike.print0 (kind : Int) (key name : ByteArray) (A : List Int) (hA : ∀ a ∈ A, Fits a) (x0 : ByteArray) (hk : key.size ≤ 100000) (hn : name.size ≤ 100000) (hl : A.length ≤ 20000) (hz : (bl x0 ++ lineOf 1 (tailWords key name A)).length ≤ 1000000) :
    ∀ (b a : List Int), a ++ b = A → ∃ t, line_Print.l0 (b.length + 2) (x0 :: a.map numeral) A (A.length : Nat) (a.length : Nat) kind key name A = some (t, 0) ∧ bl t = bl x0 ++ lineOf 1 (tailWords key name A)
  | [], a, h => by
    rw [List.append_nil] at h
    subst h
    have hsa : sp (a.map numeral) = lineOf 1 (a.map numeral) := by
      rw [← sp_quoted]
      congr 1
      rw [List.map_map]
      refine List.map_congr_left fun v hv => ?_
      exact (quoted_of (numeral_bare v (hA v hv))).symm
    unfold tailWords at hz ⊢
    rw [← List.append_assoc] at hz ⊢
    rw [List.length_nil, line_Print.l0, if_neg (by omega)]
    by_cases h : name.toList = []
    · have ho : opt nameB name = [] := by unfold opt; rw [if_pos h]
      rw [ho, List.append_nil] at hz ⊢
      rw [if_pos h]
      exact LineUnlike.print2 x0 (a.map numeral) kind key name a (a.map numeral) hsa hk (by rw [List.length_map]; omega) hz 0
    · have hoq : LineUnlike.optQ nameB name = [nameB, qS name] := by unfold LineUnlike.optQ; rw [if_neg h]
      have hs2 : sp (a.map numeral ++ [nameB, qS name]) = lineOf 1 (a.map numeral ++ opt nameB name) := by
        rw [sp_append, lineOf_append, hsa, ← LineUnlike.sp_opt nameB name name_bare, hoq]
      rw [if_neg h, show text_Quote.f name = some (qS name) from quote_some name (by omega), Option.bind_some, Option.bind_some, if_pos (by simp <;> omega)]
      exact LineUnlike.print2 x0 (a.map numeral ++ [nameB, qS name]) kind key name a (a.map numeral ++ opt nameB name) hs2 hk (by simp <;> omega) hz 0
  | v :: b, a, h => by
    subst h
    obtain ⟨t, e, hb⟩ := LineUnlike.print0 kind key name (a ++ v :: b) hA x0 hk hn hl hz b (a ++ [v]) (by simp)
    refine ⟨t, ?_, hb⟩
    have hlen : (a ++ v :: b).length = a.length + (b.length + 1) := by simp
    have hrd : rd (a ++ v :: b) (a.length : Nat) = v := by unfold rd; simp
    rw [List.length_cons, line_Print.l0, if_pos (by omega), if_pos (by omega), if_pos (by omega), hrd, LineUnlike.itoa v (hA v (by simp)), Option.bind_some, if_pos (by simp <;> omega), wrap_nat _ (by omega)]
    rw [List.map_append, List.map_cons, List.map_nil, show (a ++ [v]).length = a.length + 1 by simp] at e
    exact e
theorem LineUnlike.print (kind : Int) (key name : ByteArray) (A : List Int) (hv : Valid kind) (hA : ∀ a ∈ A, Fits a) (hk : key.size ≤ 100000) (hn : name.size ≤ 100000) (hl : A.length ≤ 20000) (hz : (bl (kw kind) ++ lineOf 1 (tailWords key name A)).length ≤ 1000000) (k : Nat) (hk2 : A.length + 3 ≤ k) :
    ∃ t, line_Print.f k kind key name A = some (t, 0) ∧ bl t = bl (kw kind) ++ lineOf 1 (tailWords key name A) := by
  obtain ⟨t, e, hb⟩ := LineUnlike.print0 kind key name A hA (kw kind) hk hn hl hz A [] rfl
  refine ⟨t, lift_le (f := fun k => line_Print.f k kind key name A) (fun k => line_Print.mono kind key name A k) (n := A.length + 3) ?_ hk2, hb⟩
  have h29 : KW.length = 29 := by decide +kernel
  obtain ⟨h0, h1, h2⟩ := hv
  show line_Print.f (A.length + 3) kind key name A = _
  unfold line_Print.f
  rw [LineUnlike.words, Option.bind_some, if_neg (by omega), if_neg (by omega), if_pos h0, if_pos (by omega), line_Print.j0, if_neg, if_pos h0, if_pos (by omega)]
  · exact e
  · rw [show ((rdOf ByteArray.empty KW kind).toList == ([] : List UInt8)) = false by rw [beq_eq_false_iff_ne]; exact h2]; decide
theorem LineUnlike.print_bad (kind : Int) (key name : ByteArray) (A : List Int) (hv : ¬ Valid kind) (k : Nat) : line_Print.f (k + 1) kind key name A = some (⟨#[]⟩, 1) := by
  have h29 : KW.length = 29 := by decide +kernel
  unfold line_Print.f
  rw [LineUnlike.words, Option.bind_some]
  by_cases h0 : kind < 0
  · rw [if_pos h0, line_Print.j0, if_pos rfl]
  · rw [if_neg h0]
    by_cases h1 : kind ≥ (KW.length : Int)
    · rw [if_pos h1, line_Print.j0, if_pos rfl]
    · rw [if_neg h1, if_pos (by omega), if_pos (by omega), line_Print.j0, if_pos]
      by_cases h2 : (kw kind).toList = []
      · exact beq_iff_eq.2 h2
      · exact absurd ⟨by omega, by omega, h2⟩ hv
/-! ### Parse -/
theorem LineUnlike.named (r : List ByteArray) (nm : ByteArray) : line_named.f r nm = some (XLine.named nm r) := by
  unfold line_named.f
  match r with
  | [] => rw [if_pos (by decide)]; rfl
  | [a] => rw [if_pos (by simp)]; rfl
  | a :: b :: t =>
    rw [if_neg (by simp <;> omega), if_pos (by simp <;> omega), XLine.named, show rdOf ByteArray.empty (a :: b :: t) 0 = a from rfl, show rdOf ByteArray.empty (a :: b :: t) 1 = b from rfl]
    by_cases h1 : a.toList = nm.toList
    · rw [if_pos h1, if_pos (by simp <;> omega)]
      by_cases h2 : b.toList = []
      · rw [if_pos h2, if_neg (fun hc => hc.2 h2)]
      · rw [if_neg h2, if_pos (by simp <;> omega), if_pos ⟨h1, h2⟩]; rfl
    · rw [if_neg h1, if_neg (fun hc => h1 hc.1)]
theorem LineUnlike.parse2 (r : List ByteArray) (kind : Int) (args : List Int) (k : Nat) : line_Parse.j2 (k + 1) r kind ⟨#[]⟩ ⟨#[]⟩ args = some (rest kind args r) := by
  rw [line_Parse.j2, show line_named.f r (⟨#[110, 97, 109, 101]⟩ : ByteArray) = some (XLine.named nameB r) from LineUnlike.named r nameB, Option.bind_some, show line_named.f (XLine.named nameB r).2 (⟨#[107, 101, 121]⟩ : ByteArray) = some (XLine.named keyB (XLine.named nameB r).2) from LineUnlike.named _ keyB, Option.bind_some]
  unfold rest
  by_cases h : (XLine.named keyB (XLine.named nameB r).2).2 = []
  · rw [if_pos h, if_neg (by rw [h]; decide)]
  · have := List.length_pos_iff.2 h
    rw [if_neg h, if_pos (by omega)]; rfl
theorem LineUnlike.parse0 (kind : Int) : ∀ (r : List ByteArray) (args : List Int), args.length + r.length ≤ 1000000 → (∀ w ∈ r, w.size ≤ 1000000) → line_Parse.l0 (r.length + 2) r kind ⟨#[]⟩ ⟨#[]⟩ args = some (rest kind (args ++ (numsOf r).1) (numsOf r).2)
  | [], args, _, _ => by
    rw [List.length_nil, line_Parse.l0, if_neg (by decide), LineUnlike.parse2, numsOf, List.append_nil]
  | w :: r, args, hl, hw => by
    have hz := hw w (by simp)
    have hn : text_Number.f w = some (numberP w) := by
      show number w = _
      unfold number
      rw [if_pos (by omega)]
    rw [List.length_cons, line_Parse.l0, if_pos (by simp <;> omega), if_pos (by simp <;> omega), show rdOf ByteArray.empty (w :: r) 0 = w from rfl, hn, Option.bind_some, numsOf]
    rw [List.length_cons] at hl
    by_cases h : (numberP w).2 = true
    · rw [if_pos h, if_pos h, if_pos (by omega), if_pos (by simp <;> omega), List.drop_one, List.tail_cons, LineUnlike.parse0 kind r (args ++ [(numberP w).1]) (by simp <;> omega) (fun x hx => hw x (by simp [hx])), List.append_assoc]
      rfl
    · rw [if_neg h, if_neg h, show r.length + 1 + 1 = (r.length + 1) + 1 from rfl, LineUnlike.parse2, List.append_nil]
theorem LineUnlike.parse (s : ByteArray) (ws : List ByteArray) (e : Int) (h : text_Words.f s = some (ws, e)) (hl : ws.length ≤ 1000000) (hw : ∀ w ∈ ws, w.size ≤ 1000000) (k : Nat) (hk : ws.length + 40 ≤ k) : line_Parse.f k s = some (parseW (ws, e)) := by
  refine lift_le (f := fun k => line_Parse.f k s) (fun k => line_Parse.mono s k) (n := ws.length + 40) ?_ hk
  show line_Parse.f (ws.length + 40) s = _
  unfold line_Parse.f
  rw [h, Option.bind_some]
  by_cases he : e = 0
  · rw [if_pos he]
    match ws with
    | [] => rw [if_pos (by simp), line_Parse.j0, if_pos rfl]; rfl
    | w0 :: t =>
      have hk1 : ∀ k, 30 ≤ k → line_kind.f k (rdOf ByteArray.empty (w0 :: t) 0) = some (kindOf w0) := fun k hk => LineUnlike.kind w0 k hk
      rw [if_neg (by simp <;> omega), if_pos (by simp <;> omega), hk1 _ (by omega), Option.bind_some, line_Parse.j0, parseW, if_pos he]
      by_cases h0 : kindOf w0 = 0
      · rw [if_pos h0, if_pos (by rw [h0]; rfl)]; rfl
      · rw [if_neg h0, if_neg (by simpa using h0), if_pos (by simp <;> omega), hk1 _ (by rw [List.length_cons]; omega), Option.bind_some, if_pos (by simp <;> omega), List.drop_one, List.tail_cons]
        have hp := LineUnlike.parse0 (kindOf w0) t [] (by rw [List.length_cons] at hl; simp; omega) (fun x hx => hw x (by simp [hx]))
        rw [List.nil_append] at hp
        exact lift_le (f := fun k => line_Parse.l0 k t (kindOf w0) ⟨#[]⟩ ⟨#[]⟩ []) (fun k => (line_Parse.mono_l k).2.2 _ _ _ _ _) hp (by rw [List.length_cons]; omega)
  · rw [if_neg he, line_Parse.j0, if_pos rfl]
    match ws with
    | [] => rfl
    | w0 :: t => rw [parseW, if_neg he]; rfl
/-- A command's line, and the command that comes back of it. -/
theorem LineUnlike.back (kind : Int) (key name : ByteArray) (A : List Int) (hv : Valid kind) (hA : ∀ a ∈ A, Fits a) (hk : key.size ≤ 1000) (hn : name.size ≤ 1000) (hl : A.length ≤ 2000) (k : Nat) (hk2 : 10000 ≤ k) :
    ∃ t, line_Print.f k kind key name A = some (t, 0) ∧ bl t = bl (kw kind) ++ lineOf 1 (tailWords key name A) ∧ line_Parse.f k t = some (kind, key, name, A, 0) := by
  have h1 := tail_len key name A hA
  have h2 := kw_len kind hv
  have hz : (bl (kw kind) ++ lineOf 1 (tailWords key name A)).length ≤ 100000 := by rw [List.length_append, bl_length]; omega
  obtain ⟨t, e, hb⟩ := LineUnlike.print kind key name A hv hA (by omega) (by omega) (by omega) (by omega) k (by omega)
  refine ⟨t, e, hb, ?_⟩
  have hts : t.size ≤ 100000 := by rw [← bl_length, hb]; exact hz
  have hw : text_Words.f t = some (kw kind :: tailWords key name A, 0) := words_first (kw kind) _ t (by omega) (by rw [kw_bare kind hv]; exact hb)
  have hc := tail_count key name A
  rw [LineUnlike.parse t _ 0 hw (by rw [List.length_cons]; omega) (by
    intro w hm
    rcases List.mem_cons.1 hm with rfl | hm
    · omega
    · exact tail_small key name A hA 1000000 (by omega) (by omega) (by omega) w hm) k (by rw [List.length_cons]; omega), parse_back kind key name A hv hA]
theorem LineUnlike.same0 (kind : Int) (key name : ByteArray) (A : List Int) (hl : A.length ≤ 1000000) : ∀ (n i : Nat), i + n = A.length → prebendref27_Same.l0 (n + 1) (i : Nat) kind key name A kind key name A = some true
  | 0, i, h => by rw [prebendref27_Same.l0, if_neg (by omega)]
  | n + 1, i, h => by
    rw [prebendref27_Same.l0, if_pos (by omega), if_pos (by omega), if_pos (by omega), if_pos rfl, wrap_nat i (by omega)]
    exact LineUnlike.same0 kind key name A hl n (i + 1) (by omega)
theorem LineUnlike.same (kind : Int) (key name : ByteArray) (A : List Int) (hl : A.length ≤ 1000000) (k : Nat) (hk : A.length + 2 ≤ k) : prebendref27_Same.f k kind key name A kind key name A = some true := by
  refine lift_le (f := fun k => prebendref27_Same.f k kind key name A kind key name A) (fun k => prebendref27_Same.mono _ _ _ _ _ _ _ _ k) (n := A.length + 2) ?_ hk
  show prebendref27_Same.f (A.length + 2) kind key name A kind key name A = _
  unfold prebendref27_Same.f
  rw [if_pos rfl, if_pos rfl, if_pos rfl, prebendref27_Same.j0, if_neg (by simp)]
  exact LineUnlike.same0 kind key name A hl A.length 0 (by omega)

theorem LineUnlike.same1 (kind : Int) (key name : ByteArray) (A : List Int) (kind' : Int) (key' name' : ByteArray) (A' : List Int) (hl : A.length ≤ 1000000) (hA : A.length = A'.length) : ∀ (n i : Nat), i + n = A.length → prebendref27_Same.l0 (n + 1) (i : Nat) kind key name A kind' key' name' A' = some (decide (A.drop i = A'.drop i))
  | 0, i, h => by
    rw [prebendref27_Same.l0, if_neg (by omega), List.drop_eq_nil_of_le (by omega), List.drop_eq_nil_of_le (by omega)]
    simp
  | n + 1, i, h => by
    have hi : i < A.length := by omega
    have hj : i < A'.length := by omega
    have d1 : A.drop i = A[i] :: A.drop (i + 1) := List.drop_eq_getElem_cons hi
    have d2 : A'.drop i = A'[i] :: A'.drop (i + 1) := List.drop_eq_getElem_cons hj
    have e1 : rd A (i : Nat) = A[i] := by unfold rd; simp [hi]
    have e2 : rd A' (i : Nat) = A'[i] := by unfold rd; simp [hj]
    rw [prebendref27_Same.l0, if_pos (by omega), if_pos (by omega), if_pos (by omega), e1, e2, wrap_nat i (by omega), LineUnlike.same1 kind key name A kind' key' name' A' hl hA n (i + 1) (by omega), d1, d2]
    by_cases hc : A[i] = A'[i]
    · rw [if_pos hc, hc]
      have : (A.drop (i + 1) = A'.drop (i + 1)) ↔ (A'[i] :: A.drop (i + 1) = A'[i] :: A'.drop (i + 1)) := ⟨fun h => by rw [h], fun h => (List.cons.inj h).2⟩
      exact congrArg some (decide_eq_decide.2 this)
    · rw [if_neg hc]
      exact congrArg some (decide_eq_false (fun h => hc (List.cons.inj h).1)).symm
theorem LineUnlike.sameb (kind : Int) (key name : ByteArray) (A : List Int) (kind' : Int) (key' name' : ByteArray) (A' : List Int) (hl : A.length ≤ 1000000) (k : Nat) (hk : A.length + 2 ≤ k) : prebendref27_Same.f k kind key name A kind' key' name' A' = some (decide ((kind, key, name, A) = (kind', key', name', A'))) := by
  refine lift_le (f := fun k => prebendref27_Same.f k kind key name A kind' key' name' A') (fun k => prebendref27_Same.mono _ _ _ _ _ _ _ _ k) (n := A.length + 2) ?_ hk
  show prebendref27_Same.f (A.length + 2) kind key name A kind' key' name' A' = _
  unfold prebendref27_Same.f
  have no : ¬ ((kind, key, name, A) = (kind', key', name', A')) → some false = some (decide ((kind, key, name, A) = (kind', key', name', A'))) := fun h => by rw [decide_eq_false h]
  by_cases h1 : kind = kind'
  · rw [if_pos h1]
    by_cases h2 : key.toList = key'.toList
    · rw [if_pos h2]
      by_cases h3 : name.toList = name'.toList
      · rw [if_pos h3]
        by_cases h4 : A.length = A'.length
        · rw [prebendref27_Same.j0, if_neg (by rw [h4]; simp)]
          have := LineUnlike.same1 kind key name A kind' key' name' A' hl h4 A.length 0 (by omega)
          rw [List.drop_zero, List.drop_zero] at this
          refine this.trans (congrArg some (decide_eq_decide.2 ?_))
          rw [h1, toList_inj h2, toList_inj h3]
          exact ⟨fun h => by rw [h], fun h => by injection h with _ h; injection h with _ h; injection h⟩
        · rw [prebendref27_Same.j0, if_pos (by rw [bne_iff_ne]; omega)]
          exact no (fun h => h4 (by injection h with _ h; injection h with _ h; injection h with _ h; rw [h]))
      · rw [if_neg h3, prebendref27_Same.j0, if_pos rfl]
        exact no (fun h => h3 (by injection h with _ h; injection h with _ h; injection h with h _; rw [h]))
    · rw [if_neg h2, prebendref27_Same.j0, if_pos rfl]
      exact no (fun h => h2 (by injection h with _ h; injection h with h _; rw [h]))
  · rw [if_neg h1, prebendref27_Same.j0, if_pos rfl]
    exact no (fun h => h1 (by injection h))
/-! ### replies -/
def LineUnlike.base (e : Int) : List Int := if e = 0 then [111, 107] else [101, 114, 114, 32] ++ bl (numeral e)
theorem LineUnlike.out3 (x : ByteArray) (hx : x.size ≤ 100) (n m l : Int) (hn : Fits n) (hm : Fits m) (hl : Fits l) (e n' m' l' : Int) (k : Nat) :
    ∃ t, line_Reply.l0 (k + 4) x [n, m, l] 3 0 = some t ∧ bl t = bl x ++ sp [numeral n, numeral m, numeral l] := by
  have h1 : (⟨#[32]⟩ : ByteArray).size = 1 := rfl
  have zn := numeral_size n hn
  have zm := numeral_size m hm
  have zl := numeral_size l hl
  have b1 : bl (⟨#[32]⟩ : ByteArray) = [32] := by decide +kernel
  refine ⟨x ++ ((⟨#[32]⟩ : ByteArray) ++ numeral n) ++ ((⟨#[32]⟩ : ByteArray) ++ numeral m) ++ ((⟨#[32]⟩ : ByteArray) ++ numeral l), ?_, ?_⟩
  · rw [line_Reply.l0, if_pos (by decide), if_pos (by decide), if_pos (by simp), show rd [n, m, l] 0 = n from rfl, LineUnlike.itoa n hn, Option.bind_some, if_pos (by omega), if_pos (by simp only [ByteArray.size_append]; omega), show wrap64 (0 + 1) = 1 by unfold wrap64; rfl]
    rw [line_Reply.l0, if_pos (by decide), if_pos (by decide), if_pos (by simp), show rd [n, m, l] 1 = m from rfl, LineUnlike.itoa m hm, Option.bind_some, if_pos (by omega), if_pos (by simp only [ByteArray.size_append]; omega), show wrap64 (1 + 1) = 2 by unfold wrap64; rfl]
    rw [line_Reply.l0, if_pos (by decide), if_pos (by decide), if_pos (by simp), show rd [n, m, l] 2 = l from rfl, LineUnlike.itoa l hl, Option.bind_some, if_pos (by omega), if_pos (by simp only [ByteArray.size_append]; omega), show wrap64 (2 + 1) = 3 by unfold wrap64; rfl]
    rw [line_Reply.l0, if_neg (by decide)]
  · simp only [bl_append, b1, sp, List.flatMap_cons, List.flatMap_nil, List.append_assoc, List.append_nil, List.cons_append, List.nil_append]
theorem LineUnlike.reply (e n m l : Int) (he : Fits e) (hn : Fits n) (hm : Fits m) (hl : Fits l) (k : Nat) : ∃ t, line_Reply.f (k + 5) e n m l = some t ∧ bl t = LineUnlike.base e ++ sp [numeral n, numeral m, numeral l] := by
  unfold line_Reply.f LineUnlike.base
  by_cases h : e = 0
  · obtain ⟨t, e1, hb⟩ := LineUnlike.out3 (⟨#[111, 107]⟩ : ByteArray) (by decide) n m l hn hm hl e n m l k
    rw [if_pos h, if_pos h, line_Reply.j0, Option.bind_some]
    exact ⟨t, e1, by rw [hb, show bl (⟨#[111, 107]⟩ : ByteArray) = [111, 107] by decide +kernel]⟩
  · have ze := numeral_size e he
    have h4 : (⟨#[101, 114, 114, 32]⟩ : ByteArray).size = 4 := rfl
    obtain ⟨t, e1, hb⟩ := LineUnlike.out3 ((⟨#[101, 114, 114, 32]⟩ : ByteArray) ++ numeral e) (by rw [ByteArray.size_append]; omega) n m l hn hm hl e n m l k
    rw [if_neg h, if_neg h, LineUnlike.itoa e he, Option.bind_some, if_pos (by omega), line_Reply.j0, Option.bind_some]
    exact ⟨t, e1, by rw [hb, bl_append, show bl (⟨#[101, 114, 114, 32]⟩ : ByteArray) = [101, 114, 114, 32] by decide +kernel]⟩
def LineUnlike.okB : ByteArray := ⟨#[111, 107]⟩
def LineUnlike.errB : ByteArray := ⟨#[101, 114, 114]⟩
def LineUnlike.rwords (e n m l : Int) : List ByteArray := if e = 0 then [LineUnlike.okB, numeral n, numeral m, numeral l] else [LineUnlike.errB, numeral e, numeral n, numeral m, numeral l]
theorem LineUnlike.sp_nums (A : List Int) (h : ∀ a ∈ A, Fits a) : sp (A.map numeral) = lineOf 1 (A.map numeral) := by
  rw [← sp_quoted]
  congr 1
  rw [List.map_map]
  exact List.map_congr_left fun v hv => (quoted_of (numeral_bare v (h v hv))).symm
theorem LineUnlike.rline (e n m l : Int) (he : Fits e) (hn : Fits n) (hm : Fits m) (hl : Fits l) (t : ByteArray) (ht : bl t = LineUnlike.base e ++ sp [numeral n, numeral m, numeral l]) : XWordsP.words t = some (LineUnlike.rwords e n m l, 0) := by
  have ze := numeral_size e he
  have zn := numeral_size n hn
  have zm := numeral_size m hm
  have zl := numeral_size l hl
  have hts : t.size ≤ 1000 := by
    rw [← bl_length, ht, LineUnlike.base]
    split <;> simp [sp, bl_length] <;> omega
  unfold LineUnlike.rwords
  by_cases h : e = 0
  · rw [if_pos h]
    have hs : sp [numeral n, numeral m, numeral l] = lineOf 1 [numeral n, numeral m, numeral l] := LineUnlike.sp_nums [n, m, l] (by intro a ha; simp at ha; rcases ha with rfl | rfl | rfl <;> assumption)
    refine words_first LineUnlike.okB _ t (by omega) ?_
    rw [ht, LineUnlike.base, if_pos h, hs, show quoteL (bl LineUnlike.okB) = [111, 107] by decide +kernel]
  · rw [if_neg h]
    have hs : sp [numeral e, numeral n, numeral m, numeral l] = lineOf 1 [numeral e, numeral n, numeral m, numeral l] := LineUnlike.sp_nums [e, n, m, l] (by intro a ha; simp at ha; rcases ha with rfl | rfl | rfl | rfl <;> assumption)
    refine words_first LineUnlike.errB _ t (by omega) ?_
    rw [ht, LineUnlike.base, if_neg h, ← hs, show quoteL (bl LineUnlike.errB) = [101, 114, 114] by decide +kernel]
    simp [sp]
theorem LineUnlike.rinj (e n m l e' n' m' l' : Int) (he : Fits e) (hn : Fits n) (hm : Fits m) (hl : Fits l) (he' : Fits e') (hn' : Fits n') (hm' : Fits m') (hl' : Fits l') (h : LineUnlike.rwords e n m l = LineUnlike.rwords e' n' m' l') : e = e' ∧ n = n' ∧ m = m' ∧ l = l' := by
  have hne : LineUnlike.okB ≠ LineUnlike.errB := by decide +kernel
  unfold LineUnlike.rwords at h
  by_cases h1 : e = 0
  · by_cases h2 : e' = 0
    · rw [if_pos h1, if_pos h2] at h
      simp only [List.cons.injEq, and_true, true_and] at h
      exact ⟨by omega, numeral_inj hn hn' h.1, numeral_inj hm hm' h.2.1, numeral_inj hl hl' h.2.2⟩
    · rw [if_pos h1, if_neg h2] at h
      exact absurd (List.cons.inj h).1 hne
  · by_cases h2 : e' = 0
    · rw [if_neg h1, if_pos h2] at h
      exact absurd (List.cons.inj h).1.symm hne
    · rw [if_neg h1, if_neg h2] at h
      simp only [List.cons.injEq, and_true, true_and] at h
      exact ⟨numeral_inj he he' h.1, numeral_inj hn hn' h.2.1, numeral_inj hm hm' h.2.2.1, numeral_inj hl hl' h.2.2.2⟩
theorem LineUnlike.j0 (e n m l e' n' m' l' : Int) (he : Fits e) (hn : Fits n) (hm : Fits m) (hl : Fits l) (he' : Fits e') (hn' : Fits n') (hm' : Fits m') (hl' : Fits l') (k : Nat) (hk : 100 ≤ k) : prebendlaw27_LineUnlike.j0 (k + 5 + 1) false e n m l e' n' m' l' = some true := by
  obtain ⟨t, r1, q1⟩ := LineUnlike.reply e n m l he hn hm hl k
  obtain ⟨u, r2, q2⟩ := LineUnlike.reply e' n' m' l' he' hn' hm' hl' k
  rw [prebendlaw27_LineUnlike.j0, if_neg (by decide), LineUnlike.awake _ (by omega), Option.bind_some, if_pos rfl, r1, Option.bind_some, r2, Option.bind_some, toList_beq]
  refine congrArg some ?_
  by_cases h : t = u
  · have w1 := LineUnlike.rline e n m l he hn hm hl t q1
    have w2 := LineUnlike.rline e' n' m' l' he' hn' hm' hl' u q2
    rw [h, w2] at w1
    obtain ⟨rfl, rfl, rfl, rfl⟩ := LineUnlike.rinj e' n' m' l' e n m l he' hn' hm' hl' he hn hm hl (by injection w1 with w1; injection w1)
    rw [decide_eq_true h]
    simp
  · rw [decide_eq_false h]
    have : ¬ (e = e' ∧ n = n' ∧ m = m' ∧ l = l') := fun ⟨a, b, c, d⟩ => h (bl_inj (by rw [q1, q2, a, b, c, d]))
    have hb : (e == e' && (n == n' && (m == m' && (l == l')))) = false := by
      rw [Bool.eq_false_iff]
      intro hc
      simp only [Bool.and_eq_true, beq_iff_eq] at hc
      exact this ⟨hc.1, hc.2.1, hc.2.2.1, hc.2.2.2⟩
    rw [hb]; rfl
theorem LineUnlike : prebendlaw27_LineUnlike.Pure := by
  intro kind key name args kind' key' name' args' e n m l e' n' m' l' _ _ _ hargs _ _ _ hargs' he hn hm hl he' hn' hm' hl'
  refine ⟨20000 + 5 + 1, ?_⟩
  have z1 := cut_size key
  have z2 := cut_size name
  have z3 := cutA_len args
  have z1' := cut_size key'
  have z2' := cut_size name'
  have z3' := cutA_len args'
  have hA : ∀ a ∈ XSmall.cutA args, Fits a := fun a ha => fits_wf (hargs.2 a (cutA_mem args a ha))
  have hA' : ∀ a ∈ XSmall.cutA args', Fits a := fun a ha => fits_wf (hargs'.2 a (cutA_mem args' a ha))
  have J := LineUnlike.j0 e n m l e' n' m' l' (fits_wf he) (fits_wf hn) (fits_wf hm) (fits_wf hl) (fits_wf he') (fits_wf hn') (fits_wf hm') (fits_wf hl') 20000 (by omega)
  have hs1 : prebendlaw27_small.f kind key name args = some (kind, XSmall.cut key, XSmall.cut name, XSmall.cutA args) := rfl
  have hs2 : prebendlaw27_small.f kind' key' name' args' = some (kind', XSmall.cut key', XSmall.cut name', XSmall.cutA args') := rfl
  unfold prebendlaw27_LineUnlike.f
  simp only [hs1, hs2, Option.bind_some]
  by_cases hv : Valid kind
  · obtain ⟨t, e1, hb, p1⟩ := LineUnlike.back kind (XSmall.cut key) (XSmall.cut name) (XSmall.cutA args) hv hA (by omega) (by omega) (by omega) (20000 + 5 + 1) (by omega)
    by_cases hv' : Valid kind'
    · obtain ⟨u, e2, hb', p2⟩ := LineUnlike.back kind' (XSmall.cut key') (XSmall.cut name') (XSmall.cutA args') hv' hA' (by omega) (by omega) (by omega) (20000 + 5 + 1) (by omega)
      have hq : decide (t = u) = decide ((kind, XSmall.cut key, XSmall.cut name, XSmall.cutA args) = (kind', XSmall.cut key', XSmall.cut name', XSmall.cutA args')) := by
        refine decide_eq_decide.2 ⟨fun h => ?_, fun h => ?_⟩
        · rw [h, p2] at p1
          injection p1 with p1
          injection p1 with a1 p1
          injection p1 with a2 p1
          injection p1 with a3 p1
          injection p1 with a4 p1
          rw [a1, a2, a3, a4]
        · injection h with a1 h
          injection h with a2 h
          injection h with a3 a4
          rw [a1, a2, a3, a4, e2] at e1
          injection e1 with e1
          injection e1 with e1
          exact e1.symm
      simp only [e1, e2, Option.bind_some]
      rw [if_pos trivial, if_pos trivial, LineUnlike.sameb kind (XSmall.cut key) (XSmall.cut name) (XSmall.cutA args) kind' (XSmall.cut key') (XSmall.cut name') (XSmall.cutA args') (by omega) _ (by omega), Option.bind_some, toList_beq, hq]
      rw [show ∀ b : Bool, (b != b) = false from fun b => by cases b <;> rfl]
      exact J
    · simp only [e1, LineUnlike.print_bad kind' (XSmall.cut key') (XSmall.cut name') (XSmall.cutA args') hv' (20000 + 5), Option.bind_some]
      rw [if_pos trivial, if_neg (by decide)]
      exact J
  · by_cases hv' : Valid kind'
    · obtain ⟨u, e2, hb', p2⟩ := LineUnlike.back kind' (XSmall.cut key') (XSmall.cut name') (XSmall.cutA args') hv' hA' (by omega) (by omega) (by omega) (20000 + 5 + 1) (by omega)
      simp only [LineUnlike.print_bad kind (XSmall.cut key) (XSmall.cut name) (XSmall.cutA args) hv (20000 + 5), e2, Option.bind_some]
      rw [if_neg (by decide)]
      exact J
    · simp only [LineUnlike.print_bad kind (XSmall.cut key) (XSmall.cut name) (XSmall.cutA args) hv (20000 + 5), LineUnlike.print_bad kind' (XSmall.cut key') (XSmall.cut name') (XSmall.cutA args') hv' (20000 + 5), Option.bind_some]
      rw [if_neg (by decide)]
      exact J
end Go.Proofs.YtkenihkjdbdlkaaDoor.Pure
