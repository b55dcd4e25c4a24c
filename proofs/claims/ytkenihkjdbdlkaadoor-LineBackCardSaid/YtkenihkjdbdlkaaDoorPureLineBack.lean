import Derived.Test.YtkenihkjdbdlkaaDoorQLineBackx5
import Derived.Test.YtkenihkjdbdlkaaDoorXLine
namespace Go.Proofs.YtkenihkjdbdlkaaDoor.Pure
open Go.RowKit Go.Proofs.YtkenihkjdbdlkaaDoor.QLineBack Go.Proofs.YtkenihkjdbdlkaaDoorW.PrintWords Go.Proofs.YtkenihkjdbdlkaaDoorW.PrintLast XEsc XPlain XQuote XLines XWordsP XCut XNumber XNumP XBack XLine
set_option linter.unusedVariables false
theorem LineBack.awake_k : prebendlaw27_awake.f 60 = some true := by decide +kernel
theorem LineBack.awake (k : Nat) (h : 60 ≤ k) : prebendlaw27_awake.f k = some true := lift_le prebendlaw27_awake.mono LineBack.awake_k h
theorem LineBack.words : line_words.f = some KW := rfl
theorem LineBack.itoa (v : Int) (h : Fits v) : strconv_Itoa_34.f v = some (numeral v) := by
  show XTabs.itoa v = _
  unfold XTabs.itoa
  rw [if_pos (show -9223372036854775808 ≤ v ∧ v ≤ 9223372036854775807 from h)]
  rfl
theorem LineBack.kind0 (w : ByteArray) (L : List ByteArray) (hL : L.length ≤ 100) : ∀ (n i : Nat), i + n = L.length → line_kind.l0 (n + 1) w L (L.length : Nat) (i : Nat) = some (kindL (L.drop i) (i : Nat) w)
  | 0, i, h => by rw [line_kind.l0, if_neg (by omega), List.drop_eq_nil_of_le (by omega)]; rfl
  | n + 1, i, h => by
    have hi : i < L.length := by omega
    have hr : rdOf ByteArray.empty L (i : Nat) = L[i] := by unfold rdOf; simp [hi]
    rw [line_kind.l0, if_pos (by omega), if_pos (by omega), if_pos (by omega), hr, wrap_nat i (by omega), LineBack.kind0 w L hL n (i + 1) (by omega), List.drop_eq_getElem_cons hi, kindL]
    rw [show ((i + 1 : Nat) : Int) = (i : Int) + 1 by omega]
    by_cases hx : (L[i]).toList = w.toList
    · rw [if_pos hx, if_pos hx]
      by_cases hw : w.toList = []
      · rw [if_pos hw, if_pos hw]
      · rw [if_neg hw, if_neg hw]
    · rw [if_neg hx, if_neg hx]
theorem LineBack.kind (w : ByteArray) (k : Nat) (h : 30 ≤ k) : line_kind.f k w = some (kindOf w) := by
  have h29 : KW.length = 29 := by decide +kernel
  refine lift_le (f := fun k => line_kind.f k w) (fun k => line_kind.mono w k) (n := 30) ?_ h
  show line_kind.f 30 w = _
  unfold line_kind.f
  rw [LineBack.words, Option.bind_some]
  exact LineBack.kind0 w KW (by omega) 29 0 (by omega)
/-! ### Print -/
def qS (w : ByteArray) : ByteArray := strOfNums (quoteL (bl w))
def LineBack.optQ (n x : ByteArray) : List ByteArray := if x.toList = [] then [] else [n, qS x]
theorem LineBack.join (x : ByteArray) (r ws : List ByteArray) (hs : sp r = lineOf 1 ws) (h : (bl x ++ lineOf 1 ws).length ≤ 1000000) (hr : r.length ≤ 1000000) : ∃ t, strings_Join.f (x :: r) (⟨#[32]⟩ : ByteArray) = some t ∧ bl t = bl x ++ lineOf 1 ws := by
  rw [← hs] at h ⊢
  exact join_bl x r h hr
theorem LineBack.sp_opt (n x : ByteArray) (hn : quoteL (bl n) = bl n) : sp (LineBack.optQ n x) = lineOf 1 (opt n x) := by
  unfold LineBack.optQ opt
  split
  · rfl
  · rw [← sp_quoted, List.map_cons, List.map_cons, List.map_nil, quoted_of hn]; rfl
theorem LineBack.print2 (x0 : ByteArray) (r : List ByteArray) (kind : Int) (key name : ByteArray) (args : List Int) (ws : List ByteArray) (hws : sp r = lineOf 1 ws) (hk : key.size ≤ 100000) (hr : r.length ≤ 100000) (hz : (bl x0 ++ lineOf 1 (ws ++ opt keyB key)).length ≤ 1000000) (K : Nat) :
    ∃ t, line_Print.j2 (K + 1) (x0 :: r) kind key name args = some (t, 0) ∧ bl t = bl x0 ++ lineOf 1 (ws ++ opt keyB key) := by
  rw [line_Print.j2]
  by_cases h : key.toList = []
  · have ho : opt keyB key = [] := by unfold opt; rw [if_pos h]
    rw [ho, List.append_nil] at hz ⊢
    obtain ⟨t, e, hb⟩ := LineBack.join x0 r ws hws hz (by omega)
    rw [if_pos h, e, Option.bind_some]
    exact ⟨t, rfl, hb⟩
  · have hoq : LineBack.optQ keyB key = [keyB, qS key] := by unfold LineBack.optQ; rw [if_neg h]
    have hs2 : sp (r ++ [keyB, qS key]) = lineOf 1 (ws ++ opt keyB key) := by
      rw [sp_append, lineOf_append, hws, ← LineBack.sp_opt keyB key key_bare, hoq]
    obtain ⟨t, e, hb⟩ := LineBack.join x0 (r ++ [keyB, qS key]) (ws ++ opt keyB key) hs2 hz (by simp <;> omega)
    rw [if_neg h, show text_Quote.f key = some (qS key) from quote_some key (by omega), Option.bind_some, Option.bind_some, if_pos (by simp <;> omega)]
    rw [show (x0 :: r) ++ [(⟨#[107, 101, 121]⟩ : ByteArray), qS key] = x0 :: (r ++ [keyB, qS key]) from rfl, e, Option.bind_some]
    exact ⟨t, rfl, hb⟩
theorem LineBack.print0 (kind : Int) (key name : ByteArray) (A : List Int) (hA : ∀ a ∈ A, Fits a) (x0 : ByteArray) (hk : key.size ≤ 100000) (hn : name.size ≤ 100000) (hl : A.length ≤ 20000) (hz : (bl x0 ++ lineOf 1 (tailWords key name A)).length ≤ 1000000) :
    ∀ (b a : List Int), a ++ b = A → ∃ t, line_Print.l0 (b.length + 2) (x0 :: a.map numeral) A (A.length : Nat) (a.length : Nat) kind key name A = some (t, 0) ∧ bl t = bl x0 ++ lineOf 1 (tailWords key name A)
  | [], a, h => by
    rw [List.append_nil] at h
    subst h
    have hsa : sp (a.map numeral) = lineOf 1 (a.map numeral) := by
      rw [← sp_quoted]
      congr 1
      rw [List.map_map]
      refine List.map_congr_left fun v hv => ?_
      exact (quoted_of (numeral_bare v (hA v hv))).symm
    unfold tailWords at hz ⊢
    rw [← List.append_assoc] at hz ⊢
    rw [List.length_nil, line_Print.l0, if_neg (by omega)]
    by_cases h : name.toList = []
    · have ho : opt nameB name = [] := by unfold opt; rw [if_pos h]
      rw [ho, List.append_nil] at hz ⊢
      rw [if_pos h]
      exact LineBack.print2 x0 (a.map numeral) kind key name a (a.map numeral) hsa hk (by rw [List.length_map]; omega) hz 0
    · have hoq : LineBack.optQ nameB name = [nameB, qS name] := by unfold LineBack.optQ; rw [if_neg h]
      have hs2 : sp (a.map numeral ++ [nameB, qS name]) = lineOf 1 (a.map numeral ++ opt nameB name) := by
        rw [sp_append, lineOf_append, hsa, ← LineBack.sp_opt nameB name name_bare, hoq]
      rw [if_neg h, show text_Quote.f name = some (qS name) from quote_some name (by omega), Option.bind_some, Option.bind_some, if_pos (by simp <;> omega)]
      exact LineBack.print2 x0 (a.map numeral ++ [nameB, qS name]) kind key name a (a.map numeral ++ opt nameB name) hs2 hk (by simp <;> omega) hz 0
  | v :: b, a, h => by
    subst h
    obtain ⟨t, e, hb⟩ := LineBack.print0 kind key name (a ++ v :: b) hA x0 hk hn hl hz b (a ++ [v]) (by simp)
    refine ⟨t, ?_, hb⟩
    have hlen : (a ++ v :: b).length = a.length + (b.length + 1) := by simp
    have hrd : rd (a ++ v :: b) (a.length : Nat) = v := by unfold rd; simp
    rw [List.length_cons, line_Print.l0, if_pos (by omega), if_pos (by omega), if_pos (by omega), hrd, LineBack.itoa v (hA v (by simp)), Option.bind_some, if_pos (by simp <;> omega), wrap_nat _ (by omega)]
    rw [List.map_append, List.map_cons, List.map_nil, show (a ++ [v]).length = a.length + 1 by simp] at e
    exact e
theorem LineBack.print (kind : Int) (key name : ByteArray) (A : List Int) (hv : Valid kind) (hA : ∀ a ∈ A, Fits a) (hk : key.size ≤ 100000) (hn : name.size ≤ 100000) (hl : A.length ≤ 20000) (hz : (bl (kw kind) ++ lineOf 1 (tailWords key name A)).length ≤ 1000000) (k : Nat) (hk2 : A.length + 3 ≤ k) :
    ∃ t, line_Print.f k kind key name A = some (t, 0) ∧ bl t = bl (kw kind) ++ lineOf 1 (tailWords key name A) := by
  obtain ⟨t, e, hb⟩ := LineBack.print0 kind key name A hA (kw kind) hk hn hl hz A [] rfl
  refine ⟨t, lift_le (f := fun k => line_Print.f k kind key name A) (fun k => line_Print.mono kind key name A k) (n := A.length + 3) ?_ hk2, hb⟩
  have h29 : KW.length = 29 := by decide +kernel
  obtain ⟨h0, h1, h2⟩ := hv
  show line_Print.f (A.length + 3) kind key name A = _
  unfold line_Print.f
  rw [LineBack.words, Option.bind_some, if_neg (by omega), if_neg (by omega), if_pos h0, if_pos (by omega), line_Print.j0, if_neg, if_pos h0, if_pos (by omega)]
  · exact e
  · rw [show ((rdOf ByteArray.empty KW kind).toList == ([] : List UInt8)) = false by rw [beq_eq_false_iff_ne]; exact h2]; decide
theorem LineBack.print_bad (kind : Int) (key name : ByteArray) (A : List Int) (hv : ¬ Valid kind) (k : Nat) : line_Print.f (k + 1) kind key name A = some (⟨#[]⟩, 1) := by
  have h29 : KW.length = 29 := by decide +kernel
  unfold line_Print.f
  rw [LineBack.words, Option.bind_some]
  by_cases h0 : kind < 0
  · rw [if_pos h0, line_Print.j0, if_pos rfl]
  · rw [if_neg h0]
    by_cases h1 : kind ≥ (KW.length : Int)
    · rw [if_pos h1, line_Print.j0, if_pos rfl]
    · rw [if_neg h1, if_pos (by omega), if_pos (by omega), line_Print.j0, if_pos]
      by_cases h2 : (kw kind).toList = []
      · exact beq_iff_eq.2 h2
      · exact absurd ⟨by omega, by omega, h2⟩ hv
/-! ### Parse -/
theorem LineBack.named (r : List ByteArray) (nm : ByteArray) : line_named.f r nm = some (XLine.named nm r) := by
  unfold line_named.f
  match r with
  | [] => rw [if_pos (by decide)]; rfl
  | [a] => rw [if_pos (by simp)]; rfl
  | a :: b :: t =>
    rw [if_neg (by simp <;> omega), if_pos (by simp <;> omega), XLine.named, show rdOf ByteArray.empty (a :: b :: t) 0 = a from rfl, show rdOf ByteArray.empty (a :: b :: t) 1 = b from rfl]
    by_cases h1 : a.toList = nm.toList
    · rw [if_pos h1, if_pos (by simp <;> omega)]
      by_cases h2 : b.toList = []
      · rw [if_pos h2, if_neg (fun hc => hc.2 h2)]
      · rw [if_neg h2, if_pos (by simp <;> omega), if_pos ⟨h1, h2⟩]; rfl
    · rw [if_neg h1, if_neg (fun hc => h1 hc.1)]
theorem LineBack.parse2 (r : List ByteArray) (kind : Int) (args : List Int) (k : Nat) : line_Parse.j2 (k + 1) r kind ⟨#[]⟩ ⟨#[]⟩ args = some (rest kind args r) := by
  rw [line_Parse.j2, show line_named.f r (⟨#[110, 97, 109, 101]⟩ : ByteArray) = some (XLine.named nameB r) from LineBack.named r nameB, Option.bind_some, show line_named.f (XLine.named nameB r).2 (⟨#[107, 101, 121]⟩ : ByteArray) = some (XLine.named keyB (XLine.named nameB r).2) from LineBack.named _ keyB, Option.bind_some]
  unfold rest
  by_cases h : (XLine.named keyB (XLine.named nameB r).2).2 = []
  · rw [if_pos h, if_neg (by rw [h]; decide)]
  · have := List.length_pos_iff.2 h
    rw [if_neg h, if_pos (by omega)]; rfl
theorem LineBack.parse0 (kind : Int) : ∀ (r : List ByteArray) (args : List Int), args.length + r.length ≤ 1000000 → (∀ w ∈ r, w.size ≤ 1000000) → line_Parse.l0 (r.length + 2) r kind ⟨#[]⟩ ⟨#[]⟩ args = some (rest kind (args ++ (numsOf r).1) (numsOf r).2)
  | [], args, _, _ => by
    rw [List.length_nil, line_Parse.l0, if_neg (by decide), LineBack.parse2, numsOf, List.append_nil]
  | w :: r, args, hl, hw => by
    have hz := hw w (by simp)
    have hn : text_Number.f w = some (numberP w) := by
      show number w = _
      unfold number
      rw [if_pos (by omega)]
    rw [List.length_cons, line_Parse.l0, if_pos (by simp <;> omega), if_pos (by simp <;> omega), show rdOf ByteArray.empty (w :: r) 0 = w from rfl, hn, Option.bind_some, numsOf]
    rw [List.length_cons] at hl
    by_cases h : (numberP w).2 = true
    · rw [if_pos h, if_pos h, if_pos (by omega), if_pos (by simp <;> omega), List.drop_one, List.tail_cons, LineBack.parse0 kind r (args ++ [(numberP w).1]) (by simp <;> omega) (fun x hx => hw x (by simp [hx])), List.append_assoc]
      rfl
    · rw [if_neg h, if_neg h, show r.length + 1 + 1 = (r.length + 1) + 1 from rfl, LineBack.parse2, List.append_nil]
theorem LineBack.parse (s : ByteArray) (ws : List ByteArray) (e : Int) (h : text_Words.f s = some (ws, e)) (hl : ws.length ≤ 1000000) (hw : ∀ w ∈ ws, w.size ≤ 1000000) (k : Nat) (hk : ws.length + 40 ≤ k) : line_Parse.f k s = some (parseW (ws, e)) := by
  refine lift_le (f := fun k => line_Parse.f k s) (fun k => line_Parse.mono s k) (n := ws.length + 40) ?_ hk
  show line_Parse.f (ws.length + 40) s = _
  unfold line_Parse.f
  rw [h, Option.bind_some]
  by_cases he : e = 0
  · rw [if_pos he]
    match ws with
    | [] => rw [if_pos (by simp), line_Parse.j0, if_pos rfl]; rfl
    | w0 :: t =>
      have hk1 : ∀ k, 30 ≤ k → line_kind.f k (rdOf ByteArray.empty (w0 :: t) 0) = some (kindOf w0) := fun k hk => LineBack.kind w0 k hk
      rw [if_neg (by simp <;> omega), if_pos (by simp <;> omega), hk1 _ (by omega), Option.bind_some, line_Parse.j0, parseW, if_pos he]
      by_cases h0 : kindOf w0 = 0
      · rw [if_pos h0, if_pos (by rw [h0]; rfl)]; rfl
      · rw [if_neg h0, if_neg (by simpa using h0), if_pos (by simp <;> omega), hk1 _ (by rw [List.length_cons]; omega), Option.bind_some, if_pos (by simp <;> omega), List.drop_one, List.tail_cons]
        have hp := LineBack.parse0 (kindOf w0) t [] (by rw [List.length_cons] at hl; simp; omega) (fun x hx => hw x (by simp [hx]))
        rw [List.nil_append] at hp
        exact lift_le (f := fun k => line_Parse.l0 k t (kindOf w0) ⟨#[]⟩ ⟨#[]⟩ []) (fun k => (line_Parse.mono_l k).2.2 _ _ _ _ _) hp (by rw [List.length_cons]; omega)
  · rw [if_neg he, line_Parse.j0, if_pos rfl]
    match ws with
    | [] => rfl
    | w0 :: t => rw [parseW, if_neg he]; rfl
/-- A command's line, and the command that comes back of it. -/
theorem LineBack.back (kind : Int) (key name : ByteArray) (A : List Int) (hv : Valid kind) (hA : ∀ a ∈ A, Fits a) (hk : key.size ≤ 1000) (hn : name.size ≤ 1000) (hl : A.length ≤ 2000) (k : Nat) (hk2 : 10000 ≤ k) :
    ∃ t, line_Print.f k kind key name A = some (t, 0) ∧ bl t = bl (kw kind) ++ lineOf 1 (tailWords key name A) ∧ line_Parse.f k t = some (kind, key, name, A, 0) := by
  have h1 := tail_len key name A hA
  have h2 := kw_len kind hv
  have hz : (bl (kw kind) ++ lineOf 1 (tailWords key name A)).length ≤ 100000 := by rw [List.length_append, bl_length]; omega
  obtain ⟨t, e, hb⟩ := LineBack.print kind key name A hv hA (by omega) (by omega) (by omega) (by omega) k (by omega)
  refine ⟨t, e, hb, ?_⟩
  have hts : t.size ≤ 100000 := by rw [← bl_length, hb]; exact hz
  have hw : text_Words.f t = some (kw kind :: tailWords key name A, 0) := words_first (kw kind) _ t (by omega) (by rw [kw_bare kind hv]; exact hb)
  have hc := tail_count key name A
  rw [LineBack.parse t _ 0 hw (by rw [List.length_cons]; omega) (by
    intro w hm
    rcases List.mem_cons.1 hm with rfl | hm
    · omega
    · exact tail_small key name A hA 1000000 (by omega) (by omega) (by omega) w hm) k (by rw [List.length_cons]; omega), parse_back kind key name A hv hA]
theorem LineBack.same0 (kind : Int) (key name : ByteArray) (A : List Int) (hl : A.length ≤ 1000000) : ∀ (n i : Nat), i + n = A.length → prebendref27_Same.l0 (n + 1) (i : Nat) kind key name A kind key name A = some true
  | 0, i, h => by rw [prebendref27_Same.l0, if_neg (by omega)]
  | n + 1, i, h => by
    rw [prebendref27_Same.l0, if_pos (by omega), if_pos (by omega), if_pos (by omega), if_pos rfl, wrap_nat i (by omega)]
    exact LineBack.same0 kind key name A hl n (i + 1) (by omega)
theorem LineBack.same (kind : Int) (key name : ByteArray) (A : List Int) (hl : A.length ≤ 1000000) (k : Nat) (hk : A.length + 2 ≤ k) : prebendref27_Same.f k kind key name A kind key name A = some true := by
  refine lift_le (f := fun k => prebendref27_Same.f k kind key name A kind key name A) (fun k => prebendref27_Same.mono _ _ _ _ _ _ _ _ k) (n := A.length + 2) ?_ hk
  show prebendref27_Same.f (A.length + 2) kind key name A kind key name A = _
  unfold prebendref27_Same.f
  rw [if_pos rfl, if_pos rfl, if_pos rfl, prebendref27_Same.j0, if_neg (by simp)]
  exact LineBack.same0 kind key name A hl A.length 0 (by omega)

theorem LineBack.j1 (s : ByteArray) (hs : s.size ≤ 400) (k : Nat) (hk : 10000 ≤ k) : prebendlaw27_LineBack.j1 (k + 1) s = some true := by
  obtain ⟨ws, e, hw, hc, hz⟩ := words_ok s (by omega)
  have hp : line_Parse.f k s = some (parseW (ws, e)) := LineBack.parse s ws e hw (by omega) (fun w hm => by have := hz w hm; omega) k (by omega)
  rw [prebendlaw27_LineBack.j1, hp, Option.bind_some]
  rcases parseW_ok s.size ws e hz with hb | ⟨kind, key, name, A, he, hv, hA, h1, h2, h3⟩
  · rw [hb]
    unfold bad
    rw [if_neg (show ¬ ((11 : Int) = 0) by decide), LineBack.awake k (by omega), Option.bind_some, if_pos rfl, LineBack.same 0 _ _ [] (by decide) k (by simp; omega)]
    rfl
  · rw [he]
    obtain ⟨t, e1, _, e2⟩ := LineBack.back kind key name A hv hA (by omega) (by omega) (by omega) k hk
    rw [if_pos rfl]
    simp only
    rw [e1, Option.bind_some, e2, Option.bind_some, LineBack.awake k (by omega), Option.bind_some, if_pos rfl, if_pos rfl, if_pos rfl, LineBack.same kind key name A (by omega) k (by omega)]
    rfl
theorem LineBack.j0 (s : ByteArray) (k : Nat) (hk : 10000 ≤ k) : prebendlaw27_LineBack.j0 (k + 1 + 1) s = some true := by
  rw [prebendlaw27_LineBack.j0]
  by_cases h : (s.size : Int) > 400
  · rw [if_pos h, if_pos (by omega), if_pos (by omega)]
    exact LineBack.j1 _ (by rw [ByteArray.size_extract]; omega) k hk
  · rw [if_neg h]
    exact LineBack.j1 s (by omega) k hk
theorem LineBack : prebendlaw27_LineBack.Pure := by
  intro kind key name args s _ _ _ hargs _
  refine ⟨10000 + 1 + 1, ?_⟩
  have hk := cut_size key
  have hn := cut_size name
  have hl := cutA_len args
  have hA : ∀ a ∈ XSmall.cutA args, Fits a := fun a ha => fits_wf (hargs.2 a (cutA_mem args a ha))
  unfold prebendlaw27_LineBack.f
  rw [show prebendlaw27_small.f kind key name args = some (kind, XSmall.cut key, XSmall.cut name, XSmall.cutA args) from rfl, Option.bind_some]
  simp only
  by_cases hv : Valid kind
  · obtain ⟨t, e1, _, e2⟩ := LineBack.back kind (XSmall.cut key) (XSmall.cut name) (XSmall.cutA args) hv hA (by omega) (by omega) (by omega) (10000 + 1 + 1) (by omega)
    rw [e1, Option.bind_some, if_pos rfl, e2, Option.bind_some, if_pos rfl, LineBack.same kind (XSmall.cut key) (XSmall.cut name) (XSmall.cutA args) (by omega) (10000 + 1 + 1) (by omega), Option.bind_some, if_pos rfl]
    exact LineBack.j0 s 10000 (Nat.le_refl _)
  · rw [LineBack.print_bad kind _ _ _ hv (10000 + 1), Option.bind_some, if_neg (by decide)]
    exact LineBack.j0 s 10000 (Nat.le_refl _)
end Go.Proofs.YtkenihkjdbdlkaaDoor.Pure
