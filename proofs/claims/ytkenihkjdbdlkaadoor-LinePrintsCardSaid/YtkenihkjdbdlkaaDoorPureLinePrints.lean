import Derived.Test.YtkenihkjdbdlkaaDoorQLinePrintsx8
import Derived.Test.YtkenihkjdbdlkaaDoorXLineR
namespace Go.Proofs.YtkenihkjdbdlkaaDoor.Pure
open Go.RowKit Go.Proofs.YtkenihkjdbdlkaaDoor.QLinePrints Go.Proofs.YtkenihkjdbdlkaaDoorW.PrintWords Go.Proofs.YtkenihkjdbdlkaaDoorW.PrintLast XEsc XPlain XQuote XLines XWordsP XCut XNumber XNumP XBack XLine XLineR
set_option linter.unusedVariables false
theorem LinePrints.awake_k : prebendlaw27_awake.f 60 = some true := by decide +kernel
theorem LinePrints.awake (k : Nat) (h : 60 ≤ k) : prebendlaw27_awake.f k = some true := lift_le prebendlaw27_awake.mono LinePrints.awake_k h
theorem LinePrints.words : line_words.f = some KW := rfl
theorem LinePrints.itoa (v : Int) (h : Fits v) : strconv_Itoa_34.f v = some (numeral v) := by
  show XTabs.itoa v = _
  unfold XTabs.itoa
  rw [if_pos (show -9223372036854775808 ≤ v ∧ v ≤ 9223372036854775807 from h)]
  rfl
theorem LinePrints.kind0 (w : ByteArray) (L : List ByteArray) (hL : L.length ≤ 100) : ∀ (n i : Nat), i + n = L.length → line_kind.l0 (n + 1) w L (L.length : Nat) (i : Nat) = some (kindL (L.drop i) (i : Nat) w)
  | 0, i, h => by rw [line_kind.l0, if_neg (by omega), List.drop_eq_nil_of_le (by omega)]; rfl
  | n + 1, i, h => by
    have hi : i < L.length := by omega
    have hr : rdOf ByteArray.empty L (i : Nat) = L[i] := by unfold rdOf; simp [hi]
    rw [line_kind.l0, if_pos (by omega), if_pos (by omega), if_pos (by omega), hr, wrap_nat i (by omega), LinePrints.kind0 w L hL n (i + 1) (by omega), List.drop_eq_getElem_cons hi, kindL]
    rw [show ((i + 1 : Nat) : Int) = (i : Int) + 1 by omega]
    by_cases hx : (L[i]).toList = w.toList
    · rw [if_pos hx, if_pos hx]
      by_cases hw : w.toList = []
      · rw [if_pos hw, if_pos hw]
      · rw [if_neg hw, if_neg hw]
    · rw [if_neg hx, if_neg hx]
theorem LinePrints.kind (w : ByteArray) (k : Nat) (h : 30 ≤ k) : line_kind.f k w = some (kindOf w) := by
  have h29 : KW.length = 29 := by decide +kernel
  refine lift_le (f := fun k => line_kind.f k w) (fun k => line_kind.mono w k) (n := 30) ?_ h
  show line_kind.f 30 w = _
  unfold line_kind.f
  rw [LinePrints.words, Option.bind_some]
  exact LinePrints.kind0 w KW (by omega) 29 0 (by omega)
/-! ### Print -/
def qS (w : ByteArray) : ByteArray := strOfNums (quoteL (bl w))
def LinePrints.optQ (n x : ByteArray) : List ByteArray := if x.toList = [] then [] else [n, qS x]
theorem LinePrints.join (x : ByteArray) (r ws : List ByteArray) (hs : sp r = lineOf 1 ws) (h : (bl x ++ lineOf 1 ws).length ≤ 1000000) (hr : r.length ≤ 1000000) : ∃ t, strings_Join.f (x :: r) (⟨#[32]⟩ : ByteArray) = some t ∧ bl t = bl x ++ lineOf 1 ws := by
  rw [← hs] at h ⊢
  exact join_bl x r h hr
theorem LinePrints.sp_opt (n x : ByteArray) (hn : quoteL (bl n) = bl n) : sp (LinePrints.optQ n x) = lineOf 1 (opt n x) := by
  unfold LinePrints.optQ opt
  split
  · rfl
  · rw [← sp_quoted, List.map_cons, List.map_cons, List.map_nil, quoted_of hn]; rfl
theorem LinePrints.print2 (x0 : ByteArray) (r : List ByteArray) (kind : Int) (key name : ByteArray) (args : List Int) (ws : List ByteArray) (hws : sp r = lineOf 1 ws) (hk : key.size ≤ 100000) (hr : r.length ≤ 100000) (hz : (bl x0 ++ lineOf 1 (ws ++ opt keyB key)).length ≤ 1000000) (K : Nat) :
    ∃ t, line_Print.j2 (K + 1) (x0 :: r) kind key name args = some (t, 0) ∧ bl t = bl x0 ++ lineOf 1 (ws ++ opt keyB key) := by
  rw [line_Print.j2]
  by_cases h : key.toList = []
  · have ho : opt keyB key = [] := by unfold opt; rw [if_pos h]
    rw [ho, List.append_nil] at hz ⊢
    obtain ⟨t, e, hb⟩ := LinePrints.join x0 r ws hws hz (by omega)
    rw [if_pos h, e, Option.bind_some]
    exact ⟨t, rfl, hb⟩
  · have hoq : LinePrints.optQ keyB key = [keyB, qS key] := by unfold LinePrints.optQ; rw [if_neg h]
    have hs2 : sp (r ++ [keyB, qS key]) = lineOf 1 (ws ++ opt keyB key) := by
      rw [sp_append, lineOf_append, hws, ← LinePrints.sp_opt keyB key key_bare, hoq]
    obtain ⟨t, e, hb⟩ := LinePrints.join x0 (r ++ [keyB, qS key]) (ws ++ opt keyB key) hs2 hz (by simp <;> omega)
    rw [if_neg h, show text_Quote.f key = some (qS key) from quote_some key (by omega), Option.bind_some, Option.bind_some, if_pos (by simp <;> omega)]
    rw [show (x0 :: r) ++ [(⟨#[107, 101, 121]⟩ : ByteArray), qS key] = x0 :: (r ++ [keyB, qS key]) from rfl, e, Option.bind_some]
    exact ⟨t, rfl, hb⟩
theorem LinePrints.print0 (kind : Int) (key name : ByteArray) (A : List Int) (hA : ∀ a ∈ A, Fits a) (x0 : ByteArray) (hk : key.size ≤ 100000) (hn : name.size ≤ 100000) (hl : A.length ≤ 20000) (hz : (bl x0 ++ lineOf 1 (tailWords key name A)).length ≤ 1000000) :
    ∀ (b a : List Int), a ++ b = A → ∃ t, line_Print.l0 (b.length + 2) (x0 :: a.map numeral) A (A.length : Nat) (a.length : Nat) kind key name A = some (t, 0) ∧ bl t = bl x0 ++ lineOf 1 (tailWords key name A)
  | [], a, h => by
    rw [List.append_nil] at h
    subst h
    have hsa : sp (a.map numeral) = lineOf 1 (a.map numeral) := by
      rw [← sp_quoted]
      congr 1
      rw [List.map_map]
      refine List.map_congr_left fun v hv => ?_
      exact (quoted_of (numeral_bare v (hA v hv))).symm
    unfold tailWords at hz ⊢
    rw [← List.append_assoc] at hz ⊢
    rw [List.length_nil, line_Print.l0, if_neg (by omega)]
    by_cases h : name.toList = []
    · have ho : opt nameB name = [] := by unfold opt; rw [if_pos h]
      rw [ho, List.append_nil] at hz ⊢
      rw [if_pos h]
      exact LinePrints.print2 x0 (a.map numeral) kind key name a (a.map numeral) hsa hk (by rw [List.length_map]; omega) hz 0
    · have hoq : LinePrints.optQ nameB name = [nameB, qS name] := by unfold LinePrints.optQ; rw [if_neg h]
      have hs2 : sp (a.map numeral ++ [nameB, qS name]) = lineOf 1 (a.map numeral ++ opt nameB name) := by
        rw [sp_append, lineOf_append, hsa, ← LinePrints.sp_opt nameB name name_bare, hoq]
      rw [if_neg h, show text_Quote.f name = some (qS name) from quote_some name (by omega), Option.bind_some, Option.bind_some, if_pos (by simp <;> omega)]
      exact LinePrints.print2 x0 (a.map numeral ++ [nameB, qS name]) kind key name a (a.map numeral ++ opt nameB name) hs2 hk (by simp <;> omega) hz 0
  | v :: b, a, h => by
    subst h
    obtain ⟨t, e, hb⟩ := LinePrints.print0 kind key name (a ++ v :: b) hA x0 hk hn hl hz b (a ++ [v]) (by simp)
    refine ⟨t, ?_, hb⟩
    have hlen : (a ++ v :: b).length = a.length + (b.length + 1) := by simp
    have hrd : rd (a ++ v :: b) (a.length : Nat) = v := by unfold rd; simp
    rw [List.length_cons, line_Print.l0, if_pos (by omega), if_pos (by omega), if_pos (by omega), hrd, LinePrints.itoa v (hA v (by simp)), Option.bind_some, if_pos (by simp <;> omega), wrap_nat _ (by omega)]
    rw [List.map_append, List.map_cons, List.map_nil, show (a ++ [v]).length = a.length + 1 by simp] at e
    exact e
theorem LinePrints.print (kind : Int) (key name : ByteArray) (A : List Int) (hv : Valid kind) (hA : ∀ a ∈ A, Fits a) (hk : key.size ≤ 100000) (hn : name.size ≤ 100000) (hl : A.length ≤ 20000) (hz : (bl (kw kind) ++ lineOf 1 (tailWords key name A)).length ≤ 1000000) (k : Nat) (hk2 : A.length + 3 ≤ k) :
    ∃ t, line_Print.f k kind key name A = some (t, 0) ∧ bl t = bl (kw kind) ++ lineOf 1 (tailWords key name A) := by
  obtain ⟨t, e, hb⟩ := LinePrints.print0 kind key name A hA (kw kind) hk hn hl hz A [] rfl
  refine ⟨t, lift_le (f := fun k => line_Print.f k kind key name A) (fun k => line_Print.mono kind key name A k) (n := A.length + 3) ?_ hk2, hb⟩
  have h29 : KW.length = 29 := by decide +kernel
  obtain ⟨h0, h1, h2⟩ := hv
  show line_Print.f (A.length + 3) kind key name A = _
  unfold line_Print.f
  rw [LinePrints.words, Option.bind_some, if_neg (by omega), if_neg (by omega), if_pos h0, if_pos (by omega), line_Print.j0, if_neg, if_pos h0, if_pos (by omega)]
  · exact e
  · rw [show ((rdOf ByteArray.empty KW kind).toList == ([] : List UInt8)) = false by rw [beq_eq_false_iff_ne]; exact h2]; decide
theorem LinePrints.print_bad (kind : Int) (key name : ByteArray) (A : List Int) (hv : ¬ Valid kind) (k : Nat) : line_Print.f (k + 1) kind key name A = some (⟨#[]⟩, 1) := by
  have h29 : KW.length = 29 := by decide +kernel
  unfold line_Print.f
  rw [LinePrints.words, Option.bind_some]
  by_cases h0 : kind < 0
  · rw [if_pos h0, line_Print.j0, if_pos rfl]
  · rw [if_neg h0]
    by_cases h1 : kind ≥ (KW.length : Int)
    · rw [if_pos h1, line_Print.j0, if_pos rfl]
    · rw [if_neg h1, if_pos (by omega), if_pos (by omega), line_Print.j0, if_pos]
      by_cases h2 : (kw kind).toList = []
      · exact beq_iff_eq.2 h2
      · exact absurd ⟨by omega, by omega, h2⟩ hv
/-! ### Parse -/
theorem LinePrints.named (r : List ByteArray) (nm : ByteArray) : line_named.f r nm = some (XLine.named nm r) := by
  unfold line_named.f
  match r with
  | [] => rw [if_pos (by decide)]; rfl
  | [a] => rw [if_pos (by simp)]; rfl
  | a :: b :: t =>
    rw [if_neg (by simp <;> omega), if_pos (by simp <;> omega), XLine.named, show rdOf ByteArray.empty (a :: b :: t) 0 = a from rfl, show rdOf ByteArray.empty (a :: b :: t) 1 = b from rfl]
    by_cases h1 : a.toList = nm.toList
    · rw [if_pos h1, if_pos (by simp <;> omega)]
      by_cases h2 : b.toList = []
      · rw [if_pos h2, if_neg (fun hc => hc.2 h2)]
      · rw [if_neg h2, if_pos (by simp <;> omega), if_pos ⟨h1, h2⟩]; rfl
    · rw [if_neg h1, if_neg (fun hc => h1 hc.1)]
theorem LinePrints.parse2 (r : List ByteArray) (kind : Int) (args : List Int) (k : Nat) : line_Parse.j2 (k + 1) r kind ⟨#[]⟩ ⟨#[]⟩ args = some (rest kind args r) := by
  rw [line_Parse.j2, show line_named.f r (⟨#[110, 97, 109, 101]⟩ : ByteArray) = some (XLine.named nameB r) from LinePrints.named r nameB, Option.bind_some, show line_named.f (XLine.named nameB r).2 (⟨#[107, 101, 121]⟩ : ByteArray) = some (XLine.named keyB (XLine.named nameB r).2) from LinePrints.named _ keyB, Option.bind_some]
  unfold rest
  by_cases h : (XLine.named keyB (XLine.named nameB r).2).2 = []
  · rw [if_pos h, if_neg (by rw [h]; decide)]
  · have := List.length_pos_iff.2 h
    rw [if_neg h, if_pos (by omega)]; rfl
theorem LinePrints.parse0 (kind : Int) : ∀ (r : List ByteArray) (args : List Int), args.length + r.length ≤ 1000000 → (∀ w ∈ r, w.size ≤ 1000000) → line_Parse.l0 (r.length + 2) r kind ⟨#[]⟩ ⟨#[]⟩ args = some (rest kind (args ++ (numsOf r).1) (numsOf r).2)
  | [], args, _, _ => by
    rw [List.length_nil, line_Parse.l0, if_neg (by decide), LinePrints.parse2, numsOf, List.append_nil]
  | w :: r, args, hl, hw => by
    have hz := hw w (by simp)
    have hn : text_Number.f w = some (numberP w) := by
      show number w = _
      unfold number
      rw [if_pos (by omega)]
    rw [List.length_cons, line_Parse.l0, if_pos (by simp <;> omega), if_pos (by simp <;> omega), show rdOf ByteArray.empty (w :: r) 0 = w from rfl, hn, Option.bind_some, numsOf]
    rw [List.length_cons] at hl
    by_cases h : (numberP w).2 = true
    · rw [if_pos h, if_pos h, if_pos (by omega), if_pos (by simp <;> omega), List.drop_one, List.tail_cons, LinePrints.parse0 kind r (args ++ [(numberP w).1]) (by simp <;> omega) (fun x hx => hw x (by simp [hx])), List.append_assoc]
      rfl
    · rw [if_neg h, if_neg h, show r.length + 1 + 1 = (r.length + 1) + 1 from rfl, LinePrints.parse2, List.append_nil]
theorem LinePrints.parse (s : ByteArray) (ws : List ByteArray) (e : Int) (h : text_Words.f s = some (ws, e)) (hl : ws.length ≤ 1000000) (hw : ∀ w ∈ ws, w.size ≤ 1000000) (k : Nat) (hk : ws.length + 40 ≤ k) : line_Parse.f k s = some (parseW (ws, e)) := by
  refine lift_le (f := fun k => line_Parse.f k s) (fun k => line_Parse.mono s k) (n := ws.length + 40) ?_ hk
  show line_Parse.f (ws.length + 40) s = _
  unfold line_Parse.f
  rw [h, Option.bind_some]
  by_cases he : e = 0
  · rw [if_pos he]
    match ws with
    | [] => rw [if_pos (by simp), line_Parse.j0, if_pos rfl]; rfl
    | w0 :: t =>
      have hk1 : ∀ k, 30 ≤ k → line_kind.f k (rdOf ByteArray.empty (w0 :: t) 0) = some (kindOf w0) := fun k hk => LinePrints.kind w0 k hk
      rw [if_neg (by simp <;> omega), if_pos (by simp <;> omega), hk1 _ (by omega), Option.bind_some, line_Parse.j0, parseW, if_pos he]
      by_cases h0 : kindOf w0 = 0
      · rw [if_pos h0, if_pos (by rw [h0]; rfl)]; rfl
      · rw [if_neg h0, if_neg (by simpa using h0), if_pos (by simp <;> omega), hk1 _ (by rw [List.length_cons]; omega), Option.bind_some, if_pos (by simp <;> omega), List.drop_one, List.tail_cons]
        have hp := LinePrints.parse0 (kindOf w0) t [] (by rw [List.length_cons] at hl; simp; omega) (fun x hx => hw x (by simp [hx]))
        rw [List.nil_append] at hp
        exact lift_le (f := fun k => line_Parse.l0 k t (kindOf w0) ⟨#[]⟩ ⟨#[]⟩ []) (fun k => (line_Parse.mono_l k).2.2 _ _ _ _ _) hp (by rw [List.length_cons]; omega)
  · rw [if_neg he, line_Parse.j0, if_pos rfl]
    match ws with
    | [] => rfl
    | w0 :: t => rw [parseW, if_neg he]; rfl
/-- A command's line, and the command that comes back of it. -/
theorem LinePrints.back (kind : Int) (key name : ByteArray) (A : List Int) (hv : Valid kind) (hA : ∀ a ∈ A, Fits a) (hk : key.size ≤ 1000) (hn : name.size ≤ 1000) (hl : A.length ≤ 2000) (k : Nat) (hk2 : 10000 ≤ k) :
    ∃ t, line_Print.f k kind key name A = some (t, 0) ∧ bl t = bl (kw kind) ++ lineOf 1 (tailWords key name A) ∧ line_Parse.f k t = some (kind, key, name, A, 0) := by
  have h1 := tail_len key name A hA
  have h2 := kw_len kind hv
  have hz : (bl (kw kind) ++ lineOf 1 (tailWords key name A)).length ≤ 100000 := by rw [List.length_append, bl_length]; omega
  obtain ⟨t, e, hb⟩ := LinePrints.print kind key name A hv hA (by omega) (by omega) (by omega) (by omega) k (by omega)
  refine ⟨t, e, hb, ?_⟩
  have hts : t.size ≤ 100000 := by rw [← bl_length, hb]; exact hz
  have hw : text_Words.f t = some (kw kind :: tailWords key name A, 0) := words_first (kw kind) _ t (by omega) (by rw [kw_bare kind hv]; exact hb)
  have hc := tail_count key name A
  rw [LinePrints.parse t _ 0 hw (by rw [List.length_cons]; omega) (by
    intro w hm
    rcases List.mem_cons.1 hm with rfl | hm
    · omega
    · exact tail_small key name A hA 1000000 (by omega) (by omega) (by omega) w hm) k (by rw [List.length_cons]; omega), parse_back kind key name A hv hA]
theorem LinePrints.same0 (kind : Int) (key name : ByteArray) (A : List Int) (hl : A.length ≤ 1000000) : ∀ (n i : Nat), i + n = A.length → prebendref27_Same.l0 (n + 1) (i : Nat) kind key name A kind key name A = some true
  | 0, i, h => by rw [prebendref27_Same.l0, if_neg (by omega)]
  | n + 1, i, h => by
    rw [prebendref27_Same.l0, if_pos (by omega), if_pos (by omega), if_pos (by omega), if_pos rfl, wrap_nat i (by omega)]
    exact LinePrints.same0 kind key name A hl n (i + 1) (by omega)
theorem LinePrints.same (kind : Int) (key name : ByteArray) (A : List Int) (hl : A.length ≤ 1000000) (k : Nat) (hk : A.length + 2 ≤ k) : prebendref27_Same.f k kind key name A kind key name A = some true := by
  refine lift_le (f := fun k => prebendref27_Same.f k kind key name A kind key name A) (fun k => prebendref27_Same.mono _ _ _ _ _ _ _ _ k) (n := A.length + 2) ?_ hk
  show prebendref27_Same.f (A.length + 2) kind key name A kind key name A = _
  unfold prebendref27_Same.f
  rw [if_pos rfl, if_pos rfl, if_pos rfl, prebendref27_Same.j0, if_neg (by simp)]
  exact LinePrints.same0 kind key name A hl A.length 0 (by omega)

theorem LinePrints.word_all : ∀ n : Fin 29, prebendref27_word.f (n.val : Int) = some (kwz (n.val : Int)) := by decide +kernel
theorem LinePrints.word (n : Int) : prebendref27_word.f n = some (kwz n) := by
  by_cases h : 0 ≤ n ∧ n < 29
  · have := LinePrints.word_all ⟨n.toNat, by omega⟩
    simp only at this
    rwa [show ((n.toNat : Nat) : Int) = n by omega] at this
  · rw [kwz_no (fun hv => h ⟨hv.1, hv.2.1⟩)]
    unfold prebendref27_word.f
    repeat rw [if_neg (by omega)]
theorem LinePrints.u64 (n : Int) : IntKind.u64.wrap n = n % 18446744073709551616 := IntKind.wrap_u64 n
theorem LinePrints.numl (a : Int) : ∀ (n u : Nat) (x : ByteArray), u < 10 ^ (n + 1) → u < 18446744073709551616 → x.size + n ≤ 100 → ∃ t, prebendref26_Num.l0 (n + 1) a (u : Nat) x = some t ∧ bl t = (if a < 0 then [45] else []) ++ dI u ++ bl x
  | n, u, x, h, hu, hx => by
    by_cases h9 : (u : Int) > 9
    · match n with
      | 0 => simp at h; omega
      | n + 1 =>
        have hd : dI u = dI (u / 10) ++ [48 + (u : Int) % 10] := dI_step (by omega)
        have e1 : (IntKind.u64.wrap (48 + Int.tmod (u : Int) 10)) % 256 = 48 + (u : Int) % 10 := by rw [LinePrints.u64, Int.tmod_eq_emod_of_nonneg (by omega)]; omega
        have e2 : IntKind.u64.wrap (Int.tdiv (u : Int) 10) = ((u / 10 : Nat) : Int) := by rw [LinePrints.u64, Int.tdiv_eq_ediv_of_nonneg (by omega)]; omega
        have z : (strOfNums [48 + (u : Int) % 10]).size = 1 := nums_size _
        obtain ⟨t, e, hb⟩ := LinePrints.numl a n (u / 10) (strOfNums [48 + (u : Int) % 10] ++ x) (by rw [Nat.pow_succ] at h; omega) (by omega) (by rw [ByteArray.size_append]; omega)
        refine ⟨t, ?_, ?_⟩
        · rw [prebendref26_Num.l0, if_pos h9, e1, e2, Option.bind_some, if_pos (by omega)]; exact e
        · rw [hb, hd, bl_append, bl_strOfNums _ (by intro c hc; rw [List.mem_singleton] at hc; omega)]
          simp
    · have hd : dI u = [48 + (u : Int)] := dI_small (by omega)
      have e1 : (IntKind.u64.wrap (48 + (u : Int))) % 256 = 48 + (u : Int) := by rw [LinePrints.u64]; omega
      have z : (strOfNums [48 + (u : Int)]).size = 1 := nums_size _
      rw [prebendref26_Num.l0, if_neg h9, e1, Option.bind_some, if_pos (by omega)]
      have hb : bl (strOfNums [48 + (u : Int)] ++ x) = dI u ++ bl x := by
        rw [hd, bl_append, bl_strOfNums _ (by intro c hc; rw [List.mem_singleton] at hc; omega)]
      by_cases ha : a < 0
      · rw [if_pos ha, if_pos (by rw [ByteArray.size_append]; omega)]
        refine ⟨_, rfl, ?_⟩
        rw [bl_append, hb, if_pos ha, show bl (⟨#[45]⟩ : ByteArray) = [45] by decide +kernel, List.append_assoc]
      · rw [if_neg ha]
        refine ⟨_, rfl, ?_⟩
        rw [hb, if_neg ha]; rfl
theorem LinePrints.num (a : Int) (h : -9223372036854775808 ≤ a ∧ a ≤ 9223372036854775807) (k : Nat) (hk : 22 ≤ k) : prebendref26_Num.f k a = some (numeral a) := by
  refine lift_le (f := fun k => prebendref26_Num.f k a) (fun k => prebendref26_Num.mono a k) (n := 22) ?_ hk
  show prebendref26_Num.f 22 a = _
  unfold prebendref26_Num.f
  by_cases ha : a < 0
  · have e : IntKind.u64.wrap (-(IntKind.u64.wrap a)) = ((a.natAbs : Nat) : Int) := by rw [LinePrints.u64, LinePrints.u64]; omega
    obtain ⟨t, e2, hb⟩ := LinePrints.numl a 20 a.natAbs ⟨#[]⟩ (by omega) (by omega) (by decide)
    rw [if_pos ha, prebendref26_Num.j0, e, e2]
    congr 1
    apply bl_inj
    rw [hb, bl_numeral, if_pos ha, if_pos ha, show bl (⟨#[]⟩ : ByteArray) = [] by decide +kernel]
    simp
  · have e : IntKind.u64.wrap a = ((a.toNat : Nat) : Int) := by rw [LinePrints.u64]; omega
    obtain ⟨t, e2, hb⟩ := LinePrints.numl a 20 a.toNat ⟨#[]⟩ (by omega) (by omega) (by decide)
    rw [if_neg ha, prebendref26_Num.j0, e, e2]
    congr 1
    apply bl_inj
    rw [hb, bl_numeral, if_neg ha, if_neg ha, show bl (⟨#[]⟩ : ByteArray) = [] by decide +kernel]
    simp
theorem LinePrints.refwords0 (kind : Int) (key name : ByteArray) (A : List Int) (hA : ∀ a ∈ A, Fits a) (hl : A.length ≤ 100000) (x0 : ByteArray) : ∀ (b a : List Int), a ++ b = A → prebendref27_Words.l0 (b.length + 24) (x0 :: a.map numeral) (a.length : Nat) kind key name A = some (x0 :: tailWords key name A)
  | [], a, h => by
    rw [List.append_nil] at h
    subst h
    have hc : (x0 :: a.map numeral).length = a.length + 1 := by simp
    unfold tailWords opt
    rw [List.length_nil, prebendref27_Words.l0, if_neg (by omega)]
    by_cases h1 : name.toList = []
    · rw [if_pos h1, if_pos h1]
      by_cases h2 : key.toList = []
      · rw [if_pos h2, if_pos h2, List.append_nil, List.append_nil]
      · rw [if_neg h2, if_neg h2, Option.bind_some, if_pos (by simp; omega), Option.bind_some, Option.bind_some, if_pos (by simp; omega)]
        simp [keyB]
    · rw [if_neg h1, if_neg h1, Option.bind_some, if_pos (by simp; omega), Option.bind_some, Option.bind_some, if_pos (by simp; omega), Option.bind_some]
      by_cases h2 : key.toList = []
      · rw [if_pos h2, if_pos h2]
        simp [nameB]
      · rw [if_neg h2, if_neg h2, Option.bind_some, if_pos (by simp; omega), Option.bind_some, Option.bind_some, if_pos (by simp; omega)]
        simp [nameB, keyB]
  | v :: b, a, h => by
    subst h
    have hlen : (a ++ v :: b).length = a.length + (b.length + 1) := by simp
    have hrd : rd (a ++ v :: b) (a.length : Nat) = v := by unfold rd; simp
    have ih := LinePrints.refwords0 kind key name (a ++ v :: b) hA hl x0 b (a ++ [v]) (by simp)
    rw [List.map_append, List.map_cons, List.map_nil, show (a ++ [v]).length = a.length + 1 by simp] at ih
    rw [List.length_cons, show b.length + 1 + 24 = (b.length + 24) + 1 by omega, prebendref27_Words.l0, if_pos (by omega), if_pos (by omega), hrd, LinePrints.num v (hA v (by simp)) (b.length + 24) (by omega), Option.bind_some, Option.bind_some, if_pos (by simp; omega), wrap_nat _ (by omega)]
    exact ih
theorem LinePrints.refwords (kind : Int) (key name : ByteArray) (A : List Int) (hA : ∀ a ∈ A, Fits a) (hl : A.length ≤ 100000) (k : Nat) (hk : A.length + 24 ≤ k) : prebendref27_Words.f k kind key name A = some (kwz kind :: tailWords key name A) := by
  unfold prebendref27_Words.f
  rw [LinePrints.word, Option.bind_some]
  exact lift_le (f := fun k => prebendref27_Words.l0 k [kwz kind] 0 kind key name A) (fun k => prebendref27_Words.mono_l k _ _ _ _ _ _) (LinePrints.refwords0 kind key name A hA hl (kwz kind) A [] rfl) hk

theorem LinePrints.bare (c : Int) : prebendref26_bare.f c = some (bareI c) := by
  have e : (32 < c) = (c ≥ 33) := propext (by omega)
  unfold prebendref26_bare.f bareI
  simp only [e]
  by_cases h1 : c ≥ 33 <;> by_cases h2 : c ≤ 126 <;> by_cases h3 : c = 34 <;> by_cases h4 : c = 92 <;> simp [h1, h2, h3, h4, bne]
theorem LinePrints.inS (t : ByteArray) (h : t.size ≤ 1099511627776) : prebendref26_In.f t = some (strOfNums (34 :: (bl t).flatMap q1 ++ [34])) := by
  show XIn.inS t = _
  unfold XIn.inS
  rw [if_pos h]
theorem LinePrints.all (s : ByteArray) (hs : s.size ≤ 4000) : ∀ (n i : Nat), i + n = s.size → prebendref26_all.l0 (n + 1) s (i : Nat) = some (((bl s).drop i).all bareI && decide (0 < s.size))
  | 0, i, h => by
    rw [prebendref26_all.l0, if_neg (by omega), List.drop_eq_nil_of_le (by rw [bl_length]; omega)]
    simp
  | n + 1, i, h => by
    rw [at_lt (by omega), prebendref26_all.l0, if_pos (by omega), if_pos (by omega), LinePrints.bare, Option.bind_some, wrap_nat i (by omega), List.all_cons]
    cases bareI (bt s (i : Nat)) with
    | true => rw [if_pos rfl, LinePrints.all s hs n (i + 1) (by omega), Bool.true_and]
    | false => rw [if_neg (by decide)]; rfl
theorem LinePrints.quote (s : ByteArray) (hs : s.size ≤ 4000) (k : Nat) (h : s.size + 1 ≤ k) : prebendref26_Quote.f k s = some (strOfNums (quoteL (bl s))) := by
  unfold prebendref26_Quote.f
  have ha : prebendref26_all.f k s = some ((bl s).all bareI && decide (0 < s.size)) :=
    lift_le (f := fun k => prebendref26_all.f k s) (fun k => prebendref26_all.mono s k) (n := s.size + 1) (LinePrints.all s hs s.size 0 (by omega)) h
  rw [ha, Option.bind_some, LinePrints.inS s (by omega), Option.bind_some]
  have hne : bl s ≠ [] ↔ 0 < s.size := by rw [← List.length_pos_iff, bl_length]
  unfold quoteL
  by_cases hp : 0 < s.size
  · rw [decide_eq_true hp, Bool.and_true]
    by_cases hq : (bl s).all bareI = true
    · rw [if_pos hq, if_pos ⟨hne.2 hp, hq⟩, strOfNums_bl]
    · rw [if_neg hq, if_neg (fun h => hq h.2)]
  · rw [decide_eq_false hp, Bool.and_false, if_neg (by decide), if_neg (fun h => hp (hne.1 h.1))]

theorem LinePrints.refprint0 (L : List ByteArray) (hL : L.length ≤ 3000) (hB : ∀ w ∈ L, w.size ≤ 1000) : ∀ (b a : List ByteArray) (x5 : ByteArray), a ++ b = L → 0 < a.length → x5.size ≤ 5000 * a.length → ∃ t, prebendref27_Print.l0 (b.length + 1002) L x5 (a.length : Nat) = some (t, 0) ∧ bl t = bl x5 ++ lineOf 1 b
  | [], a, x5, h, ha, hz => by
    rw [List.append_nil] at h
    subst h
    rw [List.length_nil, prebendref27_Print.l0, if_neg (by omega)]
    exact ⟨x5, rfl, by rw [lineOf, List.append_nil]⟩
  | w :: b, a, x5, h, ha, hz => by
    subst h
    have hlen : (a ++ w :: b).length = a.length + (b.length + 1) := by simp
    have hws := hB w (by simp)
    have hq := quote_size w
    have h1 : (⟨#[32]⟩ : ByteArray).size = 1 := rfl
    obtain ⟨t, e, hb⟩ := LinePrints.refprint0 (a ++ w :: b) hL hB b (a ++ [w]) (x5 ++ ((⟨#[32]⟩ : ByteArray) ++ qS w)) (by simp) (by simp) (by
      rw [ByteArray.size_append, ByteArray.size_append, List.length_append, List.length_singleton]
      show x5.size + (_ + (strOfNums (quoteL (bl w))).size) ≤ _
      omega)
    refine ⟨t, ?_, ?_⟩
    · rw [List.length_cons, show b.length + 1 + 1002 = (b.length + 1002) + 1 by omega, prebendref27_Print.l0, if_pos (by omega), if_pos (by omega), rd_at, LinePrints.quote w (by omega) (b.length + 1002) (by omega), Option.bind_some, if_pos (by omega), if_pos (by rw [ByteArray.size_append]; omega), wrap_nat _ (by omega)]
      rw [show (a ++ [w]).length = a.length + 1 by simp] at e
      exact e
    · rw [hb, bl_append, bl_append, show bl (⟨#[32]⟩ : ByteArray) = [32] by decide +kernel, lineOf]
      unfold qS
      rw [bl_quote]
      simp
theorem LinePrints.refprint (kind : Int) (key name : ByteArray) (A : List Int) (hA : ∀ a ∈ A, Fits a) (hk : key.size ≤ 100) (hn : name.size ≤ 100) (hl : A.length ≤ 100) (k : Nat) (hk2 : 5000 ≤ k) :
    (Valid kind → ∃ t, prebendref27_Print.f k kind key name A = some (t, 0) ∧ bl t = bl (kw kind) ++ lineOf 1 (tailWords key name A)) ∧ (¬ Valid kind → prebendref27_Print.f k kind key name A = some (⟨#[]⟩, 1)) := by
  have hwd := LinePrints.word kind
  constructor
  · intro hv
    rw [kwz_valid hv] at hwd
    have hc := tail_count key name A
    have hkw := kw_len kind hv
    have hts := tail_small key name A hA 100 (by omega) hk hn
    obtain ⟨t, e, hb⟩ := LinePrints.refprint0 (kw kind :: tailWords key name A) (by rw [List.length_cons]; omega) (by
      intro w hw
      rcases List.mem_cons.1 hw with rfl | hw
      · omega
      · have := hts w hw; omega) (tailWords key name A) [kw kind] (kw kind) rfl (by simp) (by simp <;> omega)
    refine ⟨t, ?_, hb⟩
    unfold prebendref27_Print.f
    rw [hwd, Option.bind_some, if_neg hv.2.2, LinePrints.refwords kind key name A hA (by omega) k (by omega), kwz_valid hv, Option.bind_some, if_pos (by simp <;> omega), show rdOf ByteArray.empty (kw kind :: tailWords key name A) 0 = kw kind from rfl]
    exact lift_le (f := fun k => prebendref27_Print.l0 k (kw kind :: tailWords key name A) (kw kind) 1) (fun k => prebendref27_Print.mono_l k _ _ _) e (by omega)
  · intro hv
    rw [kwz_no hv] at hwd
    unfold prebendref27_Print.f
    rw [hwd, Option.bind_some, if_pos (by decide +kernel)]
/-! ### replies -/
def LinePrints.base (e : Int) : List Int := if e = 0 then [111, 107] else [101, 114, 114, 32] ++ bl (numeral e)
theorem LinePrints.out3 (x : ByteArray) (hx : x.size ≤ 100) (n m l : Int) (hn : Fits n) (hm : Fits m) (hl : Fits l) (e n' m' l' : Int) (k : Nat) :
    ∃ t, line_Reply.l0 (k + 4) x [n, m, l] 3 0 = some t ∧ bl t = bl x ++ sp [numeral n, numeral m, numeral l] := by
  have h1 : (⟨#[32]⟩ : ByteArray).size = 1 := rfl
  have zn := numeral_size n hn
  have zm := numeral_size m hm
  have zl := numeral_size l hl
  have b1 : bl (⟨#[32]⟩ : ByteArray) = [32] := by decide +kernel
  refine ⟨x ++ ((⟨#[32]⟩ : ByteArray) ++ numeral n) ++ ((⟨#[32]⟩ : ByteArray) ++ numeral m) ++ ((⟨#[32]⟩ : ByteArray) ++ numeral l), ?_, ?_⟩
  · rw [line_Reply.l0, if_pos (by decide), if_pos (by decide), if_pos (by simp), show rd [n, m, l] 0 = n from rfl, LinePrints.itoa n hn, Option.bind_some, if_pos (by omega), if_pos (by simp only [ByteArray.size_append]; omega), show wrap64 (0 + 1) = 1 by unfold wrap64; rfl]
    rw [line_Reply.l0, if_pos (by decide), if_pos (by decide), if_pos (by simp), show rd [n, m, l] 1 = m from rfl, LinePrints.itoa m hm, Option.bind_some, if_pos (by omega), if_pos (by simp only [ByteArray.size_append]; omega), show wrap64 (1 + 1) = 2 by unfold wrap64; rfl]
    rw [line_Reply.l0, if_pos (by decide), if_pos (by decide), if_pos (by simp), show rd [n, m, l] 2 = l from rfl, LinePrints.itoa l hl, Option.bind_some, if_pos (by omega), if_pos (by simp only [ByteArray.size_append]; omega), show wrap64 (2 + 1) = 3 by unfold wrap64; rfl]
    rw [line_Reply.l0, if_neg (by decide)]
  · simp only [bl_append, b1, sp, List.flatMap_cons, List.flatMap_nil, List.append_assoc, List.append_nil, List.cons_append, List.nil_append]
theorem LinePrints.reply (e n m l : Int) (he : Fits e) (hn : Fits n) (hm : Fits m) (hl : Fits l) (k : Nat) : ∃ t, line_Reply.f (k + 5) e n m l = some t ∧ bl t = LinePrints.base e ++ sp [numeral n, numeral m, numeral l] := by
  unfold line_Reply.f LinePrints.base
  by_cases h : e = 0
  · obtain ⟨t, e1, hb⟩ := LinePrints.out3 (⟨#[111, 107]⟩ : ByteArray) (by decide) n m l hn hm hl e n m l k
    rw [if_pos h, if_pos h, line_Reply.j0, Option.bind_some]
    exact ⟨t, e1, by rw [hb, show bl (⟨#[111, 107]⟩ : ByteArray) = [111, 107] by decide +kernel]⟩
  · have ze := numeral_size e he
    have h4 : (⟨#[101, 114, 114, 32]⟩ : ByteArray).size = 4 := rfl
    obtain ⟨t, e1, hb⟩ := LinePrints.out3 ((⟨#[101, 114, 114, 32]⟩ : ByteArray) ++ numeral e) (by rw [ByteArray.size_append]; omega) n m l hn hm hl e n m l k
    rw [if_neg h, if_neg h, LinePrints.itoa e he, Option.bind_some, if_pos (by omega), line_Reply.j0, Option.bind_some]
    exact ⟨t, e1, by rw [hb, bl_append, show bl (⟨#[101, 114, 114, 32]⟩ : ByteArray) = [101, 114, 114, 32] by decide +kernel]⟩
theorem LinePrints.refreply (e n m l : Int) (he : Fits e) (hn : Fits n) (hm : Fits m) (hl : Fits l) (k : Nat) (hk : 22 ≤ k) : ∃ t, prebendref27_Reply.f k e n m l = some t ∧ bl t = LinePrints.base e ++ sp [numeral n, numeral m, numeral l] := by
  have h1 : (⟨#[32]⟩ : ByteArray).size = 1 := rfl
  have h2 : (⟨#[111, 107]⟩ : ByteArray).size = 2 := rfl
  have h4 : (⟨#[101, 114, 114, 32]⟩ : ByteArray).size = 4 := rfl
  have ze := numeral_size e he
  have zn := numeral_size n hn
  have zm := numeral_size m hm
  have zl := numeral_size l hl
  have b1 : bl (⟨#[32]⟩ : ByteArray) = [32] := by decide +kernel
  have b2 : bl (⟨#[111, 107]⟩ : ByteArray) = [111, 107] := by decide +kernel
  have b4 : bl (⟨#[101, 114, 114, 32]⟩ : ByteArray) = [101, 114, 114, 32] := by decide +kernel
  unfold prebendref27_Reply.f LinePrints.base
  rw [LinePrints.num n hn k hk, LinePrints.num m hm k hk, LinePrints.num l hl k hk, LinePrints.num e he k hk]
  simp only [Option.bind_some]
  by_cases h : e = 0
  · rw [if_pos h, if_pos h, if_pos (by decide), if_pos (by simp only [ByteArray.size_append]; omega), if_pos (by simp only [ByteArray.size_append]; omega), if_pos (by simp only [ByteArray.size_append]; omega), if_pos (by simp only [ByteArray.size_append]; omega), if_pos (by simp only [ByteArray.size_append]; omega)]
    refine ⟨_, rfl, ?_⟩
    simp only [bl_append, b1, b2, sp, List.flatMap_cons, List.flatMap_nil, List.append_assoc, List.append_nil, List.cons_append, List.nil_append]
  · rw [if_neg h, if_neg h, if_pos (by omega), if_pos (by simp only [ByteArray.size_append]; omega), if_pos (by simp only [ByteArray.size_append]; omega), if_pos (by simp only [ByteArray.size_append]; omega), if_pos (by simp only [ByteArray.size_append]; omega), if_pos (by simp only [ByteArray.size_append]; omega), if_pos (by simp only [ByteArray.size_append]; omega)]
    refine ⟨_, rfl, ?_⟩
    simp only [bl_append, b1, b4, sp, List.flatMap_cons, List.flatMap_nil, List.append_assoc, List.append_nil, List.cons_append, List.nil_append]
theorem LinePrints : prebendlaw27_LinePrints.Pure := by
  intro kind key name args e n m l _ _ _ hargs he hn hm hl
  refine ⟨20000 + 5, ?_⟩
  have hk := cut_size key
  have hn2 := cut_size name
  have hl2 := cutA_len args
  have hA : ∀ a ∈ XSmall.cutA args, Fits a := fun a ha => fits_wf (hargs.2 a (cutA_mem args a ha))
  have hsm : prebendlaw27_small.f kind key name args = some (kind, XSmall.cut key, XSmall.cut name, XSmall.cutA args) := rfl
  obtain ⟨t1, r1, q1⟩ := LinePrints.reply e n m l (fits_wf he) (fits_wf hn) (fits_wf hm) (fits_wf hl) 20000
  obtain ⟨t2, r2, q2⟩ := LinePrints.refreply e n m l (fits_wf he) (fits_wf hn) (fits_wf hm) (fits_wf hl) (20000 + 5) (by omega)
  have ht : t1 = t2 := bl_inj (by rw [q1, q2])
  obtain ⟨p1, p2⟩ := LinePrints.refprint kind (XSmall.cut key) (XSmall.cut name) (XSmall.cutA args) hA (by omega) (by omega) (by omega) (20000 + 5) (by omega)
  unfold prebendlaw27_LinePrints.f
  rw [hsm]
  simp only [Option.bind_some]
  by_cases hv : Valid kind
  · obtain ⟨t, e1, hb, _⟩ := LinePrints.back kind (XSmall.cut key) (XSmall.cut name) (XSmall.cutA args) hv hA (by omega) (by omega) (by omega) (20000 + 5) (by omega)
    obtain ⟨u, e2, hb2⟩ := p1 hv
    have htu : t = u := bl_inj (by rw [hb, hb2])
    simp only [e1, e2, Option.bind_some]
    rw [LinePrints.awake _ (by omega), Option.bind_some, if_pos rfl, if_pos (by rw [htu]), if_pos trivial, r1, Option.bind_some, r2, Option.bind_some, ht]
    simp
  · simp only [LinePrints.print_bad kind _ _ _ hv (20000 + 4), p2 hv, Option.bind_some]
    rw [LinePrints.awake _ (by omega), Option.bind_some, if_pos rfl, if_pos trivial, if_pos trivial, r1, Option.bind_some, r2, Option.bind_some, ht]
    simp
end Go.Proofs.YtkenihkjdbdlkaaDoor.Pure
