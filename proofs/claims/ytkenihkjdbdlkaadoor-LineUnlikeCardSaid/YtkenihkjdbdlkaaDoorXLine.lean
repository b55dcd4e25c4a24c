/-
  Lines of commands, plain.
-/
import Derived.Laws.CopyOwn
import Derived.ArgAppend
import Derived.Below
import Derived.BigQuiet
import Derived.Deep.AppendLies
import Derived.Deep.CutBlock
import Derived.Deep.DeepCutAuto
import Derived.Deep.Draws
import Derived.Deep.LoopGhost
import Derived.Deep.OwnRows
import Derived.Deep.QuietTactic
import Derived.Deep.RegionHeld3
import Derived.Deep.WholeRow
import Derived.KernelRfl
import Derived.Laws.BitsLemmas
import Derived.Laws.BytesArg
import Derived.Laws.IdiomCopy
import Derived.Laws.MakeOwn
import Derived.Laws.OwnMore
import Derived.Laws.Rows
import Derived.Laws.Slices
import Derived.Lib.AppendStr
import Derived.Lib.ConvBytes
import Derived.Lib.Hide
import Derived.Maps.AppendAt
import Derived.OrdersHeld
import Derived.Outline
import Derived.OwnWalk
import Derived.RowKit
import Derived.RowKit3
import Derived.Tactics
import Derived.WalkKit
import Derived.WideLaws
import Derived.Test.YtkenihkjdbdlkaaDoorProg
import Derived.Test.YtkenihkjdbdlkaaDoorWApart
import Derived.Test.YtkenihkjdbdlkaaDoorWArr
import Derived.Test.YtkenihkjdbdlkaaDoorWAt
import Derived.Test.YtkenihkjdbdlkaaDoorWEqStruct
import Derived.Test.YtkenihkjdbdlkaaDoorWFoot
import Derived.Test.YtkenihkjdbdlkaaDoorWFootNe
import Derived.Test.YtkenihkjdbdlkaaDoorWFour
import Derived.Test.YtkenihkjdbdlkaaDoorWGuard
import Derived.Test.YtkenihkjdbdlkaaDoorWInv
import Derived.Test.YtkenihkjdbdlkaaDoorWInvWords
import Derived.Test.YtkenihkjdbdlkaaDoorWKept
import Derived.Test.YtkenihkjdbdlkaaDoorWLast
import Derived.Test.YtkenihkjdbdlkaaDoorWMore
import Derived.Test.YtkenihkjdbdlkaaDoorWN
import Derived.Test.YtkenihkjdbdlkaaDoorWNEv
import Derived.Test.YtkenihkjdbdlkaaDoorWQPut
import Derived.Test.YtkenihkjdbdlkaaDoorWRepsOne
import Derived.Test.YtkenihkjdbdlkaaDoorWShare
import Derived.Test.YtkenihkjdbdlkaaDoorWTab
import Derived.Test.YtkenihkjdbdlkaaDoorWWords
import Derived.Test.YtkenihkjdbdlkaaDoorWZeros
import Derived.Test.YtkenihkjdbdlkaaDoorShelf
import Derived.Test.YtkenihkjdbdlkaaDoorXBack
import Derived.Test.YtkenihkjdbdlkaaDoorXNumP
import Derived.Test.YtkenihkjdbdlkaaDoorXTabs
import Derived.Test.YtkenihkjdbdlkaaDoorXSmall
namespace Go.Proofs.YtkenihkjdbdlkaaDoor.XLine
open Go.RowKit Go.Proofs.YtkenihkjdbdlkaaDoorW.PrintWords Go.Proofs.YtkenihkjdbdlkaaDoorW.PrintLast XEsc XWordsP XQuote XPlain XCut XBack XNumber XNumP
set_option linter.unusedVariables false
def KW : List ByteArray := ([(⟨#[]⟩ : ByteArray), (⟨#[102, 117, 110, 100]⟩ : ByteArray), (⟨#[97, 108, 108, 111, 99]⟩ : ByteArray), (⟨#[100, 101, 112, 111, 115, 105, 116]⟩ : ByteArray), (⟨#[119, 105, 116, 104, 100, 114, 97, 119]⟩ : ByteArray), (⟨#[116, 114, 97, 110, 115, 102, 101, 114]⟩ : ByteArray), (⟨#[114, 97, 116, 101]⟩ : ByteArray), (⟨#[115, 117, 98, 109, 105, 116]⟩ : ByteArray), (⟨#[104, 111, 108, 100]⟩ : ByteArray), (⟨#[102, 114, 101, 101]⟩ : ByteArray), (⟨#[99, 97, 110, 99, 101, 108]⟩ : ByteArray), (⟨#[114, 101, 113, 117, 101, 117, 101]⟩ : ByteArray), (⟨#[101, 110, 100]⟩ : ByteArray), (⟨#[114, 101, 102, 117, 110, 100]⟩ : ByteArray), (⟨#[]⟩ : ByteArray), (⟨#[]⟩ : ByteArray), (⟨#[]⟩ : ByteArray), (⟨#[]⟩ : ByteArray), (⟨#[]⟩ : ByteArray), (⟨#[]⟩ : ByteArray), (⟨#[116, 105, 99, 107]⟩ : ByteArray), (⟨#[98, 97, 108, 97, 110, 99, 101]⟩ : ByteArray), (⟨#[106, 111, 98]⟩ : ByteArray), (⟨#[117, 115, 101]⟩ : ByteArray), (⟨#[119, 104, 121]⟩ : ByteArray), (⟨#[99, 104, 101, 99, 107, 112, 111, 105, 110, 116]⟩ : ByteArray), (⟨#[102, 117, 115, 101]⟩ : ByteArray), (⟨#[99, 114, 97, 115, 104]⟩ : ByteArray), (⟨#[114, 101, 99, 111, 118, 101, 114]⟩ : ByteArray)] : List ByteArray)
def kw (n : Int) : ByteArray := rdOf ByteArray.empty KW n
def Valid (n : Int) : Prop := 0 ≤ n ∧ n < 29 ∧ (kw n).toList ≠ []
instance (n : Int) : Decidable (Valid n) := by unfold Valid; infer_instance
def Fits (v : Int) : Prop := -9223372036854775808 ≤ v ∧ v ≤ 9223372036854775807
def nameB : ByteArray := ⟨#[110, 97, 109, 101]⟩
def keyB : ByteArray := ⟨#[107, 101, 121]⟩
def opt (n x : ByteArray) : List ByteArray := if x.toList = [] then [] else [n, x]
def tailWords (key name : ByteArray) (args : List Int) : List ByteArray := args.map numeral ++ (opt nameB name ++ opt keyB key)
theorem quoteL_bare (l : List Int) (h : l ≠ [] ∧ l.all bareI = true) : quoteL l = l := by unfold quoteL; rw [if_pos h]
theorem kw_bare_all : ∀ n : Fin 29, (kw (n.val : Int)).toList ≠ [] → (bl (kw (n.val : Int)) ≠ [] ∧ (bl (kw (n.val : Int))).all bareI = true) := by decide +kernel
theorem kw_bare (n : Int) (h : Valid n) : quoteL (bl (kw n)) = bl (kw n) := by
  obtain ⟨h0, h1, h2⟩ := h
  have := kw_bare_all ⟨n.toNat, by omega⟩
  simp only at this
  rw [show ((n.toNat : Nat) : Int) = n by omega] at this
  exact quoteL_bare _ (this h2)
theorem name_bare : quoteL (bl nameB) = bl nameB := by decide +kernel
theorem key_bare : quoteL (bl keyB) = bl keyB := by decide +kernel
theorem digit_bare (c : Int) (h : 48 ≤ c ∧ c ≤ 57) : bareI c = true := (bareI_iff c).2 (by omega)
theorem numeral_bare (v : Int) (h : Fits v) : quoteL (bl (numeral v)) = bl (numeral v) := by
  refine quoteL_bare _ ⟨?_, ?_⟩
  · have := (numeral_size v h).1
    rw [← bl_length] at this
    exact List.length_pos_iff.1 this
  · rw [bl_numeral, List.all_eq_true]
    split
    · intro c hc
      rcases List.mem_cons.1 hc with rfl | hc
      · decide
      · exact digit_bare c (dI_range _ c hc)
    · intro c hc
      exact digit_bare c (dI_range _ c hc)
/-! ### joined -/
def sp (ws : List ByteArray) : List Int := ws.flatMap fun w => 32 :: bl w
theorem sp_append (a b : List ByteArray) : sp (a ++ b) = sp a ++ sp b := by unfold sp; rw [List.flatMap_append]
def S32 : ByteArray := ⟨#[32]⟩
theorem bl_list (l : List UInt8) : bl ⟨l.toArray⟩ = l.map fun b => (b.toNat : Int) := rfl
theorem join_tail : ∀ r : List ByteArray, (Lib.joinTail S32.data.toList (r.map (·.data.toList))).map (fun b => (b.toNat : Int)) = sp r
  | [] => rfl
  | w :: r => by
    have ih := join_tail r
    unfold Lib.joinTail at ih ⊢
    rw [List.map_cons, List.map_cons, List.flatten_cons, List.map_append, ih]
    show _ = sp ([w] ++ r)
    rw [sp_append, List.map_append]
    show _ = (32 :: bl w ++ []) ++ sp r
    rw [List.append_nil]
    rfl
theorem join_bl (x : ByteArray) (r : List ByteArray) (h : (bl x ++ sp r).length ≤ 1000000) (hr : r.length ≤ 1000000) : ∃ t, XTabs.joinS (x :: r) S32 = some t ∧ bl t = bl x ++ sp r := by
  have e : (Lib.join ((x :: r).map (·.data.toList)) S32.data.toList).map (fun b => (b.toNat : Int)) = bl x ++ sp r := by
    rw [List.map_cons, Lib.join_cons, List.map_append, join_tail]
    rfl
  have hl : (Lib.join ((x :: r).map (·.data.toList)) S32.data.toList).length = (bl x ++ sp r).length := by rw [← e, List.length_map]
  refine ⟨⟨(Lib.join ((x :: r).map (·.data.toList)) S32.data.toList).toArray⟩, ?_, ?_⟩
  · unfold XTabs.joinS
    rw [if_pos]
    refine ⟨by rw [List.length_cons]; omega, by rw [hl]; omega⟩
  · rw [bl_list, e]
theorem sp_quoted (ws : List ByteArray) : sp (ws.map fun w => strOfNums (quoteL (bl w))) = lineOf 1 ws := by
  induction ws with
  | nil => rfl
  | cons w t ih =>
    rw [List.map_cons, lineOf, ← ih]
    show sp ([_] ++ _) = _
    rw [sp_append]
    show ((32 :: bl (strOfNums (quoteL (bl w)))) ++ []) ++ _ = _
    rw [bl_quote]
    simp
theorem quoted_of {w : ByteArray} (h : quoteL (bl w) = bl w) : strOfNums (quoteL (bl w)) = w := by rw [h, strOfNums_bl]
/-! ### a command's words -/
theorem words_first (w : ByteArray) (ws : List ByteArray) (s : ByteArray) (hs : s.size ≤ 1099511627776) (h : bl s = quoteL (bl w) ++ lineOf 1 ws) : words s = some (w :: ws, 0) := by
  obtain ⟨K, e⟩ := bw_line 1 (by decide) [] (.inl rfl) 1 (fun out => by simp only [bw]) ws [w]
  rw [List.append_nil, List.singleton_append] at e
  refine words_of s hs (K + (bl w).length + 3) _ ?_
  have he : XBack.Ends (lineOf 1 ws) := by
    have := ends_line 1 (by decide) ws [] (.inl rfl)
    rwa [List.append_nil] at this
  rw [h, bw_quote _ _ (byte_bl w) he, strOfNums_bl, List.nil_append]
  exact lift_le (f := fun k => bw k [w] (lineOf 1 ws)) (fun k => (more k).1 _ _) e (Nat.le_add_right _ _)
/-! ### kinds -/
def kindL : List ByteArray → Int → ByteArray → Int
  | [], _, _ => 0
  | x :: t, i, w => if x.toList = w.toList then (if w.toList = [] then kindL t (i + 1) w else i) else kindL t (i + 1) w
def kindOf (w : ByteArray) : Int := kindL KW 0 w
theorem kind_kw_all : ∀ n : Fin 29, (kw (n.val : Int)).toList ≠ [] → kindOf (kw (n.val : Int)) = (n.val : Int) := by decide +kernel
theorem kind_kw (n : Int) (h : Valid n) : kindOf (kw n) = n := by
  obtain ⟨h0, h1, h2⟩ := h
  have := kind_kw_all ⟨n.toNat, by omega⟩
  simp only at this
  rw [show ((n.toNat : Nat) : Int) = n by omega] at this
  exact this h2
theorem kindL_or (w : ByteArray) : ∀ (t : List ByteArray) (i : Nat), kindL t i w = 0 ∨ ∃ j : Nat, kindL t i w = ((i + j : Nat) : Int) ∧ j < t.length ∧ t.getD j ByteArray.empty = w ∧ w.toList ≠ []
  | [], i => .inl rfl
  | x :: t, i => by
    have ih := kindL_or w t (i + 1)
    have ih' : kindL t ((i : Int) + 1) w = 0 ∨ ∃ j : Nat, kindL t ((i : Int) + 1) w = ((i + j : Nat) : Int) ∧ j < (x :: t).length ∧ (x :: t).getD j ByteArray.empty = w ∧ w.toList ≠ [] := by
      rcases ih with ih | ⟨j, h1, h2, h3, h4⟩
      · exact .inl ih
      · exact .inr ⟨j + 1, by rw [show (i : Int) + 1 = ((i + 1 : Nat) : Int) by omega, h1]; congr 1; omega, by rw [List.length_cons]; omega, by simpa using h3, h4⟩
    rw [kindL]
    by_cases hx : x.toList = w.toList
    · rw [if_pos hx]
      by_cases hw : w.toList = []
      · rw [if_pos hw]; exact ih'
      · rw [if_neg hw]; exact .inr ⟨0, rfl, by simp, by simpa using toList_inj hx, hw⟩
    · rw [if_neg hx]; exact ih'
theorem kind_valid (w : ByteArray) (h : kindOf w ≠ 0) : Valid (kindOf w) ∧ kw (kindOf w) = w := by
  rcases kindL_or w KW 0 with h0 | ⟨j, h1, h2, h3, h4⟩
  · exact absurd h0 h
  · have e : kindOf w = (j : Int) := by
      show kindL KW 0 w = _
      rw [show (0 : Int) = ((0 : Nat) : Int) from rfl, h1]; congr 1; omega
    have hk : kw (j : Int) = w := by
      show KW.getD _ _ = w
      rw [Int.toNat_natCast]; exact h3
    rw [e]
    have h29 : KW.length = 29 := by decide +kernel
    exact ⟨⟨by omega, by omega, by rw [hk]; exact h4⟩, hk⟩
/-! ### the words behind the kind -/
def numsOf : List ByteArray → List Int × List ByteArray
  | [] => ([], [])
  | w :: t => if (numberP w).2 = true then ((numberP w).1 :: (numsOf t).1, (numsOf t).2) else ([], w :: t)
def named (nm : ByteArray) : List ByteArray → ByteArray × List ByteArray
  | a :: b :: t => if a.toList = nm.toList ∧ b.toList ≠ [] then (b, t) else (⟨#[]⟩, a :: b :: t)
  | w => (⟨#[]⟩, w)
abbrev Cmd := Int × ByteArray × ByteArray × List Int × Int
def bad : Cmd := (0, ⟨#[]⟩, ⟨#[]⟩, [], 11)
def rest (kind : Int) (args : List Int) (r : List ByteArray) : Cmd :=
  if (named keyB (named nameB r).2).2 = [] then (kind, (named keyB (named nameB r).2).1, (named nameB r).1, args, 0) else bad
def parseW : List ByteArray × Int → Cmd
  | (w0 :: t, e) => if e = 0 then (if kindOf w0 = 0 then bad else rest (kindOf w0) (numsOf t).1 (numsOf t).2) else bad
  | ([], _) => bad
def Stop (r : List ByteArray) : Prop := r = [] ∨ ∃ w t, r = w :: t ∧ (numberP w).2 = false
theorem numsOf_nums (r : List ByteArray) (h : Stop r) : ∀ args : List Int, (∀ a ∈ args, Fits a) → numsOf (args.map numeral ++ r) = (args, r)
  | [], _ => by
    rcases h with rfl | ⟨w, t, rfl, hw⟩
    · rfl
    · rw [List.map_nil, List.nil_append, numsOf, if_neg (by rw [hw]; decide)]
  | a :: args, ha => by
    have ih := numsOf_nums r h args (fun b hb => ha b (by simp [hb]))
    rw [List.map_cons, List.cons_append, numsOf, number_of a (ha a (by simp)), if_pos rfl, ih]
theorem name_number : (numberP nameB).2 = false := by decide +kernel
theorem key_number : (numberP keyB).2 = false := by decide +kernel
theorem stop_opts (key name : ByteArray) : Stop (opt nameB name ++ opt keyB key) := by
  unfold opt
  by_cases h : name.toList = []
  · rw [if_pos h]
    by_cases h2 : key.toList = []
    · rw [if_pos h2]; exact .inl rfl
    · rw [if_neg h2]; exact .inr ⟨_, _, rfl, key_number⟩
  · rw [if_neg h]; exact .inr ⟨_, _, rfl, name_number⟩
theorem empty_of {x : ByteArray} (h : x.toList = []) : x = ⟨#[]⟩ := toList_inj (by rw [h]; decide +kernel)
theorem name_key : ¬ keyB.toList = nameB.toList := by decide +kernel
theorem named_key (key : ByteArray) : named keyB (opt keyB key) = (key, []) := by
  unfold opt
  by_cases h2 : key.toList = []
  · rw [if_pos h2, empty_of h2]; rfl
  · rw [if_neg h2, named, if_pos ⟨rfl, h2⟩]
theorem named_opts (key name : ByteArray) : named nameB (opt nameB name ++ opt keyB key) = (name, opt keyB key) := by
  by_cases h : name.toList = []
  · rw [show opt nameB name = [] by unfold opt; rw [if_pos h], List.nil_append, empty_of h]
    unfold opt
    by_cases h2 : key.toList = []
    · rw [if_pos h2]; rfl
    · rw [if_neg h2, named, if_neg (fun hc => name_key hc.1)]
  · rw [show opt nameB name = [nameB, name] by unfold opt; rw [if_neg h], List.cons_append, List.cons_append, named, if_pos ⟨rfl, h⟩, List.nil_append]
/-- A command comes back of its words. -/
theorem parse_back (kind : Int) (key name : ByteArray) (args : List Int) (hv : Valid kind) (ha : ∀ a ∈ args, Fits a) : parseW (kw kind :: tailWords key name args, 0) = (kind, key, name, args, 0) := by
  rw [parseW, if_pos rfl, kind_kw kind hv, if_neg, tailWords, numsOf_nums _ (stop_opts key name) args ha, rest]
  · simp only []
    rw [named_opts]
    simp only []
    rw [named_key, if_pos rfl]
  · intro h0
    rw [h0] at hv
    exact hv.2.2 (by decide +kernel)
/-! ### how much there is -/
theorem wcount : ∀ k : Nat, (∀ out l res, bw k out l = some res → res.1.length ≤ out.length + k) ∧ (∀ out w l res, qt k out w l = some res → res.1.length ≤ out.length + k) ∧ (∀ out w l res, ed k out w l = some res → res.1.length ≤ out.length + k)
  | 0 => ⟨fun _ _ _ h => by simp [bw] at h, fun _ _ _ _ h => by simp [qt] at h, fun _ _ _ _ h => by simp [ed] at h⟩
  | k + 1 => by
    have ih := wcount k
    have e0 : ∀ (out : List ByteArray) (res : List ByteArray × Int), some (([] : List ByteArray), (11 : Int)) = some res → res.1.length ≤ out.length + (k + 1) := fun out res h => by
      rw [← Option.some.inj h]; simp
    have e1 : ∀ (out : List ByteArray) (res : List ByteArray × Int), some (out, (0 : Int)) = some res → res.1.length ≤ out.length + (k + 1) := fun out res h => by
      rw [← Option.some.inj h]; simp
    refine ⟨fun out l res h => ?_, fun out w l res h => ?_, fun out w l res h => ?_⟩
    · match l with
      | [] => simp only [bw] at h; exact e1 _ _ h
      | c :: r =>
        simp only [bw] at h
        split at h
        · have := ih.1 _ _ _ h; omega
        · split at h
          · exact e1 _ _ h
          · split at h
            · have := ih.2.1 _ _ _ _ h; omega
            · split at h
              · exact e0 _ _ h
              · have := ih.2.2 _ _ _ _ h; omega
    · match l with
      | [] => simp only [qt] at h; exact e0 _ _ h
      | c :: r =>
        rw [qt_step] at h
        split at h
        · exact e0 _ _ h
        · split at h
          · have := ih.2.2 _ _ _ _ h; omega
          · split at h
            · split at h
              · exact e0 _ _ h
              · have := ih.2.1 _ _ _ _ h; omega
            · have := ih.2.1 _ _ _ _ h; omega
    · match l with
      | [] => simp only [ed] at h; have := ih.1 _ _ _ h; simp at this; omega
      | c :: r =>
        simp only [ed] at h
        split at h
        · have := ih.1 _ _ _ h; simp at this; omega
        · exact e0 _ _ h
def Small (M : Nat) (l : List ByteArray) : Prop := ∀ w ∈ l, w.size ≤ M
theorem small_snoc {M : Nat} {l : List ByteArray} {w : List Int} (h : Small M l) (hw : w.length ≤ M) : Small M (l ++ [strOfNums w]) := fun x hx => by
  rcases List.mem_append.1 hx with hx | hx
  · exact h x hx
  · rw [List.mem_singleton] at hx; rw [hx, nums_size]; exact hw
theorem wsmall (M : Nat) : ∀ k : Nat, (∀ out l res, Small M out → l.length ≤ M → bw k out l = some res → Small M res.1) ∧ (∀ out w l res, Small M out → w.length + l.length ≤ M → qt k out w l = some res → Small M res.1) ∧ (∀ out w l res, Small M out → w.length ≤ M → l.length ≤ M → ed k out w l = some res → Small M res.1)
  | 0 => ⟨fun _ _ _ _ _ h => by simp [bw] at h, fun _ _ _ _ _ _ h => by simp [qt] at h, fun _ _ _ _ _ _ _ h => by simp [ed] at h⟩
  | k + 1 => by
    have ih := wsmall M k
    have e0 : ∀ (res : List ByteArray × Int), some (([] : List ByteArray), (11 : Int)) = some res → Small M res.1 := fun res h => by
      rw [← Option.some.inj h]; intro w hw; simp at hw
    have e1 : ∀ (out : List ByteArray) (res : List ByteArray × Int), Small M out → some (out, (0 : Int)) = some res → Small M res.1 := fun out res ho h => by
      rw [← Option.some.inj h]; exact ho
    refine ⟨fun out l res ho hl h => ?_, fun out w l res ho hl h => ?_, fun out w l res ho hw hl h => ?_⟩
    · match l with
      | [] => simp only [bw] at h; exact e1 _ _ ho h
      | c :: r =>
        simp only [bw] at h
        rw [List.length_cons] at hl
        split at h
        · exact ih.1 _ _ _ ho (by omega) h
        · split at h
          · exact e1 _ _ ho h
          · split at h
            · exact ih.2.1 _ _ _ _ ho (by simp; omega) h
            · split at h
              · exact e0 _ h
              · have h1 := (List.takeWhile_sublist bareI (l := c :: r)).length_le
                have h2 := (List.dropWhile_sublist bareI (l := c :: r)).length_le
                rw [List.length_cons] at h1 h2
                exact ih.2.2 _ _ _ _ ho (by omega) (by omega) h
    · match l with
      | [] => simp only [qt] at h; exact e0 _ h
      | c :: r =>
        rw [qt_step] at h
        rw [List.length_cons] at hl
        split at h
        · exact e0 _ h
        · split at h
          · exact ih.2.2 _ _ _ _ ho (by omega) (by omega) h
          · split at h
            · split at h
              · exact e0 _ h
              · have hz := esc_len r
                exact ih.2.1 _ _ _ _ ho (by rw [List.length_append, List.length_singleton, List.length_drop]; omega) h
            · exact ih.2.1 _ _ _ _ ho (by rw [List.length_append, List.length_singleton]; omega) h
    · match l with
      | [] => simp only [ed] at h; exact ih.1 _ _ _ (small_snoc ho hw) (by simp) h
      | c :: r =>
        simp only [ed] at h
        split at h
        · exact ih.1 _ _ _ (small_snoc ho hw) hl h
        · exact e0 _ h
theorem words_ok (s : ByteArray) (hs : s.size ≤ 100000) : ∃ ws e, words s = some (ws, e) ∧ ws.length ≤ 4 * s.size + 4 ∧ Small s.size ws := by
  obtain ⟨⟨ws, e⟩, hr⟩ := Option.isSome_iff_exists.1 (words_some s (by omega))
  have h2 := hr
  unfold words at h2
  rw [if_pos (by omega)] at h2
  have h3 := (wcount _).1 _ _ _ h2
  have h4 := (wsmall s.size _).1 _ _ _ (by intro w hw; simp at hw) (by rw [bl_length]; exact Nat.le_refl _) h2
  exact ⟨ws, e, hr, by simpa using h3, h4⟩
theorem lineOf_nums : ∀ A : List Int, (∀ a ∈ A, Fits a) → (lineOf 1 (A.map numeral)).length ≤ 21 * A.length
  | [], _ => by simp [lineOf]
  | a :: A, h => by
    have ih := lineOf_nums A (fun b hb => h b (by simp [hb]))
    have := numeral_size a (h a (by simp))
    rw [List.map_cons, lineOf, numeral_bare a (h a (by simp)), List.length_append, List.length_append, List.length_replicate, bl_length, List.length_cons]
    omega
theorem lineOf_opt (n x : ByteArray) : (lineOf 1 (opt n x)).length ≤ 4 * n.size + 4 * x.size + 6 := by
  unfold opt
  split
  · simp [lineOf]
  · have h1 := quoteL_len (bl n)
    have h2 := quoteL_len (bl x)
    rw [bl_length] at h1 h2
    rw [lineOf, lineOf, lineOf]
    simp only [List.length_append, List.length_replicate, List.length_nil]
    omega
theorem kw_len_all : ∀ n : Fin 29, (kw (n.val : Int)).size ≤ 10 := by decide +kernel
theorem kw_len (n : Int) (h : Valid n) : (kw n).size ≤ 10 := by
  have := kw_len_all ⟨n.toNat, by have := h.1; have := h.2.1; omega⟩
  simp only at this
  rwa [show ((n.toNat : Nat) : Int) = n by have := h.1; omega] at this
theorem tail_len (key name : ByteArray) (A : List Int) (hA : ∀ a ∈ A, Fits a) : (lineOf 1 (tailWords key name A)).length ≤ 21 * A.length + 4 * key.size + 4 * name.size + 40 := by
  unfold tailWords
  rw [lineOf_append, lineOf_append, List.length_append, List.length_append]
  have h1 := lineOf_nums A hA
  have h2 := lineOf_opt nameB name
  have h3 := lineOf_opt keyB key
  have h4 : nameB.size = 4 := rfl
  have h5 : keyB.size = 3 := rfl
  omega
theorem tail_count (key name : ByteArray) (A : List Int) : (tailWords key name A).length ≤ A.length + 4 := by
  unfold tailWords opt
  rw [List.length_append, List.length_append, List.length_map]
  split <;> split <;> simp
theorem opt_small (n x : ByteArray) (M : Nat) (hn : n.size ≤ M) (hx : x.size ≤ M) : Small M (opt n x) := by
  unfold opt
  split
  · intro w hw; simp at hw
  · intro w hw
    simp only [List.mem_cons, List.not_mem_nil, or_false] at hw
    rcases hw with rfl | rfl
    · exact hn
    · exact hx
theorem tail_small (key name : ByteArray) (A : List Int) (hA : ∀ a ∈ A, Fits a) (M : Nat) (hM : 20 ≤ M) (hk : key.size ≤ M) (hn : name.size ≤ M) : Small M (tailWords key name A) := by
  intro w hw
  unfold tailWords at hw
  rcases List.mem_append.1 hw with hw | hw
  · obtain ⟨a, ha, rfl⟩ := List.mem_map.1 hw
    have := (numeral_size a (hA a ha)).2
    omega
  · have h4 : nameB.size = 4 := rfl
    have h5 : keyB.size = 3 := rfl
    rcases List.mem_append.1 hw with hw | hw
    · exact opt_small nameB name M (by omega) hn w hw
    · exact opt_small keyB key M (by omega) hk w hw
/-! ### what is parsed is a command -/
theorem numberP_fits (w : ByteArray) (h : (numberP w).2 = true) : Fits (numberP w).1 := by
  unfold numberP at h ⊢
  rcases hh : Lib.atoiAll w.data.toList with v | _ | _
  · rw [hh] at h
    simp only at h ⊢
    split at h
    · rename_i hc
      rw [if_pos hc]
      exact Lib.atoiAll_bounds hh
    · simp at h
  · rw [hh] at h; simp at h
  · rw [hh] at h; simp at h
theorem numsOf_ok (M : Nat) : ∀ r : List ByteArray, Small M r → (∀ a ∈ (numsOf r).1, Fits a) ∧ (numsOf r).1.length ≤ r.length ∧ Small M (numsOf r).2
  | [], h => ⟨by intro a ha; simp [numsOf] at ha, by simp [numsOf], h⟩
  | w :: t, h => by
    have ih := numsOf_ok M t (fun x hx => h x (by simp [hx]))
    rw [numsOf]
    by_cases hn : (numberP w).2 = true
    · rw [if_pos hn]
      refine ⟨?_, by simp; exact ih.2.1, ih.2.2⟩
      intro a ha
      rcases List.mem_cons.1 ha with rfl | ha
      · exact numberP_fits w hn
      · exact ih.1 a ha
    · rw [if_neg hn]
      exact ⟨by intro a ha; simp at ha, by simp, h⟩
theorem named_ok (M : Nat) (nm : ByteArray) (r : List ByteArray) (h : Small M r) : (named nm r).1.size ≤ M ∧ Small M (named nm r).2 := by
  have h0 : (⟨#[]⟩ : ByteArray).size ≤ M := Nat.zero_le _
  match r with
  | [] => exact ⟨h0, h⟩
  | [a] => exact ⟨h0, h⟩
  | a :: b :: t =>
    rw [named]
    split
    · exact ⟨h b (by simp), fun x hx => h x (by simp [hx])⟩
    · exact ⟨h0, h⟩
theorem parseW_ok (M : Nat) (ws : List ByteArray) (e : Int) (h : Small M ws) : parseW (ws, e) = bad ∨ ∃ kind key name A, parseW (ws, e) = (kind, key, name, A, 0) ∧ Valid kind ∧ (∀ a ∈ A, Fits a) ∧ key.size ≤ M ∧ name.size ≤ M ∧ A.length ≤ ws.length := by
  match ws with
  | [] => exact .inl rfl
  | w0 :: t =>
    rw [parseW]
    by_cases he : e = 0
    · rw [if_pos he]
      by_cases h0 : kindOf w0 = 0
      · rw [if_pos h0]; exact .inl rfl
      · rw [if_neg h0, rest]
        obtain ⟨n1, n2, n3⟩ := numsOf_ok M t (fun x hx => h x (by simp [hx]))
        obtain ⟨m1, m2⟩ := named_ok M nameB _ n3
        obtain ⟨k1, k2⟩ := named_ok M keyB _ m2
        split
        · exact .inr ⟨_, _, _, _, rfl, (kind_valid w0 h0).1, n1, k1, m1, by rw [List.length_cons]; omega⟩
        · exact .inl rfl
    · rw [if_neg he]; exact .inl rfl
theorem fits_wf {v : Int} (h : (Lit.int .i64 v).wf = true) : Fits v := by
  simp [Lit.wf, IntKind.min, IntKind.max, IntKind.signed, IntKind.bits] at h
  exact ⟨by omega, by omega⟩
theorem cut_size (x : ByteArray) : (XSmall.cut x).size ≤ 60 := by
  unfold XSmall.cut
  split
  · rw [ByteArray.size_extract]; omega
  · omega
theorem cutA_len (l : List Int) : (XSmall.cutA l).length ≤ 20 := by
  unfold XSmall.cutA
  split
  · rw [List.length_take]; omega
  · omega
theorem cutA_mem (l : List Int) : ∀ a ∈ XSmall.cutA l, a ∈ l := by
  intro a ha
  unfold XSmall.cutA at ha
  split at ha
  · exact List.mem_of_mem_take ha
  · exact ha
end Go.Proofs.YtkenihkjdbdlkaaDoor.XLine
