/-
  Words and lines, plain: every line has an answer; a text is cut at its line ends.
-/
import Derived.Laws.CopyOwn
import Derived.ArgAppend
import Derived.Below
import Derived.BigQuiet
import Derived.Deep.AppendLies
import Derived.Deep.CutBlock
import Derived.Deep.DeepCutAuto
import Derived.Deep.Draws
import Derived.Deep.LoopGhost
import Derived.Deep.OwnRows
import Derived.Deep.QuietTactic
import Derived.Deep.RegionHeld3
import Derived.Deep.WholeRow
import Derived.KernelRfl
import Derived.Laws.BitsLemmas
import Derived.Laws.BytesArg
import Derived.Laws.IdiomCopy
import Derived.Laws.MakeOwn
import Derived.Laws.OwnMore
import Derived.Laws.Rows
import Derived.Laws.Slices
import Derived.Lib.AppendStr
import Derived.Lib.ConvBytes
import Derived.Lib.Hide
import Derived.Maps.AppendAt
import Derived.OrdersHeld
import Derived.Outline
import Derived.OwnWalk
import Derived.RowKit
import Derived.RowKit3
import Derived.Tactics
import Derived.WalkKit
import Derived.WideLaws
import Derived.Test.YtkenihkjdbdlkaaDoorProg
import Derived.Test.YtkenihkjdbdlkaaDoorWApart
import Derived.Test.YtkenihkjdbdlkaaDoorWArr
import Derived.Test.YtkenihkjdbdlkaaDoorWAt
import Derived.Test.YtkenihkjdbdlkaaDoorWEqStruct
import Derived.Test.YtkenihkjdbdlkaaDoorWFoot
import Derived.Test.YtkenihkjdbdlkaaDoorWFootNe
import Derived.Test.YtkenihkjdbdlkaaDoorWFour
import Derived.Test.YtkenihkjdbdlkaaDoorWGuard
import Derived.Test.YtkenihkjdbdlkaaDoorWInv
import Derived.Test.YtkenihkjdbdlkaaDoorWInvWords
import Derived.Test.YtkenihkjdbdlkaaDoorWKept
import Derived.Test.YtkenihkjdbdlkaaDoorWLast
import Derived.Test.YtkenihkjdbdlkaaDoorWMore
import Derived.Test.YtkenihkjdbdlkaaDoorWN
import Derived.Test.YtkenihkjdbdlkaaDoorWNEv
import Derived.Test.YtkenihkjdbdlkaaDoorWQPut
import Derived.Test.YtkenihkjdbdlkaaDoorWRepsOne
import Derived.Test.YtkenihkjdbdlkaaDoorWShare
import Derived.Test.YtkenihkjdbdlkaaDoorWTab
import Derived.Test.YtkenihkjdbdlkaaDoorWWords
import Derived.Test.YtkenihkjdbdlkaaDoorWZeros
import Derived.Test.YtkenihkjdbdlkaaDoorShelf
import Derived.Test.YtkenihkjdbdlkaaDoorXPlain
import Derived.Test.YtkenihkjdbdlkaaDoorXLines
namespace Go.Proofs.YtkenihkjdbdlkaaDoor.XCut
open Go.RowKit Go.Proofs.YtkenihkjdbdlkaaDoorW.PrintWords Go.Proofs.YtkenihkjdbdlkaaDoorW.PrintLast XEsc XWordsP XQuote XPlain XLines
set_option linter.unusedVariables false
theorem drop_le (l : List Int) (p : Int → Bool) : (l.dropWhile p).length ≤ l.length := (List.dropWhile_sublist p).length_le
theorem fuel : ∀ k : Nat, (∀ out l, 2 * l.length + 1 ≤ k → (bw k out l).isSome) ∧ (∀ out w l, 2 * l.length + 1 ≤ k → (qt k out w l).isSome) ∧ (∀ out w l, 2 * l.length + 2 ≤ k → (ed k out w l).isSome)
  | 0 => ⟨fun _ _ h => by omega, fun _ _ _ h => by omega, fun _ _ _ h => by omega⟩
  | k + 1 => by
    have ih := fuel k
    refine ⟨fun out l h => ?_, fun out w l h => ?_, fun out w l h => ?_⟩
    · match l with
      | [] => simp only [bw]; rfl
      | c :: r =>
        simp only [List.length_cons] at h
        simp only [bw]
        split
        · exact ih.1 _ _ (by omega)
        · split
          · rfl
          · split
            · exact ih.2.1 _ _ _ (by omega)
            · split
              · rfl
              · rename_i hb
                refine ih.2.2 _ _ _ ?_
                have : bareI c = true := by
                  by_cases hc : bareI c = true
                  · exact hc
                  · exact absurd (by rw [List.takeWhile_cons, if_neg hc]) hb
                rw [List.dropWhile_cons, if_pos this]
                have := drop_le r bareI
                omega
    · match l with
      | [] => simp only [qt]; rfl
      | c :: r =>
        simp only [List.length_cons] at h
        rw [qt_step]
        split
        · rfl
        · split
          · exact ih.2.2 _ _ _ (by omega)
          · split
            · split
              · rfl
              · exact ih.2.1 _ _ _ (by rw [List.length_drop]; omega)
            · exact ih.2.1 _ _ _ (by omega)
    · match l with
      | [] => simp only [ed]; exact ih.1 _ _ (by simp; omega)
      | c :: r =>
        simp only [List.length_cons] at h
        simp only [ed]
        split
        · exact ih.1 _ _ (by simp; omega)
        · rfl
theorem more : ∀ k : Nat, (∀ out l, LeO (bw k out l) (bw (k + 1) out l)) ∧ (∀ out w l, LeO (qt k out w l) (qt (k + 1) out w l)) ∧ (∀ out w l, LeO (ed k out w l) (ed (k + 1) out w l))
  | 0 => ⟨fun _ _ _ h => by simp [bw] at h, fun _ _ _ _ h => by simp [qt] at h, fun _ _ _ _ h => by simp [ed] at h⟩
  | k + 1 => by
    have ih := more k
    refine ⟨fun out l => ?_, fun out w l => ?_, fun out w l => ?_⟩
    · match l with
      | [] => rw [bw, bw]; exact LeO.refl _
      | c :: r =>
        rw [bw, bw]
        exact LeO.ite (ih.1 _ _) (LeO.ite (LeO.refl _) (LeO.ite (ih.2.1 _ _ _) (LeO.ite (LeO.refl _) (ih.2.2 _ _ _))))
    · match l with
      | [] => rw [qt, qt]; exact LeO.refl _
      | c :: r =>
        rw [qt_step, qt_step]
        exact LeO.ite (LeO.refl _) (LeO.ite (ih.2.2 _ _ _) (LeO.ite (LeO.ite (LeO.refl _) (ih.2.1 _ _ _)) (ih.2.1 _ _ _)))
    · match l with
      | [] => rw [ed, ed]; exact ih.1 _ _
      | c :: r =>
        rw [ed, ed]
        exact LeO.ite (ih.1 _ _) (LeO.refl _)
theorem words_some (s : ByteArray) (h : s.size ≤ 1099511627776) : (words s).isSome = true := by
  unfold words
  rw [if_pos h]
  exact (fuel _).1 _ _ (by rw [bl_length]; omega)
/-- What a line's words are, at any number of rounds that gets there. -/
theorem words_of (s : ByteArray) (h : s.size ≤ 1099511627776) (k : Nat) (r : List ByteArray × Int) (hr : bw k [] (bl s) = some r) : words s = some r := by
  obtain ⟨q, hq⟩ := Option.isSome_iff_exists.1 (words_some s h)
  have h2 := hq
  unfold words at h2
  rw [if_pos h] at h2
  have a := lift_le (f := fun k => bw k [] (bl s)) (fun k => (more k).1 _ _) hr (m := max k (4 * s.size + 4)) (Nat.le_max_left _ _)
  have b := lift_le (f := fun k => bw k [] (bl s)) (fun k => (more k).1 _ _) h2 (m := max k (4 * s.size + 4)) (Nat.le_max_right _ _)
  rw [hq, ← b, a]
theorem nl_size : nl.size = 1 := rfl
theorem index_byte (s : ByteArray) : Lib.indexB s nl = Lib.indexByte s.data.toList 10 := Lib.index_one s.data.toList 10
theorem bl_get (s : ByteArray) (i : Nat) (c : UInt8) (h : s.data.toList[i]? = some c) : (bl s)[i]? = some ((c.toNat : Nat) : Int) := by
  unfold bl
  rw [List.getElem?_map, h]; rfl
theorem get_nl (s : ByteArray) (i : Nat) : (bl s)[i]? = some 10 ↔ s.data.toList[i]? = some 10 := by
  unfold bl
  rw [List.getElem?_map]
  cases s.data.toList[i]? with
  | none => simp
  | some c =>
    simp only [Option.map_some, Option.some.injEq]
    constructor
    · intro h
      have : c.toNat = 10 := by omega
      exact UInt8.toNat_inj.1 (by rw [this]; rfl)
    · intro h; subst h; rfl
theorem index_no (s : ByteArray) (h : (10 : Int) ∉ bl s) : Lib.indexB s nl = -1 := by
  rw [index_byte]
  have hge := Lib.indexByte_ge s.data.toList 10
  by_cases hc : Lib.indexByte s.data.toList 10 = -1
  · exact hc
  · exfalso
    obtain ⟨o, ho⟩ : ∃ o : Nat, Lib.indexByte s.data.toList 10 = o := ⟨(Lib.indexByte s.data.toList 10).toNat, by omega⟩
    exact h (List.mem_of_getElem? ((get_nl s o).2 (Lib.indexByte_some ho).1))
theorem pieces_one (s : ByteArray) (h : (10 : Int) ∉ bl s) : pieces s = [s] := by
  unfold pieces
  exact Lib.splitB_miss _ _ _ _ (index_no s h)
theorem bl_nl : bl nl = [10] := by decide +kernel
theorem index_at (l r : ByteArray) (h : (10 : Int) ∉ bl l) : Lib.indexB (l ++ nl ++ r) nl = (l.size : Nat) := by
  rw [index_byte]
  have hb : bl (l ++ nl ++ r) = bl l ++ 10 :: bl r := by rw [bl_append, bl_append, bl_nl, List.append_assoc]; rfl
  have hat : (bl (l ++ nl ++ r))[l.size]? = some 10 := by rw [hb, ← bl_length l, List.getElem?_append_right (Nat.le_refl _), Nat.sub_self]; rfl
  have hge := Lib.indexByte_ge (l ++ nl ++ r).data.toList 10
  by_cases hc : Lib.indexByte (l ++ nl ++ r).data.toList 10 = -1
  · exact absurd ((get_nl _ _).1 hat) (Lib.indexByte_none hc _)
  · obtain ⟨o, ho⟩ : ∃ o : Nat, Lib.indexByte (l ++ nl ++ r).data.toList 10 = o := ⟨(Lib.indexByte (l ++ nl ++ r).data.toList 10).toNat, by omega⟩
    have ⟨h1, h2⟩ := Lib.indexByte_some ho
    rw [ho]
    have h3 := (get_nl _ _).2 h1
    rcases Nat.lt_trichotomy o l.size with hlt | heq | hgt
    · rw [hb, List.getElem?_append_left (by rw [bl_length]; exact hlt)] at h3
      exact absurd (List.mem_of_getElem? h3) h
    · rw [heq]
    · exact absurd ((get_nl _ _).1 hat) (h2 _ hgt)
theorem cut_left (l r : ByteArray) : (l ++ nl ++ r).extract 0 l.size = l := by
  apply bl_inj
  rw [bl_extract, bl_append, bl_append, List.append_assoc, ← bl_length l]
  simp
theorem cut_right (l r : ByteArray) : (l ++ nl ++ r).extract (l.size + nl.size) (l ++ nl ++ r).size = r := by
  apply bl_inj
  rw [bl_extract, ← bl_length (l ++ nl ++ r), List.take_length, bl_append, bl_append, bl_nl, nl_size, ← bl_length l]
  simp
theorem count_cut (l r : ByteArray) (h : (10 : Int) ∉ bl l) : Lib.countB (l ++ nl ++ r) nl = 1 + Lib.countB r nl := by
  have := Lib.countB_hit (l ++ nl ++ r) nl l.size (by rw [nl_size]; exact Nat.le_refl _) (index_at l r h)
  rw [this, cut_right]
theorem pieces_cut (l r : ByteArray) (h : (10 : Int) ∉ bl l) : pieces (l ++ nl ++ r) = l :: pieces r := by
  unfold pieces
  rw [count_cut l r h, Nat.add_comm, Lib.splitB_hit _ _ _ _ _ (index_at l r h), cut_right, Nat.add_zero, cut_left]
/-- A text has no line end, or a first one. -/
theorem nl_cases (s : ByteArray) : (10 : Int) ∉ bl s ∨ ∃ l r : ByteArray, (10 : Int) ∉ bl l ∧ s = l ++ nl ++ r := by
  by_cases h : (10 : Int) ∈ bl s
  · right
    obtain ⟨a, b, he, ha⟩ := List.append_of_mem h |>.elim fun a ⟨b, hb⟩ => (by
      have : ∀ (l : List Int), (10 : Int) ∈ l → ∃ a b, l = a ++ 10 :: b ∧ (10 : Int) ∉ a := by
        intro l
        induction l with
        | nil => intro h; simp at h
        | cons c t ih =>
          intro hm
          by_cases hc : c = 10
          · exact ⟨[], t, by rw [hc]; rfl, by simp⟩
          · obtain ⟨a, b, he, ha⟩ := ih (by simpa [Ne.symm hc] using hm)
            exact ⟨c :: a, b, by rw [he]; rfl, by simp [ha, Ne.symm hc]⟩
      exact this (bl s) h)
    have hra : ∀ c ∈ a, 0 ≤ c ∧ c ≤ 255 := fun c hc => bl_range s c (by rw [he]; simp [hc])
    have hrb : ∀ c ∈ b, 0 ≤ c ∧ c ≤ 255 := fun c hc => bl_range s c (by rw [he]; simp [hc])
    refine ⟨strOfNums a, strOfNums b, by rw [bl_strOfNums a hra]; exact ha, bl_inj ?_⟩
    rw [bl_append, bl_append, bl_nl, bl_strOfNums a hra, bl_strOfNums b hrb, he, List.append_assoc]; rfl
  · exact .inl h
theorem pieces_all (s : ByteArray) : (pieces s).length = Lib.countB s nl + 1 := Lib.splitB_all nl (by rw [nl_size]; exact Nat.le_refl _) 0 _ s rfl
theorem pieces_of : ∀ (n : Nat) (s : ByteArray), s.size ≤ n → ∀ p ∈ pieces s, (10 : Int) ∉ bl p ∧ p.size ≤ s.size
  | n, s, hn => by
    rcases nl_cases s with h | ⟨l, r, hl, rfl⟩
    · rw [pieces_one s h]
      intro p hp
      rw [List.mem_singleton] at hp
      subst hp
      exact ⟨h, Nat.le_refl _⟩
    · have hs : (l ++ nl ++ r).size = l.size + 1 + r.size := by rw [ByteArray.size_append, ByteArray.size_append, nl_size]
      rw [pieces_cut l r hl]
      intro p hp
      rcases List.mem_cons.1 hp with rfl | hp
      · exact ⟨hl, by omega⟩
      · match n with
        | 0 => omega
        | n + 1 =>
          have := pieces_of n r (by omega) p hp
          exact ⟨this.1, by omega⟩
theorem pieces_len (s : ByteArray) : (pieces s).length ≤ s.size + 1 := by
  have := Lib.countB_le nl (by rw [nl_size]; exact Nat.le_refl _) s.size s (Nat.le_refl _)
  rw [pieces_all]; omega
theorem lines_some (s : ByteArray) (h : s.size < 4294967281) : lines s = some ((pieces s).filter says) := by
  unfold lines
  rw [if_pos]
  have := pieces_len s
  refine ⟨by omega, pieces_all s, by omega, ?_, h⟩
  rw [List.all_eq_true]
  intro p hp
  exact words_some p (by have := (pieces_of _ s (Nat.le_refl _) p hp).2; omega)
/-- Lines, each with its end. -/
def ended : List ByteArray → ByteArray
  | [] => ⟨#[]⟩
  | l :: t => l ++ nl ++ ended t
theorem says_nil : says ⟨#[]⟩ = false := by decide +kernel
theorem pieces_ended : ∀ ls : List ByteArray, (∀ l ∈ ls, (10 : Int) ∉ bl l) → pieces (ended ls) = ls ++ [⟨#[]⟩]
  | [], _ => pieces_one _ (by decide +kernel)
  | l :: t, h => by
    rw [ended, pieces_cut l (ended t) (h l (by simp)), pieces_ended t (fun x hx => h x (by simp [hx]))]; rfl
theorem lines_ended (ls : List ByteArray) (h : ∀ l ∈ ls, (10 : Int) ∉ bl l) (hs : ∀ l ∈ ls, says l = true) (hz : (ended ls).size < 4294967281) : lines (ended ls) = some ls := by
  rw [lines_some _ hz, pieces_ended ls h, List.filter_append, List.filter_eq_self.2 hs]
  simp [says_nil]
theorem ended_append (a b : List ByteArray) : ended (a ++ b) = ended a ++ ended b := by
  induction a with
  | nil => show ended b = ⟨#[]⟩ ++ ended b; exact (ByteArray.empty_append).symm
  | cons l t ih => rw [List.cons_append, ended, ended, ih, ByteArray.append_assoc, ByteArray.append_assoc, ByteArray.append_assoc]
theorem ended_one (l : ByteArray) : ended [l] = l ++ nl := by rw [ended, ended]; exact ByteArray.append_empty
theorem ended_pieces : ∀ (n : Nat) (s : ByteArray), s.size ≤ n → (ended (pieces s)).size = s.size + 1
  | n, s, hn => by
    rcases nl_cases s with h | ⟨l, r, hl, rfl⟩
    · rw [pieces_one s h, ended_one, ByteArray.size_append, nl_size]
    · have hs : (l ++ nl ++ r).size = l.size + 1 + r.size := by rw [ByteArray.size_append, ByteArray.size_append, nl_size]
      rw [pieces_cut l r hl, ended, ByteArray.size_append, ByteArray.size_append, nl_size]
      match n with
      | 0 => omega
      | n + 1 => rw [ended_pieces n r (by omega)]; omega
theorem ended_filter (p : ByteArray → Bool) (l : List ByteArray) : (ended (l.filter p)).size ≤ (ended l).size := by
  induction l with
  | nil => exact Nat.le_refl _
  | cons a t ih =>
    rw [List.filter_cons]
    split
    · rw [ended, ended, ByteArray.size_append, ByteArray.size_append (a := a ++ nl)]; omega
    · rw [ended, ByteArray.size_append]; omega
theorem rd_at (a : List ByteArray) (x : ByteArray) (b : List ByteArray) : rdOf ByteArray.empty (a ++ x :: b) (a.length : Nat) = x := by
  unfold rdOf
  simp
theorem bt_ne (s : ByteArray) (h : (10 : Int) ∉ bl s) (j : Nat) (hj : j < s.size) : bt s (j : Nat) ≠ 10 := by
  rw [bt_bl, List.getD_eq_getElem?_getD, List.getElem?_eq_getElem (by rw [bl_length]; exact hj)]
  intro hc
  exact h (hc ▸ List.getElem_mem _)
theorem hexd_hexv (a : Int) (h : 0 ≤ hexv a) : hexd (hexv a) = a := by
  unfold hexv at *
  split at h
  · rw [if_pos (by assumption)]; unfold hexd; rw [if_pos (by omega)]; omega
  · split at h
    · rw [if_neg (by assumption), if_pos (by assumption)]; unfold hexd; rw [if_neg (by omega)]; omega
    · omega
/-- What a \ reads back is what a quote writes. -/
theorem esc_inv (r : List Int) (h : (esc r).2 ≠ 0) : 92 :: r = q1 (esc r).1 ++ r.drop (esc r).2.toNat := by
  match r with
  | [] => exact absurd rfl h
  | c :: r =>
    by_cases hc : c = 34 ∨ c = 92
    · rw [esc_q hc] at *
      show 92 :: c :: r = q1 c ++ r
      rw [show q1 c = [92, c] by unfold q1; rw [if_pos hc]]; rfl
    · match r with
      | [] => rw [esc_short hc (by simp)] at h; exact absurd rfl h
      | [a] => rw [esc_short hc (by simp)] at h; exact absurd rfl h
      | a :: b :: t =>
        rw [esc_long hc] at *
        split at h
        · rename_i hx
          rw [if_pos hx]
          have ra := hexv_range a
          have rb := hexv_range b
          have hv : ¬ (16 * hexv a + hexv b = 34 ∨ 16 * hexv a + hexv b = 92) := by omega
          show 92 :: c :: a :: b :: t = q1 (16 * hexv a + hexv b) ++ t
          rw [show q1 (16 * hexv a + hexv b) = [92, 120, hexd ((16 * hexv a + hexv b) / 16), hexd ((16 * hexv a + hexv b) % 16)] by unfold q1; rw [if_neg hv, if_neg hx.2.2.2]]
          rw [show (16 * hexv a + hexv b) / 16 = hexv a by omega, show (16 * hexv a + hexv b) % 16 = hexv b by omega, hexd_hexv a hx.2.1, hexd_hexv b hx.2.2.1, hx.1]
          rfl
        · exact absurd rfl h
theorem qt_q1 (k : Nat) (out : List ByteArray) (w : List Int) (c : Int) (hc : Byte c) (l : List Int) : qt (k + 1) out w (q1 c ++ l) = qt k out (w ++ [c]) l := by
  unfold Byte at hc
  by_cases h1 : c = 34 ∨ c = 92
  · rw [show q1 c = [92, c] by unfold q1; rw [if_pos h1], List.cons_append, List.singleton_append, qt_step, if_neg (by omega), if_neg (by omega), if_pos rfl, esc_q h1]
    simp
  · by_cases h2 : 32 ≤ c ∧ c ≤ 126
    · rw [show q1 c = [c] by unfold q1; rw [if_neg h1, if_pos h2], List.singleton_append, qt_step, if_neg (by omega), if_neg (by omega), if_neg (by omega)]
    · rw [show q1 c = [92, 120, hexd (c / 16), hexd (c % 16)] by unfold q1; rw [if_neg h1, if_neg h2]]
      have e1 := hexv_hexd (c / 16) (by omega)
      have e2 := hexv_hexd (c % 16) (by omega)
      have e3 : ∀ t, esc (120 :: hexd (c / 16) :: hexd (c % 16) :: t) = (c, 3) := fun t => by
        rw [esc_long (by omega), e1, e2, if_pos (by omega)]
        rw [show 16 * (c / 16) + c % 16 = c by omega]
      simp only [List.cons_append, List.nil_append]
      rw [qt_step, if_neg (by omega), if_neg (by omega), if_pos rfl, e3, if_neg (show ¬ ((c, (3 : Int)).2 = 0) by show ¬ ((3:Int) = 0); decide)]
      rfl
theorem qt_dec (rest : List Int) (out : List ByteArray) (res : List ByteArray × Int) : ∀ (l : List Int), (∀ c ∈ l, Byte c) → ∀ (n : Nat) (w : List Int), qt n out w (l.flatMap q1 ++ 34 :: rest) = some res → ∃ m, m < n ∧ ed m out (w ++ l) rest = some res
  | [], _, 0, w, h => by simp [qt] at h
  | [], _, n + 1, w, h => by
    rw [List.flatMap_nil, List.nil_append, qt_step, if_neg (by omega), if_pos rfl] at h
    exact ⟨n, by omega, by rw [List.append_nil]; exact h⟩
  | c :: l, hb, 0, w, h => by simp [qt] at h
  | c :: l, hb, n + 1, w, h => by
    rw [List.flatMap_cons, List.append_assoc, qt_q1 _ _ _ _ (hb c (by simp))] at h
    obtain ⟨m, hm, he⟩ := qt_dec rest out res l (fun d hd => hb d (by simp [hd])) n _ h
    exact ⟨m, by omega, by rw [List.append_assoc] at he; exact he⟩
theorem qt_neg (out : List ByteArray) (res : List ByteArray × Int) : ∀ (n : Nat) (w l : List Int), (∀ c ∈ l, Byte c) → qt n out w l = some res → (∃ (w' rest : List Int), (∀ c ∈ w', Byte c) ∧ l = w'.flatMap q1 ++ 34 :: rest) ∨ res = ([], 11)
  | 0, w, l, _, h => by simp [qt] at h
  | n + 1, w, [], _, h => by simp only [qt, Option.some.injEq] at h; exact .inr h.symm
  | n + 1, w, c :: r, hb, h => by
    rw [qt_step] at h
    split at h
    · exact .inr (Option.some.inj h).symm
    · split at h
      · rename_i h34; exact .inl ⟨[], r, by simp, by rw [h34]; rfl⟩
      · split at h
        · split at h
          · exact .inr (Option.some.inj h).symm
          · rename_i h92 hz
            have hr : ∀ d ∈ r, Byte d := fun d hd => hb d (by simp [hd])
            rcases qt_neg out res n _ _ (fun d hd => hr d (List.mem_of_mem_drop hd)) h with ⟨w', rest, hw, he⟩ | hc
            · refine .inl ⟨(esc r).1 :: w', rest, ?_, ?_⟩
              · intro d hd
                rcases List.mem_cons.1 hd with rfl | hd
                · exact esc_byte r hr
                · exact hw d hd
              · rw [h92, esc_inv r hz, he, List.flatMap_cons, List.append_assoc]
            · exact .inr hc
        · rename_i hr hq h92
          rcases qt_neg out res n _ _ (fun d hd => hb d (by simp [hd])) h with ⟨w', rest, hw, he⟩ | hc
          · refine .inl ⟨c :: w', rest, ?_, ?_⟩
            · intro d hd
              rcases List.mem_cons.1 hd with rfl | hd
              · exact hb _ (by simp)
              · exact hw d hd
            · rw [List.flatMap_cons, show q1 c = [c] by unfold q1; rw [if_neg (by omega), if_pos (by omega)], he]; rfl
          · exact .inr hc
theorem drop_cons {l : List Int} {i : Nat} {c : Int} {r : List Int} (h : l.drop i = c :: r) : i < l.length ∧ l.getD i 0 = c ∧ l.drop (i + 1) = r := by
  have h1 : i < l.length := by
    by_cases hi : i < l.length
    · exact hi
    · rw [List.drop_eq_nil_of_le (by omega)] at h; simp at h
  rw [List.drop_eq_getElem_cons h1] at h
  injection h with h2 h3
  exact ⟨h1, by rw [List.getD_eq_getElem?_getD, List.getElem?_eq_getElem h1]; exact h2, h3⟩
theorem at_cons {s : ByteArray} {i : Nat} {c : Int} {r : List Int} (h : (bl s).drop i = c :: r) : i < s.size ∧ bt s (i : Nat) = c ∧ (bl s).drop (i + 1) = r := by
  obtain ⟨a, b, c⟩ := drop_cons h
  rw [bl_length] at a
  exact ⟨a, by rw [bt_bl]; exact b, c⟩
theorem at_nil {s : ByteArray} {i : Nat} (h : (bl s).drop i = []) : s.size ≤ i := by
  rw [List.drop_eq_nil_iff, bl_length] at h; exact h
theorem at_lt {s : ByteArray} {i : Nat} (h : i < s.size) : (bl s).drop i = bt s (i : Nat) :: (bl s).drop (i + 1) := by
  have h1 : i < (bl s).length := by rw [bl_length]; exact h
  rw [List.drop_eq_getElem_cons h1, bt_bl, List.getD_eq_getElem?_getD, List.getElem?_eq_getElem h1]; rfl
theorem wrap2 (i : Nat) (h : i ≤ 4611686018427387904) : wrap64 ((i : Int) + 2) = ((i + 2 : Nat) : Int) := by unfold wrap64; omega
theorem wrap3 (i : Nat) (h : i ≤ 4611686018427387904) : wrap64 ((i : Int) + 3) = ((i + 3 : Nat) : Int) := by unfold wrap64; omega
theorem nums_size (l : List Int) : (strOfNums l).size = l.length := by unfold strOfNums; simp [ByteArray.size]
theorem flat_ge : ∀ w : List Int, w.length ≤ (w.flatMap q1).length
  | [] => Nat.le_refl _
  | c :: w => by
    have := flat_ge w
    have h1 : 1 ≤ (q1 c).length := by unfold q1; split <;> (try split) <;> simp
    rw [List.flatMap_cons, List.length_append, List.length_cons]; omega
theorem tw_all (p : Int → Bool) : ∀ (l : List Int), ∀ c ∈ l.takeWhile p, p c = true
  | [], c, h => by simp at h
  | d :: l, c, h => by
    rw [List.takeWhile_cons] at h
    split at h
    · rename_i hd
      rcases List.mem_cons.1 h with rfl | h
      · exact hd
      · exact tw_all p l c h
    · simp at h
theorem dw_head (p : Int → Bool) : ∀ (l : List Int), l.dropWhile p = [] ∨ ∃ c r, l.dropWhile p = c :: r ∧ p c = false
  | [] => .inl rfl
  | d :: l => by
    rw [List.dropWhile_cons]
    split
    · exact dw_head p l
    · rename_i hd; exact .inr ⟨d, l, rfl, by simpa using hd⟩
end Go.Proofs.YtkenihkjdbdlkaaDoor.XCut
