/-
  Words and lines, plain: every line has an answer; a text is cut at its line ends.
-/
import Derived.Laws.CopyOwn
import Derived.ArgAppend
import Derived.Below
import Derived.BigQuiet
import Derived.Deep.AppendLies
import Derived.Deep.CutBlock
import Derived.Deep.DeepCutAuto
import Derived.Deep.Draws
import Derived.Deep.LoopGhost
import Derived.Deep.OwnRows
import Derived.Deep.QuietTactic
import Derived.Deep.RegionHeld3
import Derived.Deep.WholeRow
import Derived.KernelRfl
import Derived.Laws.BitsLemmas
import Derived.Laws.BytesArg
import Derived.Laws.IdiomCopy
import Derived.Laws.MakeOwn
import Derived.Laws.OwnMore
import Derived.Laws.Rows
import Derived.Laws.Slices
import Derived.Lib.AppendStr
import Derived.Lib.ConvBytes
import Derived.Lib.Hide
import Derived.Maps.AppendAt
import Derived.OrdersHeld
import Derived.Outline
import Derived.OwnWalk
import Derived.RowKit
import Derived.RowKit3
import Derived.Tactics
import Derived.WalkKit
import Derived.WideLaws
import Derived.Test.YtkenihkjdbdlkaaDoorProg
import Derived.Test.YtkenihkjdbdlkaaDoorWApart
import Derived.Test.YtkenihkjdbdlkaaDoorWArr
import Derived.Test.YtkenihkjdbdlkaaDoorWAt
import Derived.Test.YtkenihkjdbdlkaaDoorWEqStruct
import Derived.Test.YtkenihkjdbdlkaaDoorWFoot
import Derived.Test.YtkenihkjdbdlkaaDoorWFootNe
import Derived.Test.YtkenihkjdbdlkaaDoorWFour
import Derived.Test.YtkenihkjdbdlkaaDoorWGuard
import Derived.Test.YtkenihkjdbdlkaaDoorWInv
import Derived.Test.YtkenihkjdbdlkaaDoorWInvWords
import Derived.Test.YtkenihkjdbdlkaaDoorWKept
import Derived.Test.YtkenihkjdbdlkaaDoorWLast
import Derived.Test.YtkenihkjdbdlkaaDoorWMore
import Derived.Test.YtkenihkjdbdlkaaDoorWN
import Derived.Test.YtkenihkjdbdlkaaDoorWNEv
import Derived.Test.YtkenihkjdbdlkaaDoorWQPut
import Derived.Test.YtkenihkjdbdlkaaDoorWRepsOne
import Derived.Test.YtkenihkjdbdlkaaDoorWShare
import Derived.Test.YtkenihkjdbdlkaaDoorWTab
import Derived.Test.YtkenihkjdbdlkaaDoorWWords
import Derived.Test.YtkenihkjdbdlkaaDoorWZeros
import Derived.Test.YtkenihkjdbdlkaaDoorShelf
import Derived.Test.YtkenihkjdbdlkaaDoorXPlain
import Derived.Test.YtkenihkjdbdlkaaDoorXLines
namespace Go.Proofs.YtkenihkjdbdlkaaDoor.XCut
open Go.RowKit Go.Proofs.YtkenihkjdbdlkaaDoorW.PrintWords Go.Proofs.YtkenihkjdbdlkaaDoorW.PrintLast XEsc XWordsP XQuote XPlain XLines
set_option linter.unusedVariables false
theorem drop_le (l : List Int) (p : Int → Bool) : (l.dropWhile p).length ≤ l.length := (List.dropWhile_sublist p).length_le
theorem fuel : ∀ k : Nat, (∀ out l, 2 * l.length + 1 ≤ k → (bw k out l).isSome) ∧ (∀ out w l, 2 * l.length + 1 ≤ k → (qt k out w l).isSome) ∧ (∀ out w l, 2 * l.length + 2 ≤ k → (ed k out w l).isSome)
  | 0 => ⟨fun _ _ h => by omega, fun _ _ _ h => by omega, fun _ _ _ h => by omega⟩
  | k + 1 => by
    have ih := fuel k
    refine ⟨fun out l h => ?_, fun out w l h => ?_, fun out w l h => ?_⟩
    · match l with
      | [] => simp only [bw]; rfl
      | c :: r =>
        simp only [List.length_cons] at h
        simp only [bw]
        split
        · exact ih.1 _ _ (by omega)
        · split
          · rfl
          · split
            · exact ih.2.1 _ _ _ (by omega)
            · split
              · rfl
              · rename_i hb
                refine ih.2.2 _ _ _ ?_
                have : bareI c = true := by
                  by_cases hc : bareI c = true
                  · exact hc
                  · exact absurd (by rw [List.takeWhile_cons, if_neg hc]) hb
                rw [List.dropWhile_cons, if_pos this]
                have := drop_le r bareI
                omega
    · match l with
      | [] => simp only [qt]; rfl
      | c :: r =>
        simp only [List.length_cons] at h
        rw [qt_step]
        split
        · rfl
        · split
          · exact ih.2.2 _ _ _ (by omega)
          · split
            · split
              · rfl
              · exact ih.2.1 _ _ _ (by rw [List.length_drop]; omega)
            · exact ih.2.1 _ _ _ (by omega)
    · match l with
      | [] => simp only [ed]; exact ih.1 _ _ (by simp; omega)
      | c :: r =>
        simp only [List.length_cons] at h
        simp only [ed]
        split
        · exact ih.1 _ _ (by simp; omega)
        · rfl
theorem more : ∀ k : Nat, (∀ out l, LeO (bw k out l) (bw (k + 1) out l)) ∧ (∀ out w l, LeO (qt k out w l) (qt (k + 1) out w l)) ∧ (∀ out w l, LeO (ed k out w l) (ed (k + 1) out w l))
  | 0 => ⟨fun _ _ _ h => by simp [bw] at h, fun _ _ _ _ h => by simp [qt] at h, fun _ _ _ _ h => by simp [ed] at h⟩
  | k + 1 => by
    have ih := more k
    refine ⟨fun out l => ?_, fun out w l => ?_, fun out w l => ?_⟩
    · match l with
      | [] => rw [bw, bw]; exact LeO.refl _
      | c :: r =>
        rw [bw, bw]
        exact LeO.ite (ih.1 _ _) (LeO.ite (LeO.refl _) (LeO.ite (ih.2.1 _ _ _) (LeO.ite (LeO.refl _) (ih.2.2 _ _ _))))
    · match l with
      | [] => rw [qt, qt]; exact LeO.refl _
      | c :: r =>
        rw [qt_step, qt_step]
        exact LeO.ite (LeO.refl _) (LeO.ite (ih.2.2 _ _ _) (LeO.ite (LeO.ite (LeO.refl _) (ih.2.1 _ _ _)) (ih.2.1 _ _ _)))
    · match l with
      | [] => rw [ed, ed]; exact ih.1 _ _
      | c :: r =>
        rw [ed, ed]
        exact LeO.ite (ih.1 _ _) (LeO.refl _)
theorem words_some (s : ByteArray) (h : s.size ≤ 1099511627776) : (words s).isSome = true := by
  unfold words
  rw [if_pos h]
  exact (fuel _).1 _ _ (by rw [bl_length]; omega)
theorem rd_at (a : List ByteArray) (x : ByteArray) (b : List ByteArray) : rdOf ByteArray.empty (a ++ x :: b) (a.length : Nat) = x := by
  unfold rdOf
  simp
theorem hexd_hexv (a : Int) (h : 0 ≤ hexv a) : hexd (hexv a) = a := by
  unfold hexv at *
  split at h
  · rw [if_pos (by assumption)]; unfold hexd; rw [if_pos (by omega)]; omega
  · split at h
    · rw [if_neg (by assumption), if_pos (by assumption)]; unfold hexd; rw [if_neg (by omega)]; omega
    · omega
theorem esc_inv (r : List Int) (h : (esc r).2 ≠ 0) : 92 :: r = q1 (esc r).1 ++ r.drop (esc r).2.toNat := by
  match r with
  | [] => exact absurd rfl h
  | c :: r =>
    by_cases hc : c = 34 ∨ c = 92
    · rw [esc_q hc] at *
      show 92 :: c :: r = q1 c ++ r
      rw [show q1 c = [92, c] by unfold q1; rw [if_pos hc]]; rfl
    · match r with
      | [] => rw [esc_short hc (by simp)] at h; exact absurd rfl h
      | [a] => rw [esc_short hc (by simp)] at h; exact absurd rfl h
      | a :: b :: t =>
        rw [esc_long hc] at *
        split at h
        · rename_i hx
          rw [if_pos hx]
          have ra := hexv_range a
          have rb := hexv_range b
          have hv : ¬ (16 * hexv a + hexv b = 34 ∨ 16 * hexv a + hexv b = 92) := by omega
          show 92 :: c :: a :: b :: t = q1 (16 * hexv a + hexv b) ++ t
          rw [show q1 (16 * hexv a + hexv b) = [92, 120, hexd ((16 * hexv a + hexv b) / 16), hexd ((16 * hexv a + hexv b) % 16)] by unfold q1; rw [if_neg hv, if_neg hx.2.2.2]]
          rw [show (16 * hexv a + hexv b) / 16 = hexv a by omega, show (16 * hexv a + hexv b) % 16 = hexv b by omega, hexd_hexv a hx.2.1, hexd_hexv b hx.2.2.1, hx.1]
          rfl
        · exact absurd rfl h
theorem qt_q1 (k : Nat) (out : List ByteArray) (w : List Int) (c : Int) (hc : Byte c) (l : List Int) : qt (k + 1) out w (q1 c ++ l) = qt k out (w ++ [c]) l := by
  unfold Byte at hc
  by_cases h1 : c = 34 ∨ c = 92
  · rw [show q1 c = [92, c] by unfold q1; rw [if_pos h1], List.cons_append, List.singleton_append, qt_step, if_neg (by omega), if_neg (by omega), if_pos rfl, esc_q h1]
    simp
  · by_cases h2 : 32 ≤ c ∧ c ≤ 126
    · rw [show q1 c = [c] by unfold q1; rw [if_neg h1, if_pos h2], List.singleton_append, qt_step, if_neg (by omega), if_neg (by omega), if_neg (by omega)]
    · rw [show q1 c = [92, 120, hexd (c / 16), hexd (c % 16)] by unfold q1; rw [if_neg h1, if_neg h2]]
      have e1 := hexv_hexd (c / 16) (by omega)
      have e2 := hexv_hexd (c % 16) (by omega)
      have e3 : ∀ t, esc (120 :: hexd (c / 16) :: hexd (c % 16) :: t) = (c, 3) := fun t => by
        rw [esc_long (by omega), e1, e2, if_pos (by omega)]
        rw [show 16 * (c / 16) + c % 16 = c by omega]
      simp only [List.cons_append, List.nil_append]
      rw [qt_step, if_neg (by omega), if_neg (by omega), if_pos rfl, e3, if_neg (show ¬ ((c, (3 : Int)).2 = 0) by show ¬ ((3:Int) = 0); decide)]
      rfl
theorem qt_dec (rest : List Int) (out : List ByteArray) (res : List ByteArray × Int) : ∀ (l : List Int), (∀ c ∈ l, Byte c) → ∀ (n : Nat) (w : List Int), qt n out w (l.flatMap q1 ++ 34 :: rest) = some res → ∃ m, m < n ∧ ed m out (w ++ l) rest = some res
  | [], _, 0, w, h => by simp [qt] at h
  | [], _, n + 1, w, h => by
    rw [List.flatMap_nil, List.nil_append, qt_step, if_neg (by omega), if_pos rfl] at h
    exact ⟨n, by omega, by rw [List.append_nil]; exact h⟩
  | c :: l, hb, 0, w, h => by simp [qt] at h
  | c :: l, hb, n + 1, w, h => by
    rw [List.flatMap_cons, List.append_assoc, qt_q1 _ _ _ _ (hb c (by simp))] at h
    obtain ⟨m, hm, he⟩ := qt_dec rest out res l (fun d hd => hb d (by simp [hd])) n _ h
    exact ⟨m, by omega, by rw [List.append_assoc] at he; exact he⟩
theorem qt_neg (out : List ByteArray) (res : List ByteArray × Int) : ∀ (n : Nat) (w l : List Int), (∀ c ∈ l, Byte c) → qt n out w l = some res → (∃ (w' rest : List Int), (∀ c ∈ w', Byte c) ∧ l = w'.flatMap q1 ++ 34 :: rest) ∨ res = ([], 11)
  | 0, w, l, _, h => by simp [qt] at h
  | n + 1, w, [], _, h => by simp only [qt, Option.some.injEq] at h; exact .inr h.symm
  | n + 1, w, c :: r, hb, h => by
    rw [qt_step] at h
    split at h
    · exact .inr (Option.some.inj h).symm
    · split at h
      · rename_i h34; exact .inl ⟨[], r, by simp, by rw [h34]; rfl⟩
      · split at h
        · split at h
          · exact .inr (Option.some.inj h).symm
          · rename_i h92 hz
            have hr : ∀ d ∈ r, Byte d := fun d hd => hb d (by simp [hd])
            rcases qt_neg out res n _ _ (fun d hd => hr d (List.mem_of_mem_drop hd)) h with ⟨w', rest, hw, he⟩ | hc
            · refine .inl ⟨(esc r).1 :: w', rest, ?_, ?_⟩
              · intro d hd
                rcases List.mem_cons.1 hd with rfl | hd
                · exact esc_byte r hr
                · exact hw d hd
              · rw [h92, esc_inv r hz, he, List.flatMap_cons, List.append_assoc]
            · exact .inr hc
        · rename_i hr hq h92
          rcases qt_neg out res n _ _ (fun d hd => hb d (by simp [hd])) h with ⟨w', rest, hw, he⟩ | hc
          · refine .inl ⟨c :: w', rest, ?_, ?_⟩
            · intro d hd
              rcases List.mem_cons.1 hd with rfl | hd
              · exact hb _ (by simp)
              · exact hw d hd
            · rw [List.flatMap_cons, show q1 c = [c] by unfold q1; rw [if_neg (by omega), if_pos (by omega)], he]; rfl
          · exact .inr hc
theorem drop_cons {l : List Int} {i : Nat} {c : Int} {r : List Int} (h : l.drop i = c :: r) : i < l.length ∧ l.getD i 0 = c ∧ l.drop (i + 1) = r := by
  have h1 : i < l.length := by
    by_cases hi : i < l.length
    · exact hi
    · rw [List.drop_eq_nil_of_le (by omega)] at h; simp at h
  rw [List.drop_eq_getElem_cons h1] at h
  injection h with h2 h3
  exact ⟨h1, by rw [List.getD_eq_getElem?_getD, List.getElem?_eq_getElem h1]; exact h2, h3⟩
theorem at_cons {s : ByteArray} {i : Nat} {c : Int} {r : List Int} (h : (bl s).drop i = c :: r) : i < s.size ∧ bt s (i : Nat) = c ∧ (bl s).drop (i + 1) = r := by
  obtain ⟨a, b, c⟩ := drop_cons h
  rw [bl_length] at a
  exact ⟨a, by rw [bt_bl]; exact b, c⟩
theorem at_nil {s : ByteArray} {i : Nat} (h : (bl s).drop i = []) : s.size ≤ i := by
  rw [List.drop_eq_nil_iff, bl_length] at h; exact h
theorem wrap2 (i : Nat) (h : i ≤ 4611686018427387904) : wrap64 ((i : Int) + 2) = ((i + 2 : Nat) : Int) := by unfold wrap64; omega
theorem wrap3 (i : Nat) (h : i ≤ 4611686018427387904) : wrap64 ((i : Int) + 3) = ((i + 3 : Nat) : Int) := by unfold wrap64; omega
theorem nums_size (l : List Int) : (strOfNums l).size = l.length := by unfold strOfNums; simp [ByteArray.size]
theorem flat_ge : ∀ w : List Int, w.length ≤ (w.flatMap q1).length
  | [] => Nat.le_refl _
  | c :: w => by
    have := flat_ge w
    have h1 : 1 ≤ (q1 c).length := by unfold q1; split <;> (try split) <;> simp
    rw [List.flatMap_cons, List.length_append, List.length_cons]; omega
theorem tw_all (p : Int → Bool) : ∀ (l : List Int), ∀ c ∈ l.takeWhile p, p c = true
  | [], c, h => by simp at h
  | d :: l, c, h => by
    rw [List.takeWhile_cons] at h
    split at h
    · rename_i hd
      rcases List.mem_cons.1 h with rfl | h
      · exact hd
      · exact tw_all p l c h
    · simp at h
theorem dw_head (p : Int → Bool) : ∀ (l : List Int), l.dropWhile p = [] ∨ ∃ c r, l.dropWhile p = c :: r ∧ p c = false
  | [] => .inl rfl
  | d :: l => by
    rw [List.dropWhile_cons]
    split
    · exact dw_head p l
    · rename_i hd; exact .inr ⟨d, l, rfl, by simpa using hd⟩
end Go.Proofs.YtkenihkjdbdlkaaDoor.XCut
