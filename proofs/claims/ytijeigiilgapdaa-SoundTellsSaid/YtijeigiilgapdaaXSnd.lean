/-
 Functions with rounds: what they come to in the end; loops over a row.
 SoundTells, the plain part: sums; all accounts come to nothing; signs.
 SoundTells, the plain part: signs; rates, funds, allocations.
 SoundTells, the plain part: the funds by the reference; allocations; lists.
 SoundTells, the plain part: draws; jobs, one by one.
 SoundTells, the plain part: a job by the program, and by the reference.
 SoundTells, the plain part: a job by the reference; all jobs.
 SoundTells, the plain part: all jobs, by the program and by the reference; what they have of an allocation.
 SoundTells, the plain part: liened and spent; the reference's sum; products; what is covered.
 SoundTells, the plain part: products, prices, totals of draws, what is covered.
 SoundTells, the plain part: nodes apart; limits.
 SoundTells, the plain part: limits, by the reference.
 SoundTells, the plain part: what is wrong with a state; the program tells it.
-/
import Derived.Test.YtijeigiilgapdaaWAll
import Derived.Test.YtijeigiilgapdaaQSoundTellsx1
import Derived.Test.YtijeigiilgapdaaQSoundTellsx11
import Derived.Test.YtijeigiilgapdaaQSoundTellsx12
import Derived.Test.YtijeigiilgapdaaQSoundTellsx17
import Derived.Test.YtijeigiilgapdaaQSoundTellsx18
import Derived.Test.YtijeigiilgapdaaQSoundTellsx2
import Derived.Test.YtijeigiilgapdaaQSoundTellsx13
import Derived.Test.YtijeigiilgapdaaXPoolBits
import Derived.Test.YtijeigiilgapdaaQSoundTellsx3
import Derived.Test.YtijeigiilgapdaaQSoundTellsx14
import Derived.Test.YtijeigiilgapdaaQSoundTellsx4
import Derived.Test.YtijeigiilgapdaaQSoundTellsx15
import Derived.Test.YtijeigiilgapdaaQSoundTellsx6
import Derived.Test.YtijeigiilgapdaaQSoundTellsx7
import Derived.Test.YtijeigiilgapdaaQSoundTellsx16
import Derived.Test.YtijeigiilgapdaaXRefMul
import Derived.Test.YtijeigiilgapdaaQSoundTellsx8
import Derived.Test.YtijeigiilgapdaaXPath
import Derived.Test.YtijeigiilgapdaaQSoundTellsx9
import Derived.Test.YtijeigiilgapdaaQSoundTellsx19
import Derived.Test.YtijeigiilgapdaaQSoundTellsx10
section
namespace Go.Proofs.Ytijeigiilgapdaa.XCom
open Go.RowKit Go.Proofs.YtijeigiilgapdaaW.PrintWords
set_option linter.unusedVariables false
set_option linter.unusedSimpArgs false
/-- With rounds enough it is this. -/
def Com {α : Type} (f : Nat → Option α) (v : α) : Prop := ∃ K, ∀ k, K ≤ k → f k = some v
theorem Com.const {α : Type} (v : α) : Com (fun _ => some v) v := ⟨0, fun _ _ => rfl⟩
theorem Com.of {α : Type} {o : Option α} {v : α} (h : o = some v) : Com (fun _ => o) v := ⟨0, fun _ _ => h⟩
theorem Com.succ {α : Type} {f : Nat → Option α} {v : α} (h : Com (fun k => f (k + 1)) v) : Com f v := by
 obtain ⟨K, h⟩ := h
 exact ⟨K + 1, fun k hk => by obtain ⟨j, rfl⟩ : ∃ j, k = j + 1 := ⟨k - 1, by omega⟩; exact h j (by omega)⟩
theorem Com.bind {α β : Type} {f : Nat → Option α} {a : α} {g : Nat → α → Option β} {b : β} (hf : Com f a) (hg : Com (fun k => g k a) b) : Com (fun k => (f k).bind (g k)) b := by
 obtain ⟨K, hf⟩ := hf
 obtain ⟨L, hg⟩ := hg
 exact ⟨max K L, fun k hk => by
  show (f k).bind (g k) = _
  rw [hf k (by omega), Option.bind_some]; exact hg k (by omega)⟩
theorem Com.map {α β : Type} {f : Nat → Option α} {a : α} {g : α → β} (hf : Com f a) : Com (fun k => (f k).map g) (g a) := by
 obtain ⟨K, hf⟩ := hf
 exact ⟨K, fun k hk => by show (f k).map g = _; rw [hf k hk]; rfl⟩
theorem Com.ex {α : Type} {f : Nat → Option α} {v : α} (h : Com f v) : ∃ k, f k = some v := by
 obtain ⟨K, h⟩ := h
 exact ⟨K, h K (Nat.le_refl _)⟩
theorem Com.congr {α : Type} {f g : Nat → Option α} {v : α} (h : Com f v) (e : ∀ k, g k = f k) : Com g v := by
 obtain ⟨K, h⟩ := h
 exact ⟨K, fun k hk => (e k).trans (h k hk)⟩
theorem Com.congr' {α : Type} {f : Nat → Option α} {v v' : α} (h : Com f v) (e : v = v') : Com f v' := e ▸ h
/-- A loop up to n: what stands ahead of the rest, and how a round goes. -/
theorem Com.loop {σ β : Type} (n : Nat) (F : Nat → σ → Int → Option β) (spec : σ → Nat → β) (Ok : σ → Nat → Prop)
  (hend : ∀ s, Ok s n → Com (fun k => F k s (n : Nat)) (spec s n))
  (hstep : ∀ s i, i < n → Ok s i → (∀ s', Ok s' (i + 1) → Com (fun k => F k s' ((i + 1 : Nat) : Int)) (spec s' (i + 1))) → Com (fun k => F k s (i : Nat)) (spec s i)) :
  ∀ i, i ≤ n → ∀ s, Ok s i → Com (fun k => F k s (i : Nat)) (spec s i) := by
 intro i hi
 obtain ⟨m, hm⟩ : ∃ m, n - i = m := ⟨_, rfl⟩
 induction m generalizing i with
 | zero =>
  obtain rfl : i = n := by omega
  exact fun s hs => hend s hs
 | succ m ih => exact fun s hs => hstep s i (by omega) hs (fun s' hs' => ih (i + 1) (by omega) (by omega) s' hs')
theorem Com.iff {α : Type} {c : Prop} [Decidable c] {f g : Nat → Option α} {v : α} (h1 : c → Com f v) (h2 : ¬ c → Com g v) : Com (fun k => if c then f k else g k) v := by
 by_cases h : c
 ·exact (h1 h).congr (fun k => if_pos h)
 ·exact (h2 h).congr (fun k => if_neg h)
theorem Com.no {b r : Bool} (h : b = false) : Com (fun _ => some false) (b && r) := by rw [h]; exact Com.const _
theorem Com.yes {f : Nat → Option Bool} {b r : Bool} (h : b = true) (hf : Com f r) : Com f (b && r) := by rw [h, Bool.true_and]; exact hf
theorem w64 (i n : Nat) (h : i < n) (hn : n ≤ 4611686018427387904) : wrap64 ((i : Int) + 1) = ((i + 1 : Nat) : Int) := by unfold wrap64; omega
theorem w64r (x : Int) (h1 : -9223372036854775808 ≤ x) (h2 : x ≤ 9223372036854775807) : wrap64 x = x := by unfold wrap64; omega
theorem drop_at {α : Type} (xs : List α) (i : Nat) (h : i < xs.length) : xs.drop i = xs[i] :: xs.drop (i + 1) := List.drop_eq_getElem_cons h
theorem rd_at (xs : List Int) (i : Nat) (h : i < xs.length) : rd xs (i : Int) = xs[i] := by unfold rd; rw [Int.toNat_natCast, List.getD_eq_getElem?_getD, List.getElem?_eq_getElem h]; rfl
theorem toList_len (b : ByteArray) : b.toList.length = b.size := by
 rw [ByteArray.toList_eq, Array.length_toList]; rfl
end Go.Proofs.Ytijeigiilgapdaa.XCom
end
section
namespace Go.Proofs.Ytijeigiilgapdaa.XSnd
open Go.RowKit Go.Proofs.YtijeigiilgapdaaW.PrintWords Go.Proofs.YtijeigiilgapdaaW.PrintLast Go.Proofs.Ytijeigiilgapdaa.QSoundTells XCom
set_option linter.unusedVariables false
set_option linter.unusedSimpArgs false
theorem rd_alloc_at (xs : List S36) (i : Nat) (h : i < xs.length) : rd_T36 xs (i : Int) = xs[i] := by unfold rd_T36; rw [Int.toNat_natCast, List.getD_eq_getElem?_getD, List.getElem?_eq_getElem h]; rfl
theorem rd_fund_at (xs : List S34) (i : Nat) (h : i < xs.length) : rd_T34 xs (i : Int) = xs[i] := by unfold rd_T34; rw [Int.toNat_natCast, List.getD_eq_getElem?_getD, List.getElem?_eq_getElem h]; rfl
theorem rd_job_at (xs : List S50) (i : Nat) (h : i < xs.length) : rd_T50 xs (i : Int) = xs[i] := by unfold rd_T50; rw [Int.toNat_natCast, List.getD_eq_getElem?_getD, List.getElem?_eq_getElem h]; rfl
theorem rd_rate_at (xs : List S68) (i : Nat) (h : i < xs.length) : rd_T68 xs (i : Int) = xs[i] := by unfold rd_T68; rw [Int.toNat_natCast, List.getD_eq_getElem?_getD, List.getElem?_eq_getElem h]; rfl
theorem rd_draw_at (xs : List S60) (i : Nat) (h : i < xs.length) : rd_T60 xs (i : Int) = xs[i] := by unfold rd_T60; rw [Int.toNat_natCast, List.getD_eq_getElem?_getD, List.getElem?_eq_getElem h]; rfl
/-! ### money -/
def fitsB (n : Int) : Bool := decide (-1152921504606846976 ≤ n) && decide (n ≤ 1152921504606846976)
theorem fits_f (n : Int) : money_fits.f n = some (fitsB n) := by
 unfold money_fits.f fitsB
 split
 ·rename_i h; rw [decide_eq_true (show -1152921504606846976 ≤ n from h), Bool.true_and]
 ·rename_i h; rw [decide_eq_false (show ¬ -1152921504606846976 ≤ n from h), Bool.false_and]
theorem rfits_f (n : Int) : prebendref01_Fits.f n = some (fitsB n) := by
 unfold prebendref01_Fits.f fitsB
 split
 ·rename_i h; rw [decide_eq_true (show -1152921504606846976 ≤ n from h), Bool.true_and]
 ·rename_i h; rw [decide_eq_false (show ¬ -1152921504606846976 ≤ n from h), Bool.false_and]
theorem fits_iff (n : Int) : fitsB n = true ↔ -1152921504606846976 ≤ n ∧ n ≤ 1152921504606846976 := by
 unfold fitsB; rw [Bool.and_eq_true, decide_eq_true_eq, decide_eq_true_eq]
/-- A sum, one by one. -/
def addR : Int → List Int → Int × Int
 | s, [] => (s, 0)
 | s, n :: ns => if fitsB n = true ∧ fitsB (s + n) = true then addR (s + n) ns else (0, 2)
theorem add_ev (l : List Int) (hl : l.length ≤ 4611686018427387904) : Com (fun k => money_Add.f k l) (addR 0 l) := by
 have key := Com.loop l.length (fun k (s : Int) i => money_Add.l0 k s l (l.length : Int) i) (fun s i => addR s (l.drop i)) (fun s _ => fitsB s = true) (fun s _ => by
  refine Com.succ ?_
  simp only [money_Add.l0, Int.lt_irrefl, if_false, List.drop_length, addR]
  exact Com.const _) (fun s i hi hs ih => by
  refine Com.succ ?_
  have c1 : (i : Int) < (l.length : Int) := by omega
  have c0 : (0 : Int) ≤ (i : Int) := by omega
  simp only [money_Add.l0, c1, c0, if_true, rd_at l i hi, fits_f, Option.bind_some, drop_at l i hi, addR, w64 i l.length hi hl]
  have hb := (fits_iff s).1 hs
  by_cases h1 : fitsB l[i] = true
  ·have hb1 := (fits_iff _).1 h1
   have hw : wrap64 (s + l[i]) = s + l[i] := w64r _ (by omega) (by omega)
   rw [hw]
   by_cases h2 : fitsB (s + l[i]) = true
   ·simp only [h1, h2, if_true, and_self]
    exact ih _ h2
   ·simp only [h1, h2, if_true, if_false, and_false, Bool.false_eq_true]
    exact Com.const _
  ·simp only [h1, if_false, false_and, Bool.false_eq_true]
   exact Com.const _)
 have := key 0 (Nat.zero_le _) 0 (by decide)
 rw [List.drop_zero] at this
 exact this
theorem radd_ev (l : List Int) (hl : l.length ≤ 4611686018427387904) : Com (fun k => prebendref01_Add.f k l) (addR 0 l) := by
 have key := Com.loop l.length (fun k (s : Int) i => prebendref01_Add.l0 k l s i) (fun s i => addR s (l.drop i)) (fun s _ => fitsB s = true) (fun s _ => by
  refine Com.succ ?_
  simp only [prebendref01_Add.l0, Int.lt_irrefl, if_false, List.drop_length, addR]
  exact Com.const _) (fun s i hi hs ih => by
  refine Com.succ ?_
  have c1 : (i : Int) < (l.length : Int) := by omega
  have c0 : (0 : Int) ≤ (i : Int) := by omega
  simp only [prebendref01_Add.l0, c1, c0, if_true, rd_at l i hi, rfits_f, Option.bind_some, drop_at l i hi, addR, w64 i l.length hi hl]
  have hb := (fits_iff s).1 hs
  by_cases h1 : fitsB l[i] = true
  ·have hb1 := (fits_iff _).1 h1
   generalize l[i] = n at *
   have hw : wrap64 (s + n) = s + n := w64r _ (by omega) (by omega)
   have hw1 : wrap64 (1152921504606846976 - n) = 1152921504606846976 - n := w64r _ (by omega) (by omega)
   have hw2 : wrap64 (-1152921504606846976 - n) = -1152921504606846976 - n := w64r _ (by omega) (by omega)
   rw [hw, hw1, hw2]
   by_cases h2 : fitsB (s + n) = true
   ·have hb2 := (fits_iff _).1 h2
    have n1 : ¬ s > 1152921504606846976 - n := by omega
    have n2 : ¬ s < -1152921504606846976 - n := by omega
    simp only [h1, h2, if_true, and_self, n1, n2, if_false, ite_self]
    exact ih _ h2
   ·have hb2 : s + n < -1152921504606846976 ∨ s + n > 1152921504606846976 := by
     have := mt (fits_iff (s + n)).2 h2; omega
    simp only [h1, h2, if_true, if_false, and_false, Bool.false_eq_true]
    by_cases hp : n > 0
    ·have n1 : s > 1152921504606846976 - n := by omega
     simp only [hp, n1, if_true]; exact Com.const _
    ·have n2 : n < 0 := by omega
     have n3 : s < -1152921504606846976 - n := by omega
     simp only [hp, n2, n3, if_true, if_false]; exact Com.const _
  ·simp only [h1, if_false, false_and, Bool.false_eq_true]
   exact Com.const _)
 have := key 0 (Nat.zero_le _) 0 (by decide)
 rw [List.drop_zero] at this
 exact this
/-! ### all accounts -/
def flatA : List S36 → List Int
 | [] => []
 | a :: al => a.f3 :: a.f4 :: a.f5 :: flatA al
theorem flatA_len : ∀ al, (flatA al).length = 3 * al.length
 | [] => rfl
 | a :: al => by simp only [flatA, List.length_cons, flatA_len al]; omega
theorem total_ev (w : Int) (al : List S36) (hl : al.length ≤ 40) : Com (fun k => ledger_Total.f k w al) (addR 0 (w :: flatA al)) := by
 have key := Com.loop al.length (fun k (s : List Int) i => ledger_Total.l0 k s al (al.length : Int) i) (fun s i => addR 0 (s ++ flatA (al.drop i))) (fun s i => s.length = 1 + 3 * i) (fun s hs => by
  refine Com.succ ?_
  simp only [ledger_Total.l0, Int.lt_irrefl, if_false, List.drop_length, flatA, List.append_nil]
  exact Com.bind (add_ev s (by omega)) (Com.const _)) (fun s i hi hs ih => by
  refine Com.succ ?_
  have c1 : (i : Int) < (al.length : Int) := by omega
  have c0 : (0 : Int) ≤ (i : Int) := by omega
  have c2 : s.length + [al[i].f3, al[i].f4, al[i].f5].length < 17592186044416 := by simp only [List.length_cons, List.length_nil]; omega
  simp only [ledger_Total.l0, c1, c0, if_true, rd_alloc_at al i hi, Option.bind_some, drop_at al i hi, flatA, w64 i al.length hi (by omega), c2]
  have := ih (s ++ [al[i].f3, al[i].f4, al[i].f5]) (by simp only [List.length_append, List.length_cons, List.length_nil]; omega)
  rw [List.append_assoc] at this
  exact this)
 have := key 0 (Nat.zero_le _) [w] rfl
 rw [List.drop_zero] at this
 exact this
theorem flat_ev (w : Int) (al : List S36) (hl : al.length ≤ 40) : Com (fun k => prebendref09_Flat.f k w al) (w :: flatA al) := by
 have key := Com.loop al.length (fun k (s : List Int) i => prebendref09_Flat.l0 k al s i) (fun s i => s ++ flatA (al.drop i)) (fun s i => s.length = 1 + 3 * i) (fun s hs => by
  refine Com.succ ?_
  simp only [prebendref09_Flat.l0, Int.lt_irrefl, if_false, List.drop_length, flatA, List.append_nil]
  exact Com.const _) (fun s i hi hs ih => by
  refine Com.succ ?_
  have c1 : (i : Int) < (al.length : Int) := by omega
  have c0 : (0 : Int) ≤ (i : Int) := by omega
  have c2 : s.length + 1 < 17592186044416 := by omega
  have c3 : s.length + 1 + 1 < 17592186044416 := by omega
  have c4 : s.length + 1 + 1 + 1 < 17592186044416 := by omega
  simp only [prebendref09_Flat.l0, c1, c0, if_true, rd_alloc_at al i hi, Option.bind_some, drop_at al i hi, flatA, w64 i al.length hi (by omega), List.length_append, List.length_cons, List.length_nil, Nat.zero_add, c2, c3, c4]
  have := ih (s ++ [al[i].f3] ++ [al[i].f4] ++ [al[i].f5]) (by simp only [List.length_append, List.length_cons, List.length_nil]; omega)
  simp only [List.append_assoc, List.cons_append, List.nil_append] at this ⊢
  exact this)
 have := key 0 (Nat.zero_le _) [w] rfl
 rw [List.drop_zero] at this
 exact this
end Go.Proofs.Ytijeigiilgapdaa.XSnd
end
section
namespace Go.Proofs.Ytijeigiilgapdaa.XSnd
open Go.RowKit Go.Proofs.YtijeigiilgapdaaW.PrintWords Go.Proofs.YtijeigiilgapdaaW.PrintLast Go.Proofs.Ytijeigiilgapdaa.QSoundTells XCom
set_option linter.unusedVariables false
set_option linter.unusedSimpArgs false
/-! ### signs -/
def signOk (a : S36) : Bool := decide (0 ≤ a.f3 ∧ 0 ≤ a.f4 ∧ 0 ≤ a.f5)
def signsB (w : Int) (al : List S36) : Bool := al.all signOk && decide (w ≤ 0)
theorem mn3 (a b c : Int) : mn (mn a b) c < 0 ↔ a < 0 ∨ b < 0 ∨ c < 0 := by unfold mn; split <;> split <;> omega
theorem signs_ev (a0 w a2 : Int) (fs : List S34) (al : List S36) (rs : List S68) (js : List S50) (ks : List ByteArray) (hl : al.length ≤ 40) : Com (fun k => sound_signs.f k a0 w a2 fs al rs js ks) (signsB w al) := by
 have key := Com.loop al.length (fun k (_ : Unit) i => sound_signs.l0 k al (al.length : Int) i a0 w a2 fs al rs js ks) (fun _ i => (al.drop i).all signOk && decide (w ≤ 0)) (fun _ _ => True) (fun s _ => by
  refine Com.succ ?_
  simp only [sound_signs.l0, Int.lt_irrefl, if_false, List.drop_length, List.all_nil, Bool.true_and]
  exact Com.const _) (fun s i hi _ ih => by
  refine Com.succ ?_
  have c1 : (i : Int) < (al.length : Int) := by omega
  have c0 : (0 : Int) ≤ (i : Int) := by omega
  simp only [sound_signs.l0, c1, c0, if_true, rd_alloc_at al i hi, drop_at al i hi, List.all_cons, w64 i al.length hi (by omega), Bool.and_assoc]
  refine Com.iff (fun c => Com.no (decide_eq_false (fun h => by have := (mn3 _ _ _).1 c; omega))) (fun c => Com.yes (decide_eq_true (by have := mt (mn3 _ _ _).2 c; omega)) (ih () trivial)))
 have := key 0 (Nat.zero_le _) () trivial
 rw [List.drop_zero] at this
 exact this
/-! ### rates -/
def rateOk (r : S68) : Bool := decide ((0 ≤ r.f0 ∧ r.f0 ≤ 7) ∧ (0 ≤ r.f1 ∧ r.f1 ≤ 1099511627776) ∧ 0 ≤ r.f2 ∧ r.f2 ≤ 1099511627776)
def ratesB (rs : List S68) : Bool := decide (rs.length ≤ 16) && rs.all rateOk
theorem rates_ev (rs : List S68) (hl : rs.length ≤ 4611686018427387904) : Com (fun k => rate_Good.f k rs) (ratesB rs) := by
 have key := Com.loop rs.length (fun k (_ : Unit) i => rate_Good.l0 k rs (rs.length : Int) i) (fun _ i => (rs.drop i).all rateOk) (fun _ _ => True) (fun s _ => by
  refine Com.succ ?_
  simp only [rate_Good.l0, Int.lt_irrefl, if_false, List.drop_length, List.all_nil]
  exact Com.const _) (fun s i hi _ ih => by
  refine Com.succ ?_
  have c1 : (i : Int) < (rs.length : Int) := by omega
  have c0 : (0 : Int) ≤ (i : Int) := by omega
  simp only [rate_Good.l0, c1, c0, if_true, rd_rate_at rs i hi, drop_at rs i hi, List.all_cons, w64 i rs.length hi hl]
  refine Com.iff (fun c => Com.no (decide_eq_false (fun h => by have := (mn3 _ _ _).1 c; omega))) (fun c => ?_)
  have c := mt (mn3 _ _ _).2 c
  refine Com.iff (fun d => Com.no (decide_eq_false (fun h => by omega))) (fun d1 => ?_)
  refine Com.iff (fun d => Com.no (decide_eq_false (fun h => by omega))) (fun d2 => ?_)
  refine Com.iff (fun d => Com.no (decide_eq_false (fun h => by omega))) (fun d3 => ?_)
  exact Com.yes (decide_eq_true (by omega)) (ih () trivial))
 have := key 0 (Nat.zero_le _) () trivial
 rw [List.drop_zero] at this
 unfold rate_Good.f ratesB
 exact Com.iff (fun c => Com.no (decide_eq_false (by omega))) (fun c => Com.yes (decide_eq_true (by omega)) this)
theorem rrates_ev (rs : List S68) (hl : rs.length ≤ 4611686018427387904) : Com (fun k => prebendref10_Good.f k rs) (ratesB rs) := by
 have key := Com.loop rs.length (fun k (_ : Unit) i => prebendref10_Good.l0 k rs i) (fun _ i => (rs.drop i).all rateOk && decide (rs.length ≤ 16)) (fun _ _ => True) (fun s _ => by
  refine Com.succ ?_
  simp only [prebendref10_Good.l0, Int.lt_irrefl, if_false, List.drop_length, List.all_nil, Bool.true_and]
  rw [show decide (((rs.length : Nat) : Int) ≤ 16) = decide (rs.length ≤ 16) from by congr 1; exact propext (by omega)]
  exact Com.const _) (fun s i hi _ ih => by
  refine Com.succ ?_
  have c1 : (i : Int) < (rs.length : Int) := by omega
  have c0 : (0 : Int) ≤ (i : Int) := by omega
  simp only [prebendref10_Good.l0, c1, c0, if_true, rd_rate_at rs i hi, drop_at rs i hi, List.all_cons, w64 i rs.length hi hl, Bool.and_assoc]
  refine Com.iff (fun d => Com.no (decide_eq_false (fun h => by omega))) (fun d1 => ?_)
  refine Com.iff (fun d => Com.no (decide_eq_false (fun h => by omega))) (fun d2 => ?_)
  refine Com.iff (fun d => Com.no (decide_eq_false (fun h => by omega))) (fun d3 => ?_)
  refine Com.iff (fun d => Com.no (decide_eq_false (fun h => by omega))) (fun d4 => ?_)
  refine Com.iff (fun d => Com.no (decide_eq_false (fun h => by omega))) (fun d5 => ?_)
  refine Com.iff (fun d => Com.no (decide_eq_false (fun h => by omega))) (fun d6 => ?_)
  exact Com.yes (decide_eq_true (by omega)) (ih () trivial))
 have := key 0 (Nat.zero_le _) () trivial
 rw [List.drop_zero, Bool.and_comm] at this
 exact this
/-! ### funds -/
def fundOk (n : Nat) (f : S34) : Bool := decide ((1 ≤ (f.f0.size : Int) ∧ (f.f0.size : Int) ≤ 16) ∧ (-1 ≤ f.f1 ∧ f.f1 < (n : Int)) ∧ 0 ≤ f.f2 ∧ f.f2 ≤ 1152921504606846976)
def nameIn (x : S34) (l : List S34) : Bool := l.any (fun y => y.f0.toList == x.f0.toList)
def fundsFrom : Nat → List S34 → List S34 → Bool
 | _, _, [] => true
 | n, seen, f :: fs => (fundOk n f && !nameIn f seen) && fundsFrom (n + 1) (seen ++ [f]) fs
def fundsB (fs : List S34) : Bool := decide (fs.length ≤ 8) && fundsFrom 0 [] fs
theorem idx_any {α : Type} (p : α → Bool) : ∀ (l : List α) (k : Nat), decide (0 ≤ XIdx.idxF p l k) = l.any p
 | [], k => by simp [XIdx.idxF]
 | x :: xs, k => by
  rw [XIdx.idxF, List.any_cons]
  cases h : p x with
  | true => simp
  | false => rw [if_neg (by decide), idx_any p xs (k + 1), Bool.false_or]
theorem empty_size (b : ByteArray) : b.toList.isEmpty = decide (b.size < 1) := by
 have h := XCom.toList_len b
 cases hb : b.toList with
 | nil => rw [hb] at h; simp at h; simp [← h]
 | cons x xs => rw [hb] at h; simp at h; simp [← h]
theorem goodFrom_eq (xs : List S34) : ∀ (ys : List S34) (n : Nat), xs.drop n = ys → XGood.goodFrom (fun x : S34 => x.f0) (fun x => x.f1) (fun x => x.f2) xs n ys = fundsFrom n (xs.take n) ys
 | [], n, _ => rfl
 | y :: ys, n, h => by
  have hn : n < xs.length := by
   rcases Nat.lt_or_ge n xs.length with h1 | h1
   ·exact h1
   ·rw [List.drop_eq_nil_of_le h1] at h; cases h
  rw [drop_at xs n hn] at h
  injection h with h1 h2
  rw [show XGood.goodFrom (fun x : S34 => x.f0) (fun x => x.f1) (fun x => x.f2) xs n (y :: ys) = (XGood.goodAt (fun x : S34 => x.f0) (fun x => x.f1) (fun x => x.f2) xs n y && XGood.goodFrom (fun x : S34 => x.f0) (fun x => x.f1) (fun x => x.f2) xs (n + 1) ys) from rfl]
  rw [goodFrom_eq xs ys (n + 1) h2, fundsFrom, List.take_succ_eq_append_getElem hn, h1]
  congr 1
  unfold XGood.goodAt
  rw [idx_any, empty_size]
  unfold fundOk nameIn
  cases (xs.take n).any (fun z => z.f0.toList == y.f0.toList) with
  | true => simp
  | false =>
   rw [Bool.not_false, Bool.true_and, Bool.and_true]
   by_cases hok : (1 ≤ (y.f0.size : Int) ∧ (y.f0.size : Int) ≤ 16) ∧ (-1 ≤ y.f1 ∧ y.f1 < (n : Int)) ∧ 0 ≤ y.f2 ∧ y.f2 ≤ 1152921504606846976
   ·rw [decide_eq_true hok, decide_eq_false (show ¬ y.f0.size < 1 by omega), decide_eq_false (show ¬ 16 < (y.f0.size : Int) by omega), decide_eq_false (show ¬ y.f1 < -1 by omega), decide_eq_false (show ¬ (n : Int) ≤ y.f1 by omega), decide_eq_false (show ¬ y.f2 < 0 by omega), decide_eq_false (show ¬ 1152921504606846976 < y.f2 by omega)]; rfl
   ·rw [decide_eq_false hok]
    by_cases d1 : y.f0.size < 1
    ·simp [d1]
    by_cases d2 : 16 < (y.f0.size : Int)
    ·simp [d2]
    by_cases d3 : y.f1 < -1
    ·simp [d3]
    by_cases d4 : (n : Int) ≤ y.f1
    ·simp [d4]
    by_cases d5 : y.f2 < 0
    ·simp [d5]
    by_cases d6 : 1152921504606846976 < y.f2
    ·simp [d6]
    exact absurd (by omega) hok
theorem tree_f (fs : List S34) : tree_Good.f fs = some (fundsB fs) := by
 unfold tree_Good.f XGood.goodF fundsB
 rw [goodFrom_eq fs fs 0 (by rw [List.drop_zero]), List.take_zero]
end Go.Proofs.Ytijeigiilgapdaa.XSnd
end
section
namespace Go.Proofs.Ytijeigiilgapdaa.XSnd
open Go.RowKit Go.Proofs.YtijeigiilgapdaaW.PrintWords Go.Proofs.YtijeigiilgapdaaW.PrintLast Go.Proofs.Ytijeigiilgapdaa.QSoundTells XCom
set_option linter.unusedVariables false
set_option linter.unusedSimpArgs false
theorem len_dec (n m : Nat) (hm : m = 8 ∨ m = 16) : decide ((n : Int) ≤ (m : Int)) = decide (n ≤ m) := by
 by_cases h : n ≤ m
 ·rw [decide_eq_true h, decide_eq_true (by omega)]
 ·rw [decide_eq_false h, decide_eq_false (by omega)]
theorem rfunds_ev (fs : List S34) (hl : fs.length ≤ 4611686018427387904) : Com (fun k => prebendref08_Good.f k fs) (fundsB fs) := by
 have key := Com.loop fs.length (fun k (_ : Unit) i => prebendref08_Good.l0 k fs i) (fun _ i => fundsFrom i (fs.take i) (fs.drop i) && decide (fs.length ≤ 8)) (fun _ _ => True) (fun s _ => by
  refine Com.succ ?_
  simp only [prebendref08_Good.l0, Int.lt_irrefl, if_false, List.drop_length, fundsFrom, Bool.true_and]
  rw [show decide (((fs.length : Nat) : Int) ≤ 8) = decide (fs.length ≤ 8) from len_dec _ 8 (.inl rfl)]
  exact Com.const _) (fun s i hi _ ih => by
  have inner : Com (fun k => prebendref08_Good.l1 k fs (i : Nat) 0 fs[i].f0 fs[i].f1 fs[i].f2) (!nameIn fs[i] (fs.take i) && (fundsFrom (i + 1) (fs.take (i + 1)) (fs.drop (i + 1)) && decide (fs.length ≤ 8))) := by
   have k2 := Com.loop i (fun k (_ : Unit) j => prebendref08_Good.l1 k fs (i : Nat) j fs[i].f0 fs[i].f1 fs[i].f2) (fun _ j => !nameIn fs[i] ((fs.take i).drop j) && (fundsFrom (i + 1) (fs.take (i + 1)) (fs.drop (i + 1)) && decide (fs.length ≤ 8))) (fun _ _ => True) (fun s _ => by
    refine Com.succ ?_
    have e : (fs.take i).drop i = [] := List.drop_eq_nil_of_le (by rw [List.length_take]; omega)
    simp only [prebendref08_Good.l1, Int.lt_irrefl, if_false, e, nameIn, List.any_nil, Bool.not_false, Bool.true_and, w64 i fs.length hi hl]
    exact ih () trivial) (fun s j hj _ ih2 => by
    refine Com.succ ?_
    have c1 : (j : Int) < (i : Int) := by omega
    have c2 : (j : Int) < (fs.length : Int) := by omega
    have c0 : (0 : Int) ≤ (j : Int) := by omega
    have hjl : j < (fs.take i).length := by rw [List.length_take]; omega
    have e : (fs.take i).drop j = fs[j] :: (fs.take i).drop (j + 1) := by rw [drop_at _ j hjl, List.getElem_take]
    simp only [prebendref08_Good.l1, c1, c2, c0, if_true, rd_fund_at fs j (by omega), e, nameIn, List.any_cons, Bool.not_or, Bool.and_assoc, w64 j i hj (by omega)]
    refine Com.iff (fun c => Com.no (by simp [c])) (fun c => Com.yes (by simpa using c) ?_)
    exact ih2 () trivial)
   exact k2 0 (Nat.zero_le _) () trivial
  refine Com.succ ?_
  have c1 : (i : Int) < (fs.length : Int) := by omega
  have c0 : (0 : Int) ≤ (i : Int) := by omega
  have hw : wrap64 ((i : Int) - 1) = (i : Int) - 1 := w64r _ (by omega) (by omega)
  simp only [prebendref08_Good.l0, c1, c0, if_true, rd_fund_at fs i hi, drop_at fs i hi, fundsFrom, ← List.take_succ_eq_append_getElem hi, Bool.and_assoc, hw]
  have bad : fundOk i fs[i] = false → Com (fun k => prebendref08_Good.j1 k fs (i : Nat) true fs[i].f0 fs[i].f1 fs[i].f2) (fundOk i fs[i] && (!nameIn fs[i] (fs.take i) && (fundsFrom (i + 1) (fs.take (i + 1)) (fs.drop (i + 1)) && decide (fs.length ≤ 8)))) := fun h => by
   refine Com.succ ?_
   simp only [prebendref08_Good.j1, if_true]
   exact Com.no h
  refine Com.iff (fun d => bad (decide_eq_false (fun h => by omega))) (fun d1 => ?_)
  refine Com.iff (fun d => bad (decide_eq_false (fun h => by omega))) (fun d2 => ?_)
  refine Com.iff (fun d => bad (decide_eq_false (fun h => by omega))) (fun d3 => ?_)
  refine Com.iff (fun d => bad (decide_eq_false (fun h => by omega))) (fun d4 => ?_)
  refine Com.iff (fun d => bad (decide_eq_false (fun h => by omega))) (fun d5 => ?_)
  by_cases d6 : fs[i].f2 > 1152921504606846976
  ·rw [decide_eq_true d6]
   exact bad (decide_eq_false (fun h => by omega))
  ·rw [decide_eq_false d6]
   refine Com.succ ?_
   simp only [prebendref08_Good.j1, Bool.false_eq_true, if_false]
   exact Com.yes (decide_eq_true (by omega)) inner)
 have := key 0 (Nat.zero_le _) () trivial
 rw [List.drop_zero, List.take_zero, Bool.and_comm] at this
 exact this
/-! ### allocations -/
def allocOk (n : Nat) (a : S36) : Bool := decide ((0 ≤ a.f0 ∧ a.f0 < (n : Int)) ∧ (0 ≤ a.f1 ∧ a.f1 < a.f2) ∧ a.f2 ≤ 1099511627776)
def allocsB (n : Nat) (al : List S36) : Bool := decide (al.length ≤ 16) && al.all (allocOk n)
def listsB (fs : List S34) (al : List S36) (rs : List S68) : Bool := fundsB fs && (ratesB rs && allocsB fs.length al)
theorem lists_ev (a0 w a2 : Int) (fs : List S34) (al : List S36) (rs : List S68) (js : List S50) (ks : List ByteArray) (hl : al.length ≤ 40) (hr : rs.length ≤ 4611686018427387904) : Com (fun k => sound_lists.f k a0 w a2 fs al rs js ks) (listsB fs al rs) := by
 have key := Com.loop al.length (fun k (_ : Unit) i => sound_lists.l0 k al (al.length : Int) i a0 w a2 fs al rs js ks) (fun _ i => (al.drop i).all (allocOk fs.length)) (fun _ _ => True) (fun s _ => by
  refine Com.succ ?_
  simp only [sound_lists.l0, Int.lt_irrefl, if_false, List.drop_length, List.all_nil]
  exact Com.const _) (fun s i hi _ ih => by
  refine Com.succ ?_
  have c1 : (i : Int) < (al.length : Int) := by omega
  have c0 : (0 : Int) ≤ (i : Int) := by omega
  simp only [sound_lists.l0, c1, c0, if_true, rd_alloc_at al i hi, drop_at al i hi, List.all_cons, w64 i al.length hi (by omega)]
  refine Com.iff (fun d => Com.no (decide_eq_false (fun h => by omega))) (fun d1 => ?_)
  refine Com.iff (fun d => Com.no (decide_eq_false (fun h => by omega))) (fun d2 => ?_)
  refine Com.iff (fun d => Com.no (decide_eq_false (fun h => by omega))) (fun d3 => ?_)
  refine Com.iff (fun d => Com.no (decide_eq_false (fun h => by omega))) (fun d4 => ?_)
  refine Com.iff (fun d => Com.no (decide_eq_false (fun h => by omega))) (fun d5 => ?_)
  exact Com.yes (decide_eq_true (by omega)) (ih () trivial))
 have k0 := key 0 (Nat.zero_le _) () trivial
 rw [List.drop_zero] at k0
 have jt : ∀ r : Bool, r = false → Com (fun k => sound_lists.j0 k true a0 w a2 fs al rs js ks) r := fun r h => by
  subst h
  refine Com.succ ?_
  simp only [sound_lists.j0, if_true]
  exact Com.const _
 unfold sound_lists.f listsB
 simp only [tree_f, Option.bind_some]
 refine Com.iff (fun h1 => ?_) (fun h1 => ?_)
 ·rw [h1, Bool.true_and]
  refine Com.bind (rates_ev rs hr) ?_
  refine Com.iff (fun h2 => ?_) (fun h2 => ?_)
  ·rw [h2, Bool.true_and]
   unfold allocsB
   by_cases h3 : (al.length : Int) > 16
   ·rw [decide_eq_true h3]
    exact jt _ (by rw [decide_eq_false (by omega), Bool.false_and])
   ·rw [decide_eq_false h3, decide_eq_true (show al.length ≤ 16 by omega), Bool.true_and]
    refine Com.succ ?_
    simp only [sound_lists.j0, Bool.false_eq_true, if_false]
    exact k0
  ·exact jt _ (by simp only [Bool.not_eq_true] at h2; rw [h2, Bool.false_and])
 ·exact jt _ (by simp only [Bool.not_eq_true] at h1; rw [h1, Bool.false_and])
theorem rallocs_ev (a0 w a2 : Int) (fs : List S34) (al : List S36) (rs : List S68) (js : List S50) (ks : List ByteArray) (hl : al.length ≤ 40) : Com (fun k => prebendref25_allocs.f k a0 w a2 fs al rs js ks) (allocsB fs.length al) := by
 have key := Com.loop al.length (fun k (_ : Unit) i => prebendref25_allocs.l0 k i a0 w a2 fs al rs js ks) (fun _ i => (al.drop i).all (allocOk fs.length) && decide (al.length ≤ 16)) (fun _ _ => True) (fun s _ => by
  refine Com.succ ?_
  simp only [prebendref25_allocs.l0, Int.lt_irrefl, if_false, List.drop_length, List.all_nil, Bool.true_and]
  rw [show decide (((al.length : Nat) : Int) ≤ 16) = decide (al.length ≤ 16) from len_dec _ 16 (.inr rfl)]
  exact Com.const _) (fun s i hi _ ih => by
  refine Com.succ ?_
  have c1 : (i : Int) < (al.length : Int) := by omega
  have c0 : (0 : Int) ≤ (i : Int) := by omega
  simp only [prebendref25_allocs.l0, c1, c0, if_true, rd_alloc_at al i hi, drop_at al i hi, List.all_cons, w64 i al.length hi (by omega), Bool.and_assoc]
  refine Com.iff (fun d => Com.no (decide_eq_false (fun h => by omega))) (fun d1 => ?_)
  refine Com.iff (fun d => Com.no (decide_eq_false (fun h => by omega))) (fun d2 => ?_)
  refine Com.iff (fun d => Com.no (decide_eq_false (fun h => by omega))) (fun d3 => ?_)
  refine Com.iff (fun d => Com.no (decide_eq_false (fun h => by omega))) (fun d4 => ?_)
  refine Com.iff (fun d => Com.no (decide_eq_false (fun h => by omega))) (fun d5 => ?_)
  exact Com.yes (decide_eq_true (by omega)) (ih () trivial))
 have := key 0 (Nat.zero_le _) () trivial
 rw [List.drop_zero, Bool.and_comm] at this
 exact this
end Go.Proofs.Ytijeigiilgapdaa.XSnd
end
section
namespace Go.Proofs.Ytijeigiilgapdaa.XSnd
open Go.RowKit Go.Proofs.YtijeigiilgapdaaW.PrintWords Go.Proofs.YtijeigiilgapdaaW.PrintLast Go.Proofs.YtijeigiilgapdaaW.PrintMore Go.Proofs.Ytijeigiilgapdaa.QSoundTells XCom XPoolBits
set_option linter.unusedVariables false
set_option linter.unusedSimpArgs false
theorem bit_of (a : Int) (m k : Nat) (hm : a % 4294967296 = (m : Int)) (hk : k < 32) : (a / 2 ^ k) % 2 = ((m / 2 ^ k % 2 : Nat) : Int) := by
 have e1 : a = (m : Int) + 2 ^ k * (2 ^ (31 - k) * 2 * (a / 4294967296)) := by
  have h2 : (2 : Int) ^ k * (2 ^ (31 - k) * 2 * (a / 4294967296)) = 4294967296 * (a / 4294967296) := by
   rw [← Int.mul_assoc, ← Int.mul_assoc, ← Int.pow_add, show k + (31 - k) = 31 by omega]
   rfl
  rw [h2]; omega
 have hp : (2 : Int) ^ k ≠ 0 := Int.ne_of_gt (Int.pow_pos (by decide))
 have e2 : a / 2 ^ k = (m : Int) / 2 ^ k + 2 ^ (31 - k) * 2 * (a / 4294967296) := by
  conv => lhs; rw [e1]
  rw [Int.add_mul_ediv_left _ _ hp]
 have e3 : (2 : Int) ^ (31 - k) * 2 * (a / 4294967296) = 2 * (2 ^ (31 - k) * (a / 4294967296)) := by
  rw [Int.mul_comm (2 ^ (31 - k)) 2, Int.mul_assoc]
 have e4 : ((m / 2 ^ k : Nat) : Int) = (m : Int) / 2 ^ k := by simp
 rw [e2, e3]
 generalize (2 : Int) ^ (31 - k) * (a / 4294967296) = z
 omega
theorem and_one (z : Int) : Go.bits .and .i64 z 1 = z % 2 := by
 show IntKind.i64.wrap (((BitVec.ofInt 64 z &&& BitVec.ofInt 64 1).toNat : Nat) : Int) = _
 have h1 : BitVec.ofInt 64 1 = 1#64 := rfl
 rw [h1, BitVec.toNat_and, BitVec.toNat_ofInt, show (1#64).toNat = 1 from rfl, Nat.and_one_is_mod, IntKind.wrap_i64]
 omega
theorem has_f (a : Int) (m k : Nat) (hm : a % 4294967296 = (m : Int)) (hk : k < 32) : prebendref14_Has.f a (k : Int) = some (decide (m / 2 ^ k % 2 = 1)) := by
 have hw : IntKind.u64.wrap (k : Int) = (k : Int) := by simp [IntKind.wrap, IntKind.bits, IntKind.signed]; omega
 unfold prebendref14_Has.f
 rw [hw, if_pos (by omega), and_one]
 have hs : shr .i64 a (k : Int) = a / 2 ^ k := by
  unfold shr
  rw [Int.toNat_natCast, Nat.min_eq_left (by show k ≤ 64; omega)]
 rw [hs, bit_of a m k hm hk]
 congr 1
 by_cases h : m / 2 ^ k % 2 = 1
 ·rw [h]; rfl
 ·rw [show m / 2 ^ k % 2 = 0 by omega]; rfl
/-! ### draws -/
def drawOk (d : S60) : Bool := decide ((0 ≤ d.f0 ∧ d.f0 ≤ 15) ∧ 1 ≤ d.f1 ∧ d.f1 ≤ 1152921504606846976)
def isIn (a : Int) (l : List Int) : Bool := l.any (fun x => x == a)
def drawsFrom : List Int → List S60 → Bool
 | _, [] => true
 | seen, d :: ds => (drawOk d && !isIn d.f0 seen) && drawsFrom (seen ++ [d.f0]) ds
def places (ds : List S60) : List Int := ds.map (fun d => d.f0)
theorem places_take (ds : List S60) (i : Nat) (h : i < ds.length) : places (ds.take (i + 1)) = places (ds.take i) ++ [ds[i].f0] := by
 unfold places; rw [List.take_succ_eq_append_getElem h, List.map_append]; rfl
theorem in_f (a lo hi : Int) : job_in.f a lo hi = some (decide (lo ≤ a ∧ a ≤ hi)) := by
 unfold job_in.f
 by_cases h : a ≥ lo
 ·rw [if_pos h]
  by_cases h2 : a ≤ hi
  ·rw [decide_eq_true h2, decide_eq_true (⟨h, h2⟩ : lo ≤ a ∧ a ≤ hi)]
  ·rw [decide_eq_false h2, decide_eq_false (fun h3 => h2 h3.2)]
 ·rw [if_neg h, decide_eq_false (fun h3 => h h3.1)]
theorem shl1 (a : Nat) (ha : a < 16) : shl .i64 1 (a : Int) = ((2 ^ a : Nat) : Int) := by
 unfold shl
 rw [Int.toNat_natCast, Nat.min_eq_left (by show a ≤ 64; omega), IntKind.wrap_i64]
 have h1 : 2 ^ a < 2 ^ 16 := Nat.pow_lt_pow_right (by decide) ha
 have h2 : ((2 ^ a : Nat) : Int) = 2 ^ a := by simp
 rw [← h2]
 generalize 2 ^ a = E at *
 omega
theorem shr1 (m a : Nat) (ha : a < 16) : shr .i64 (m : Int) (a : Int) = ((m / 2 ^ a : Nat) : Int) := by
 unfold shr
 rw [Int.toNat_natCast, Nat.min_eq_left (by show a ≤ 64; omega)]
 simp
theorem draws_ev (ds : List S60) (hl : ds.length ≤ 4611686018427387904) : Com (fun k => job_draws.f k ds) (drawsFrom [] ds) := by
 have key := Com.loop ds.length (fun k (s : Int) i => job_draws.l0 k s ds (ds.length : Int) i) (fun _ i => drawsFrom (places (ds.take i)) (ds.drop i)) (fun s i => ∃ m : Nat, s = (m : Int) ∧ m < 65536 ∧ ∀ a, a < 16 → m.testBit a = isIn (a : Int) (places (ds.take i))) (fun s _ => by
  refine Com.succ ?_
  simp only [job_draws.l0, Int.lt_irrefl, if_false, List.drop_length, drawsFrom]
  exact Com.const _) (fun s i hi hs ih => by
  obtain ⟨m, rfl, hm, hbits⟩ := hs
  refine Com.succ ?_
  have c1 : (i : Int) < (ds.length : Int) := by omega
  have c0 : (0 : Int) ≤ (i : Int) := by omega
  simp only [job_draws.l0, c1, c0, if_true, rd_draw_at ds i hi, drop_at ds i hi, drawsFrom, w64 i ds.length hi hl, in_f, Option.bind_some, decide_eq_true_eq]
  refine Com.iff (fun h1 => ?_) (fun h1 => by rw [show drawOk ds[i] = false from decide_eq_false (fun h => h1 h.1)]; exact Com.const _)
  refine Com.iff (fun h2 => ?_) (fun h2 => by rw [show drawOk ds[i] = false from decide_eq_false (fun h => h2 h.2)]; exact Com.const _)
  rw [show drawOk ds[i] = true from decide_eq_true ⟨h1, h2⟩, Bool.true_and]
  obtain ⟨a, ha⟩ : ∃ a : Nat, ds[i].f0 = (a : Int) := ⟨ds[i].f0.toNat, by omega⟩
  have hpt := places_take ds i hi
  rw [ha] at h1 hpt ⊢
  have ha16 : a < 16 := by omega
  have c2 : (0 : Int) ≤ (a : Int) := by omega
  have hb := hbits a ha16
  rw [Nat.testBit_eq_decide_div_mod_eq] at hb
  simp only [c2, if_true, shr1 m a ha16, shl1 a ha16, and_one]
  refine Com.iff (fun h3 => Com.no (by rw [← hb, decide_eq_true (by omega)]; rfl)) (fun h3 => ?_)
  rw [← hb, decide_eq_false (by omega), Bool.not_false, Bool.true_and]
  have hp : 2 ^ a < 65536 := Nat.pow_lt_pow_right (a := 2) (m := a) (n := 16) (by decide) ha16
  rw [or64 m (2 ^ a) (by omega) (by omega), ← hpt]
  refine ih _ ⟨m ||| 2 ^ a, rfl, Nat.or_lt_two_pow (n := 16) hm hp, fun b hb16 => ?_⟩
  rw [Nat.testBit_or, hbits b hb16, Nat.testBit_two_pow, hpt]
  unfold isIn
  rw [List.any_append, List.any_cons, List.any_nil, Bool.or_false]
  congr 1
  by_cases h : a = b
  ·subst h; simp
  ·have : ¬ ((a : Int) = (b : Int)) := by omega
   simp [h, this])
 have := key 0 (Nat.zero_le _) 0 ⟨0, rfl, by decide, fun a _ => by simp [isIn, places]⟩
 rw [List.drop_zero, List.take_zero] at this
 exact this
/-! at most sixteen -/
theorem nodup_len : ∀ (l m : List Int), l.Nodup → (∀ x ∈ l, x ∈ m) → l.length ≤ m.length
 | [], m, _, _ => Nat.zero_le _
 | a :: l, m, hn, hs => by
  have h1 := List.nodup_cons.1 hn
  have ha := hs a (List.mem_cons_self ..)
  have h2 := nodup_len l (m.erase a) h1.2 (fun x hx => (List.mem_erase_of_ne (by intro e; subst e; exact h1.1 hx)).2 (hs x (List.mem_cons_of_mem _ hx)))
  have h3 := List.length_erase_of_mem ha
  have h4 : 0 < m.length := List.length_pos_of_mem ha
  rw [List.length_cons]; omega
theorem draws_nodup : ∀ (ds : List S60) (seen : List Int), seen.Nodup → (∀ x ∈ seen, 0 ≤ x ∧ x ≤ 15) → drawsFrom seen ds = true → (seen ++ places ds).Nodup ∧ ∀ x ∈ seen ++ places ds, 0 ≤ x ∧ x ≤ 15
 | [], seen, hn, hr, _ => by simp only [places, List.map_nil, List.append_nil]; exact ⟨hn, hr⟩
 | d :: ds, seen, hn, hr, h => by
  rw [drawsFrom, Bool.and_eq_true, Bool.and_eq_true] at h
  have h1 := of_decide_eq_true h.1.1
  have h2 : isIn d.f0 seen = false := by simpa using h.1.2
  have hni : d.f0 ∉ seen := fun hm => by
   have : isIn d.f0 seen = true := List.any_eq_true.2 ⟨_, hm, by simp⟩
   rw [h2] at this; cases this
  have := draws_nodup ds (seen ++ [d.f0]) (by
   rw [List.nodup_append]
   exact ⟨hn, List.nodup_cons.2 ⟨List.not_mem_nil, List.nodup_nil⟩, fun a ha b hb e => by rw [List.mem_singleton.1 hb] at e; exact hni (e ▸ ha)⟩) (fun x hx => by
   rcases List.mem_append.1 hx with hx | hx
   ·exact hr x hx
   ·rw [List.mem_singleton.1 hx]; exact h1.1) h.2
  rw [List.append_assoc] at this
  exact this
theorem draws_len (ds : List S60) (h : drawsFrom [] ds = true) : ds.length ≤ 16 := by
 obtain ⟨h1, h2⟩ := draws_nodup ds [] List.nodup_nil (fun x hx => by cases hx) h
 rw [List.nil_append] at h1 h2
 have := nodup_len (places ds) [0, 1, 2, 3, 4, 5, 6, 7, 8, 9, 10, 11, 12, 13, 14, 15] h1 (fun x hx => by
  have := h2 x hx
  have hc : x = 0 ∨ x = 1 ∨ x = 2 ∨ x = 3 ∨ x = 4 ∨ x = 5 ∨ x = 6 ∨ x = 7 ∨ x = 8 ∨ x = 9 ∨ x = 10 ∨ x = 11 ∨ x = 12 ∨ x = 13 ∨ x = 14 ∨ x = 15 := by omega
  rcases hc with rfl | rfl | rfl | rfl | rfl | rfl | rfl | rfl | rfl | rfl | rfl | rfl | rfl | rfl | rfl | rfl <;> decide)
 unfold places at this
 rw [List.length_map] at this
 exact this
theorem rdraws_ev (ds : List S60) (hl : ds.length ≤ 4611686018427387904) : Com (fun k => prebendref19_draws.f k ds) (drawsFrom [] ds) := by
 have key := Com.loop ds.length (fun k (_ : Unit) i => prebendref19_draws.l0 k ds i) (fun _ i => drawsFrom (places (ds.take i)) (ds.drop i) && decide (ds.length ≤ 16)) (fun _ _ => True) (fun s _ => by
  refine Com.succ ?_
  simp only [prebendref19_draws.l0, Int.lt_irrefl, if_false, List.drop_length, drawsFrom, Bool.true_and]
  rw [show decide (((ds.length : Nat) : Int) ≤ 16) = decide (ds.length ≤ 16) from len_dec _ 16 (.inr rfl)]
  exact Com.const _) (fun s i hi _ ih => by
  have inner : Com (fun k => prebendref19_draws.l1 k ds (i : Nat) 0 ds[i].f0 ds[i].f1) (!isIn ds[i].f0 (places (ds.take i)) && (drawsFrom (places (ds.take (i + 1))) (ds.drop (i + 1)) && decide (ds.length ≤ 16))) := by
   have k2 := Com.loop i (fun k (_ : Unit) j => prebendref19_draws.l1 k ds (i : Nat) j ds[i].f0 ds[i].f1) (fun _ j => !isIn ds[i].f0 (places ((ds.take i).drop j)) && (drawsFrom (places (ds.take (i + 1))) (ds.drop (i + 1)) && decide (ds.length ≤ 16))) (fun _ _ => True) (fun s _ => by
    refine Com.succ ?_
    have e : (ds.take i).drop i = [] := List.drop_eq_nil_of_le (by rw [List.length_take]; omega)
    simp only [prebendref19_draws.l1, Int.lt_irrefl, if_false, e, places, List.map_nil, isIn, List.any_nil, Bool.not_false, Bool.true_and, w64 i ds.length hi hl]
    exact ih () trivial) (fun s j hj _ ih2 => by
    refine Com.succ ?_
    have c1 : (j : Int) < (i : Int) := by omega
    have c2 : (j : Int) < (ds.length : Int) := by omega
    have c0 : (0 : Int) ≤ (j : Int) := by omega
    have hjl : j < (ds.take i).length := by rw [List.length_take]; omega
    have e : (ds.take i).drop j = ds[j] :: (ds.take i).drop (j + 1) := by rw [drop_at _ j hjl, List.getElem_take]
    simp only [prebendref19_draws.l1, c1, c2, c0, if_true, rd_draw_at ds j (by omega), e, places, List.map_cons, isIn, List.any_cons, Bool.not_or, Bool.and_assoc, w64 j i hj (by omega)]
    refine Com.iff (fun c => Com.no (by simp [c])) (fun c => Com.yes (by simpa using c) ?_)
    exact ih2 () trivial)
   exact k2 0 (Nat.zero_le _) () trivial
  refine Com.succ ?_
  have c1 : (i : Int) < (ds.length : Int) := by omega
  have c0 : (0 : Int) ≤ (i : Int) := by omega
  simp only [prebendref19_draws.l0, c1, c0, if_true, rd_draw_at ds i hi, drop_at ds i hi, drawsFrom, ← places_take ds i hi, Bool.and_assoc]
  have bad : drawOk ds[i] = false → Com (fun k => prebendref19_draws.j1 k ds (i : Nat) true ds[i].f0 ds[i].f1) (drawOk ds[i] && (!isIn ds[i].f0 (places (ds.take i)) && (drawsFrom (places (ds.take (i + 1))) (ds.drop (i + 1)) && decide (ds.length ≤ 16)))) := fun h => by
   refine Com.succ ?_
   simp only [prebendref19_draws.j1, if_true]
   exact Com.no h
  refine Com.iff (fun d => bad (decide_eq_false (fun h => by omega))) (fun d1 => ?_)
  refine Com.iff (fun d => bad (decide_eq_false (fun h => by omega))) (fun d2 => ?_)
  refine Com.iff (fun d => bad (decide_eq_false (fun h => by omega))) (fun d3 => ?_)
  by_cases d6 : ds[i].f1 > 1152921504606846976
  ·rw [decide_eq_true d6]
   exact bad (decide_eq_false (fun h => by omega))
  ·rw [decide_eq_false d6]
   refine Com.succ ?_
   simp only [prebendref19_draws.j1, Bool.false_eq_true, if_false]
   exact Com.yes (decide_eq_true (by omega)) inner)
 have := key 0 (Nat.zero_le _) () trivial
 rw [List.drop_zero, List.take_zero] at this
 have e : (drawsFrom (places []) ds && decide (ds.length ≤ 16)) = drawsFrom [] ds := by
  show (drawsFrom [] ds && _) = _
  cases h : drawsFrom [] ds with
  | false => rfl
  | true => rw [decide_eq_true (draws_len ds h)]; rfl
 rw [e] at this
 exact this
end Go.Proofs.Ytijeigiilgapdaa.XSnd
end
section
namespace Go.Proofs.Ytijeigiilgapdaa.XSnd
open Go.RowKit Go.Proofs.YtijeigiilgapdaaW.PrintWords Go.Proofs.YtijeigiilgapdaaW.PrintLast Go.Proofs.YtijeigiilgapdaaW.PrintMore Go.Proofs.Ytijeigiilgapdaa.QSoundTells XCom XPoolBits
set_option linter.unusedVariables false
set_option linter.unusedSimpArgs false
theorem ones_f (m : Nat) (hm : m < 4294967296) : bits_OnesCount32.f (m : Int) = some ((pc 32 m : Nat) : Int) := ones_sum m hm
theorem pcount_f (a : Int) : pool_Count.f a = some ((pc 32 (a % 4294967296).toNat : Nat) : Int) := by
 have e : a % 4294967296 = (((a % 4294967296).toNat : Nat) : Int) := by omega
 unfold pool_Count.f
 rw [e, ones_f _ (by omega), Int.toNat_natCast]
 rfl
theorem pc_succ (k m : Nat) : pc (k + 1) m = pc k m + m / 2 ^ k % 2 := by
 rw [pc_add k 1 m]
 congr 1
theorem rcount_ev (a : Int) : Com (fun k => prebendref14_Count.f k a) ((pc 32 (a % 4294967296).toNat : Nat) : Int) := by
 obtain ⟨m, hm⟩ : ∃ m : Nat, a % 4294967296 = (m : Int) := ⟨(a % 4294967296).toNat, by omega⟩
 rw [hm, Int.toNat_natCast]
 have key := Com.loop 32 (fun k (s : Int) i => prebendref14_Count.l0 k a s i) (fun s i => ((pc 32 m : Nat) : Int)) (fun s i => s = ((pc i m : Nat) : Int)) (fun s hs => by
  subst hs
  refine Com.succ ?_
  simp only [prebendref14_Count.l0, show ¬ (((32 : Nat) : Int) < 32) from by decide, if_false]
  exact Com.const _) (fun s i hi hs ih => by
  subst hs
  refine Com.succ ?_
  have c1 : (i : Int) < 32 := by omega
  have hle := pc_le i m
  have hw : wrap64 (((pc i m : Nat) : Int) + 1) = ((pc i m : Nat) : Int) + 1 := w64r _ (by omega) (by omega)
  have hs := pc_succ i m
  simp only [prebendref14_Count.l0, c1, if_true, has_f a m i hm hi, Option.bind_some, decide_eq_true_eq, w64 i 32 hi (by decide), hw]
  refine Com.iff (fun h => ih _ (by rw [hs, h]; omega)) (fun h => ih _ (by rw [hs, show m / 2 ^ i % 2 = 0 from by omega]; omega)))
 exact key 0 (Nat.zero_le _) 0 (by simp [pc])
/-! ### a job -/
def baseOk (j : S50) : Bool := decide (1 ≤ j.f0 ∧ (0 ≤ j.f1 ∧ j.f1 ≤ 7) ∧ (1 ≤ j.f2 ∧ j.f2 ≤ 32) ∧ (1 ≤ j.f3 ∧ j.f3 ≤ 1048576) ∧ (0 ≤ j.f4 ∧ j.f4 ≤ 7) ∧ (0 ≤ j.f5 ∧ j.f5 ≤ 1048576) ∧ 0 ≤ j.f6 ∧ j.f6 ≤ 1099511627776)
def waitOk (j : S50) : Bool := decide (j.f8 = 0 ∧ j.f9 = 0 ∧ j.f10 = 0 ∧ j.f11.length = 0)
def runOk (j : S50) : Bool := decide ((0 ≤ j.f8 ∧ j.f8 ≤ 1099511627776) ∧ (0 ≤ j.f9 ∧ j.f9 ≤ 4294967295) ∧ ((pc 32 (j.f9 % 4294967296).toNat : Nat) : Int) = j.f2 ∧ j.f10 = 0) && drawsFrom [] j.f11
def doneOk (j : S50) : Bool := decide ((0 ≤ j.f8 ∧ j.f8 ≤ 1099511627776) ∧ j.f9 = 0 ∧ 0 ≤ j.f10 ∧ j.f10 ≤ j.f3) && drawsFrom [] j.f11
def stateOk (j : S50) : Bool := if j.f7 = 1 ∨ j.f7 = 2 then waitOk j else if j.f7 = 3 then runOk j else if j.f7 = 4 then doneOk j else false
def jobOk (j : S50) : Bool := baseOk j && stateOk j
def jcall (j : S50) (k : Nat) : Option Bool := job_Good.f k j.f0 j.f1 j.f2 j.f3 j.f4 j.f5 j.f6 j.f7 j.f8 j.f9 j.f10 j.f11
theorem len_zero (l : List S60) : ((l.length : Int) == 0) = decide (l.length = 0) := by
 by_cases h : l.length = 0
 ·rw [decide_eq_true h, h]; rfl
 ·rw [decide_eq_false h]
  have : ¬ ((l.length : Int) = 0) := by omega
  simpa using this
theorem job_ev (j : S50) (hl : j.f11.length ≤ 4611686018427387904) : Com (jcall j) (jobOk j) := by
 have j1 : ∀ s : Bool, (s = decide (j.f7 = 1 ∨ j.f7 = 2)) → Com (fun k => job_Good.j1 k j.f7 s j.f0 j.f1 j.f2 j.f3 j.f4 j.f5 j.f6 j.f7 j.f8 j.f9 j.f10 j.f11) (stateOk j) := fun s hs => by
  refine Com.succ ?_
  unfold stateOk
  simp only [job_Good.j1, in_f, Option.bind_some, decide_eq_true_eq, pcount_f, hs, len_zero]
  refine Com.iff (fun h => ?_) (fun h => ?_)
  ·rw [if_pos h]
   unfold waitOk
   refine Com.iff (fun h1 => ?_) (fun h1 => by rw [decide_eq_false (by omega)]; exact Com.const _)
   refine Com.iff (fun h2 => ?_) (fun h2 => by rw [decide_eq_false (by omega)]; exact Com.const _)
   refine Com.iff (fun h3 => ?_) (fun h3 => by rw [decide_eq_false (by omega)]; exact Com.const _)
   rw [show decide (j.f8 = 0 ∧ j.f9 = 0 ∧ j.f10 = 0 ∧ j.f11.length = 0) = decide (j.f11.length = 0) from by simp [h1, h2, h3]]
   exact Com.const _
  ·rw [if_neg h]
   refine Com.iff (fun h3 => ?_) (fun h3 => ?_)
   ·rw [if_pos h3]
    unfold runOk
    refine Com.iff (fun a1 => ?_) (fun a1 => Com.no (decide_eq_false (fun h => a1 h.1)))
    refine Com.iff (fun a2 => ?_) (fun a2 => Com.no (decide_eq_false (fun h => a2 h.2.1)))
    refine Com.iff (fun a3 => ?_) (fun a3 => Com.no (decide_eq_false (fun h => a3 h.2.2.1)))
    refine Com.iff (fun a4 => ?_) (fun a4 => Com.no (decide_eq_false (fun h => a4 h.2.2.2)))
    rw [decide_eq_true (⟨a1, a2, a3, a4⟩ : (0 ≤ j.f8 ∧ j.f8 ≤ 1099511627776) ∧ (0 ≤ j.f9 ∧ j.f9 ≤ 4294967295) ∧ ((pc 32 (j.f9 % 4294967296).toNat : Nat) : Int) = j.f2 ∧ j.f10 = 0), Bool.true_and]
    exact Com.bind (draws_ev _ hl) (Com.const _)
   ·rw [if_neg h3]
    refine Com.iff (fun h4 => ?_) (fun h4 => by rw [if_neg h4]; exact Com.const _)
    rw [if_pos h4]
    unfold doneOk
    refine Com.iff (fun a1 => ?_) (fun a1 => Com.no (decide_eq_false (fun h => a1 h.1)))
    refine Com.iff (fun a2 => ?_) (fun a2 => Com.no (decide_eq_false (fun h => a2 h.2.1)))
    refine Com.iff (fun a3 => ?_) (fun a3 => Com.no (decide_eq_false (fun h => a3 h.2.2)))
    rw [decide_eq_true (⟨a1, a2, a3⟩ : (0 ≤ j.f8 ∧ j.f8 ≤ 1099511627776) ∧ j.f9 = 0 ∧ 0 ≤ j.f10 ∧ j.f10 ≤ j.f3), Bool.true_and]
    exact Com.bind (draws_ev _ hl) (Com.const _)
 have j0t : baseOk j = false → Com (fun k => job_Good.j0 k true j.f0 j.f1 j.f2 j.f3 j.f4 j.f5 j.f6 j.f7 j.f8 j.f9 j.f10 j.f11) (baseOk j && stateOk j) := fun h => by
  refine Com.succ ?_
  simp only [job_Good.j0, if_true]
  exact Com.no h
 have j0f : baseOk j = true → Com (fun k => job_Good.j0 k false j.f0 j.f1 j.f2 j.f3 j.f4 j.f5 j.f6 j.f7 j.f8 j.f9 j.f10 j.f11) (baseOk j && stateOk j) := fun h => by
  refine Com.succ ?_
  simp only [job_Good.j0, Bool.false_eq_true, if_false]
  refine Com.yes h ?_
  refine Com.iff (fun h1 => j1 _ (by rw [h1]; rfl)) (fun h1 => j1 _ ?_)
  by_cases h2 : j.f7 = 2
  ·rw [h2]; rfl
  ·rw [decide_eq_false (by omega)]; simpa using h2
 unfold jcall job_Good.f jobOk
 simp only [in_f, Option.bind_some, decide_eq_true_eq]
 refine Com.iff (fun d => j0t (decide_eq_false (fun h => by omega))) (fun d0 => ?_)
 refine Com.iff (fun d1 => ?_) (fun d => j0t (decide_eq_false (fun h => by omega)))
 refine Com.iff (fun d2 => ?_) (fun d => j0t (decide_eq_false (fun h => by omega)))
 refine Com.iff (fun d3 => ?_) (fun d => j0t (decide_eq_false (fun h => by omega)))
 refine Com.iff (fun d4 => ?_) (fun d => j0t (decide_eq_false (fun h => by omega)))
 refine Com.iff (fun d5 => ?_) (fun d => j0t (decide_eq_false (fun h => by omega)))
 by_cases d6 : 0 ≤ j.f6 ∧ j.f6 ≤ 1099511627776
 ·rw [decide_eq_true d6, Bool.not_true]
  exact j0f (decide_eq_true (by omega))
 ·rw [decide_eq_false d6, Bool.not_false]
  exact j0t (decide_eq_false (fun h => by omega))
end Go.Proofs.Ytijeigiilgapdaa.XSnd
end
section
namespace Go.Proofs.Ytijeigiilgapdaa.XSnd
open Go.RowKit Go.Proofs.YtijeigiilgapdaaW.PrintWords Go.Proofs.YtijeigiilgapdaaW.PrintLast Go.Proofs.YtijeigiilgapdaaW.PrintMore Go.Proofs.Ytijeigiilgapdaa.QSoundTells XCom XPoolBits
set_option linter.unusedVariables false
set_option linter.unusedSimpArgs false
def rjcall (j : S50) (k : Nat) : Option Bool := prebendref19_Good.f k j.f0 j.f1 j.f2 j.f3 j.f4 j.f5 j.f6 j.f7 j.f8 j.f9 j.f10 j.f11
theorem rjob_ev (j : S50) (hl : j.f11.length ≤ 4611686018427387904) : Com (rjcall j) (jobOk j) := by
 have j2t : stateOk j = false → Com (fun k => prebendref19_Good.j2 k true j.f0 j.f1 j.f2 j.f3 j.f4 j.f5 j.f6 j.f7 j.f8 j.f9 j.f10 j.f11) (stateOk j) := fun h => by
  refine Com.succ ?_
  simp only [prebendref19_Good.j2, if_true, h]
  exact Com.const _
 have j1f : ¬ (j.f7 = 1 ∨ j.f7 = 2) → Com (fun k => prebendref19_Good.j1 k false j.f0 j.f1 j.f2 j.f3 j.f4 j.f5 j.f6 j.f7 j.f8 j.f9 j.f10 j.f11) (stateOk j) := fun hn => by
  have e : stateOk j = if j.f7 = 3 then runOk j else if j.f7 = 4 then doneOk j else false := by unfold stateOk; rw [if_neg hn]
  have bad : ¬ (0 ≤ j.f8 ∧ j.f8 ≤ 1099511627776) → stateOk j = false := fun h => by
   rw [e]
   unfold runOk doneOk
   rw [decide_eq_false (fun h2 => h h2.1), decide_eq_false (fun h2 => h h2.1)]
   simp
  refine Com.succ ?_
  simp only [prebendref19_Good.j1, Bool.false_eq_true, if_false]
  refine Com.iff (fun d => j2t (bad (by omega))) (fun d1 => ?_)
  refine Com.iff (fun d => j2t (bad (by omega))) (fun d2 => ?_)
  refine Com.bind (rdraws_ev _ hl) ?_
  cases hd : drawsFrom [] j.f11 with
  | false =>
   refine j2t ?_
   rw [e]
   unfold runOk doneOk
   rw [hd]
   simp
  | true =>
   refine Com.succ ?_
   simp only [prebendref19_Good.j2, Bool.not_true, Bool.false_eq_true, if_false]
   rw [e]
   refine Com.iff (fun h3 => ?_) (fun h3 => ?_)
   ·rw [if_pos h3]
    unfold runOk
    rw [hd, Bool.and_true]
    refine Com.iff (fun a1 => ?_) (fun a1 => by rw [decide_eq_false (fun h => a1 (by omega))]; exact Com.const _)
    refine Com.iff (fun a2 => ?_) (fun a2 => by rw [decide_eq_false (fun h => a2 (by omega))]; exact Com.const _)
    refine Com.bind (rcount_ev _) ?_
    refine Com.iff (fun a3 => ?_) (fun a3 => by rw [decide_eq_false (fun h => a3 h.2.2.1)]; exact Com.const _)
    have e2 : (j.f10 == 0) = decide ((0 ≤ j.f8 ∧ j.f8 ≤ 1099511627776) ∧ (0 ≤ j.f9 ∧ j.f9 ≤ 4294967295) ∧ ((pc 32 (j.f9 % 4294967296).toNat : Nat) : Int) = j.f2 ∧ j.f10 = 0) := by
     by_cases h0 : j.f10 = 0
     ·rw [decide_eq_true (by refine ⟨⟨by omega, by omega⟩, ⟨by omega, by omega⟩, a3, h0⟩)]; simp [h0]
     ·rw [decide_eq_false (fun h => h0 h.2.2.2)]; simp [h0]
    rw [← e2]
    exact Com.const _
   ·rw [if_neg h3]
    refine Com.iff (fun h4 => ?_) (fun h4 => by rw [if_neg h4]; exact Com.const _)
    rw [if_pos h4]
    unfold doneOk
    rw [hd, Bool.and_true]
    refine Com.iff (fun a1 => ?_) (fun a1 => by rw [decide_eq_false (fun h => a1 (by omega))]; exact Com.const _)
    refine Com.iff (fun a2 => ?_) (fun a2 => by rw [decide_eq_false (fun h => a2 (by omega))]; exact Com.const _)
    have e2 : decide (j.f10 ≤ j.f3) = decide ((0 ≤ j.f8 ∧ j.f8 ≤ 1099511627776) ∧ j.f9 = 0 ∧ 0 ≤ j.f10 ∧ j.f10 ≤ j.f3) := by
     by_cases h0 : j.f10 ≤ j.f3
     ·rw [decide_eq_true h0, decide_eq_true (by refine ⟨⟨by omega, by omega⟩, a1, by omega, h0⟩)]
     ·rw [decide_eq_false h0, decide_eq_false (fun h => h0 h.2.2.2)]
    rw [← e2]
    exact Com.const _
 have j1t : (j.f7 = 1 ∨ j.f7 = 2) → Com (fun k => prebendref19_Good.j1 k true j.f0 j.f1 j.f2 j.f3 j.f4 j.f5 j.f6 j.f7 j.f8 j.f9 j.f10 j.f11) (stateOk j) := fun h => by
  have e : stateOk j = waitOk j := by unfold stateOk; rw [if_pos h]
  rw [e]
  refine Com.succ ?_
  simp only [prebendref19_Good.j1, if_true, len_zero]
  unfold waitOk
  refine Com.iff (fun h1 => ?_) (fun h1 => by rw [decide_eq_false (by omega)]; exact Com.const _)
  refine Com.iff (fun h2 => ?_) (fun h2 => by rw [decide_eq_false (by omega)]; exact Com.const _)
  refine Com.iff (fun h3 => ?_) (fun h3 => by rw [decide_eq_false (by omega)]; exact Com.const _)
  rw [show decide (j.f8 = 0 ∧ j.f9 = 0 ∧ j.f10 = 0 ∧ j.f11.length = 0) = decide (j.f11.length = 0) from by simp [h1, h2, h3]]
  exact Com.const _
 have j0t : baseOk j = false → Com (fun k => prebendref19_Good.j0 k true j.f0 j.f1 j.f2 j.f3 j.f4 j.f5 j.f6 j.f7 j.f8 j.f9 j.f10 j.f11) (baseOk j && stateOk j) := fun h => by
  refine Com.succ ?_
  simp only [prebendref19_Good.j0, if_true]
  exact Com.no h
 have j0f : baseOk j = true → Com (fun k => prebendref19_Good.j0 k false j.f0 j.f1 j.f2 j.f3 j.f4 j.f5 j.f6 j.f7 j.f8 j.f9 j.f10 j.f11) (baseOk j && stateOk j) := fun h => by
  refine Com.succ ?_
  simp only [prebendref19_Good.j0, Bool.false_eq_true, if_false]
  refine Com.yes h ?_
  refine Com.iff (fun h1 => j1t (.inl h1)) (fun h1 => ?_)
  by_cases h2 : j.f7 = 2
  ·rw [show (j.f7 == 2) = true from by simp [h2]]; exact j1t (.inr h2)
  ·rw [show (j.f7 == 2) = false from by simp [h2]]; exact j1f (by omega)
 unfold rjcall prebendref19_Good.f jobOk
 refine Com.iff (fun d => j0t (decide_eq_false (fun h => by omega))) (fun d0 => ?_)
 refine Com.iff (fun d => j0t (decide_eq_false (fun h => by omega))) (fun d1 => ?_)
 refine Com.iff (fun d => j0t (decide_eq_false (fun h => by omega))) (fun d2 => ?_)
 refine Com.iff (fun d => j0t (decide_eq_false (fun h => by omega))) (fun d3 => ?_)
 refine Com.iff (fun d => j0t (decide_eq_false (fun h => by omega))) (fun d4 => ?_)
 refine Com.iff (fun d => j0t (decide_eq_false (fun h => by omega))) (fun d5 => ?_)
 refine Com.iff (fun d => j0t (decide_eq_false (fun h => by omega))) (fun d6 => ?_)
 refine Com.iff (fun d => j0t (decide_eq_false (fun h => by omega))) (fun d7 => ?_)
 refine Com.iff (fun d => j0t (decide_eq_false (fun h => by omega))) (fun d8 => ?_)
 refine Com.iff (fun d => j0t (decide_eq_false (fun h => by omega))) (fun d9 => ?_)
 refine Com.iff (fun d => j0t (decide_eq_false (fun h => by omega))) (fun d10 => ?_)
 refine Com.iff (fun d => j0t (decide_eq_false (fun h => by omega))) (fun d11 => ?_)
 by_cases d12 : j.f6 > 1099511627776
 ·first | (rw [decide_eq_true d12]; exact j0t (decide_eq_false (fun h => by omega))) | (refine Com.iff (fun d => j0t (decide_eq_false (fun h => by omega))) (fun d => absurd d12 d))
 ·first | (rw [decide_eq_false d12]; exact j0f (decide_eq_true (by omega))) | (refine Com.iff (fun d => absurd d d12) (fun d => j0f (decide_eq_true (by omega))))
/-! ### all jobs -/
def drawsIn (n : Nat) (ds : List S60) : Bool := ds.all (fun d => decide (d.f0 < (n : Int)))
def jobsFrom (nf na : Nat) (next : Int) : List Int → List S50 → Bool
 | _, [] => true
 | seen, j :: js => (jobOk j && decide (j.f1 < (nf : Int) ∧ j.f0 < next)) && (!isIn j.f0 seen && (drawsIn na j.f11 && jobsFrom nf na next (seen ++ [j.f0]) js))
def jobsB (nf na : Nat) (next : Int) (js : List S50) : Bool := decide (js.length ≤ 16) && jobsFrom nf na next [] js
def ids (js : List S50) : List Int := js.map (fun j => j.f0)
theorem ids_take (js : List S50) (i : Nat) (h : i < js.length) : ids (js.take (i + 1)) = ids (js.take i) ++ [js[i].f0] := by
 unfold ids; rw [List.take_succ_eq_append_getElem h, List.map_append]; rfl
theorem idx_ge {α : Type} (p : α → Bool) : ∀ (l : List α) (k : Nat), XIdx.idxF p l k = -1 ∨ (k : Int) ≤ XIdx.idxF p l k
 | [], k => .inl rfl
 | x :: xs, k => by
  rw [XIdx.idxF]
  split
  ·exact .inr (Int.le_refl _)
  ·rcases idx_ge p xs (k + 1) with h | h
   ·exact .inl h
   ·exact .inr (by omega)
theorem idx_first {α : Type} (p : α → Bool) : ∀ (l : List α) (i k : Nat) (h : i < l.length), p l[i] = true → (XIdx.idxF p l k != ((k + i : Nat) : Int)) = (l.take i).any p
 | x :: xs, 0, k, h, hp => by
  have hp : p x = true := hp
  rw [XIdx.idxF, if_pos hp]
  simp
 | x :: xs, i + 1, k, h, hp => by
  rw [XIdx.idxF, List.take_succ_cons, List.any_cons]
  cases hx : p x with
  | true => rw [if_pos rfl, Bool.true_or]; simp; omega
  | false =>
   rw [if_neg (by decide), Bool.false_or, ← idx_first p xs i (k + 1) (by simpa using h) hp]
   congr 2
   omega
theorem ids_any (a : Int) (l : List S50) : l.any (fun x => x.f0 == a) = isIn a (ids l) := by
 unfold isIn ids
 rw [List.any_map]; rfl
end Go.Proofs.Ytijeigiilgapdaa.XSnd
end
section
namespace Go.Proofs.Ytijeigiilgapdaa.XSnd
open Go.RowKit Go.Proofs.YtijeigiilgapdaaW.PrintWords Go.Proofs.YtijeigiilgapdaaW.PrintLast Go.Proofs.YtijeigiilgapdaaW.PrintMore Go.Proofs.Ytijeigiilgapdaa.QSoundTells XCom XPoolBits
set_option linter.unusedVariables false
set_option linter.unusedSimpArgs false
/-- What the arguments' sizes come to. -/
def Sizes (js : List S50) : Prop := js.length ≤ 40 ∧ ∀ j ∈ js, j.f11.length ≤ 8796093022208
theorem jobs_ev (a0 w next : Int) (fs : List S34) (al : List S36) (rs : List S68) (js : List S50) (ks : List ByteArray) (hs : Sizes js) : Com (fun k => sound_jobs.f k a0 w next fs al rs js ks) (jobsB fs.length al.length next js) := by
 have key := Com.loop js.length (fun k (_ : Unit) i => sound_jobs.l0 k js (js.length : Int) i a0 w next fs al rs js ks) (fun _ i => jobsFrom fs.length al.length next (ids (js.take i)) (js.drop i)) (fun _ _ => True) (fun s _ => by
  refine Com.succ ?_
  simp only [sound_jobs.l0, Int.lt_irrefl, if_false, List.drop_length, jobsFrom]
  exact Com.const _) (fun s i hi _ ih => by
  have hl := hs.2 _ (List.getElem_mem hi)
  have hn := hs.1
  have c1 : (i : Int) < (js.length : Int) := by omega
  have c0 : (0 : Int) ≤ (i : Int) := by omega
  have inner : Com (fun k => sound_jobs.l1 k js (js.length : Int) (i : Nat) js[i].f11 (js[i].f11.length : Int) 0 a0 w next fs al rs js ks) (drawsIn al.length js[i].f11 && jobsFrom fs.length al.length next (ids (js.take (i + 1))) (js.drop (i + 1))) := by
   have k2 := Com.loop js[i].f11.length (fun k (_ : Unit) m => sound_jobs.l1 k js (js.length : Int) (i : Nat) js[i].f11 (js[i].f11.length : Int) m a0 w next fs al rs js ks) (fun _ m => drawsIn al.length (js[i].f11.drop m) && jobsFrom fs.length al.length next (ids (js.take (i + 1))) (js.drop (i + 1))) (fun _ _ => True) (fun s _ => by
    refine Com.succ ?_
    simp only [sound_jobs.l1, Int.lt_irrefl, if_false, List.drop_length, drawsIn, List.all_nil, Bool.true_and, w64 i js.length hi (by omega)]
    exact ih () trivial) (fun s m hm _ ih2 => by
    refine Com.succ ?_
    have d1 : (m : Int) < (js[i].f11.length : Int) := by omega
    have d0 : (0 : Int) ≤ (m : Int) := by omega
    simp only [sound_jobs.l1, d1, d0, if_true, rd_draw_at _ m hm, drop_at _ m hm, drawsIn, List.all_cons, Bool.and_assoc, w64 m _ hm (by omega)]
    refine Com.iff (fun c => Com.no (decide_eq_false (by omega))) (fun c => Com.yes (decide_eq_true (by omega)) ?_)
    exact ih2 () trivial)
   exact k2 0 (Nat.zero_le _) () trivial
  have j1t : ∀ v : Bool, v = false → Com (fun k => sound_jobs.j1 k js (js.length : Int) (i : Nat) true a0 w next fs al rs js ks js[i].f0 js[i].f1 js[i].f2 js[i].f3 js[i].f4 js[i].f5 js[i].f6 js[i].f7 js[i].f8 js[i].f9 js[i].f10 js[i].f11) v := fun v h => by
   subst h
   refine Com.succ ?_
   simp only [sound_jobs.j1, if_true]
   exact Com.const _
  refine Com.succ ?_
  simp only [sound_jobs.l0, c1, c0, if_true, rd_job_at js i hi, drop_at js i hi, jobsFrom, ← ids_take js i hi]
  refine Com.bind (job_ev js[i] (by omega)) ?_
  refine Com.iff (fun h1 => ?_) (fun h1 => j1t _ (by simp only [Bool.not_eq_true] at h1; rw [h1]; rfl))
  rw [h1, Bool.true_and]
  refine Com.iff (fun h2 => j1t _ (by rw [decide_eq_false (fun h => by omega)]; rfl)) (fun h2 => ?_)
  refine Com.iff (fun h3 => j1t _ (by rw [decide_eq_false (fun h => by omega)]; rfl)) (fun h3 => ?_)
  rw [decide_eq_true (by omega), Bool.true_and]
  have hf := idx_first (fun x : S50 => x.f0 == js[i].f0) js i 0 hi (by simp)
  rw [ids_any, Nat.zero_add] at hf
  simp only [job_Find.f, Option.bind_some, hf]
  cases hd : isIn js[i].f0 (ids (js.take i)) with
  | true => exact j1t _ rfl
  | false =>
   refine Com.succ ?_
   simp only [sound_jobs.j1, Bool.false_eq_true, if_false, Bool.not_false, Bool.true_and]
   exact inner)
 have k0 := key 0 (Nat.zero_le _) () trivial
 rw [List.drop_zero, List.take_zero] at k0
 unfold sound_jobs.f jobsB
 exact Com.iff (fun c => Com.no (decide_eq_false (by omega))) (fun c => Com.yes (decide_eq_true (by omega)) k0)
theorem rjobs_ev (a0 w next : Int) (fs : List S34) (al : List S36) (rs : List S68) (js : List S50) (ks : List ByteArray) (hs : Sizes js) : Com (fun k => prebendref25_jobs.f k a0 w next fs al rs js ks) (jobsB fs.length al.length next js) := by
 have key := Com.loop js.length (fun k (_ : Unit) i => prebendref25_jobs.l0 k i a0 w next fs al rs js ks) (fun _ i => jobsFrom fs.length al.length next (ids (js.take i)) (js.drop i) && decide (js.length ≤ 16)) (fun _ _ => True) (fun s _ => by
  refine Com.succ ?_
  simp only [prebendref25_jobs.l0, Int.lt_irrefl, if_false, List.drop_length, jobsFrom, Bool.true_and]
  rw [show decide (((js.length : Nat) : Int) ≤ 16) = decide (js.length ≤ 16) from len_dec _ 16 (.inr rfl)]
  exact Com.const _) (fun s i hi _ ih => by
  have hl := hs.2 _ (List.getElem_mem hi)
  have hn := hs.1
  have c1 : (i : Int) < (js.length : Int) := by omega
  have c0 : (0 : Int) ≤ (i : Int) := by omega
  have inner2 : Com (fun k => prebendref25_jobs.l2 k (i : Nat) 0 a0 w next fs al rs js ks js[i].f0 js[i].f1 js[i].f2 js[i].f3 js[i].f4 js[i].f5 js[i].f6 js[i].f7 js[i].f8 js[i].f9 js[i].f10 js[i].f11) (drawsIn al.length js[i].f11 && (jobsFrom fs.length al.length next (ids (js.take (i + 1))) (js.drop (i + 1)) && decide (js.length ≤ 16))) := by
   have k2 := Com.loop js[i].f11.length (fun k (_ : Unit) m => prebendref25_jobs.l2 k (i : Nat) m a0 w next fs al rs js ks js[i].f0 js[i].f1 js[i].f2 js[i].f3 js[i].f4 js[i].f5 js[i].f6 js[i].f7 js[i].f8 js[i].f9 js[i].f10 js[i].f11) (fun _ m => drawsIn al.length (js[i].f11.drop m) && (jobsFrom fs.length al.length next (ids (js.take (i + 1))) (js.drop (i + 1)) && decide (js.length ≤ 16))) (fun _ _ => True) (fun s _ => by
    refine Com.succ ?_
    simp only [prebendref25_jobs.l2, Int.lt_irrefl, if_false, List.drop_length, drawsIn, List.all_nil, Bool.true_and, w64 i js.length hi (by omega)]
    exact ih () trivial) (fun s m hm _ ih2 => by
    refine Com.succ ?_
    have d1 : (m : Int) < (js[i].f11.length : Int) := by omega
    have d0 : (0 : Int) ≤ (m : Int) := by omega
    simp only [prebendref25_jobs.l2, d1, d0, if_true, rd_draw_at _ m hm, drop_at _ m hm, drawsIn, List.all_cons, Bool.and_assoc, w64 m _ hm (by omega)]
    refine Com.iff (fun c => Com.no (decide_eq_false (by omega))) (fun c => Com.yes (decide_eq_true (by omega)) ?_)
    exact ih2 () trivial)
   exact k2 0 (Nat.zero_le _) () trivial
  have inner : Com (fun k => prebendref25_jobs.l1 k (i : Nat) 0 a0 w next fs al rs js ks js[i].f0 js[i].f1 js[i].f2 js[i].f3 js[i].f4 js[i].f5 js[i].f6 js[i].f7 js[i].f8 js[i].f9 js[i].f10 js[i].f11) (!isIn js[i].f0 (ids (js.take i)) && (drawsIn al.length js[i].f11 && (jobsFrom fs.length al.length next (ids (js.take (i + 1))) (js.drop (i + 1)) && decide (js.length ≤ 16)))) := by
   have k2 := Com.loop i (fun k (_ : Unit) m => prebendref25_jobs.l1 k (i : Nat) m a0 w next fs al rs js ks js[i].f0 js[i].f1 js[i].f2 js[i].f3 js[i].f4 js[i].f5 js[i].f6 js[i].f7 js[i].f8 js[i].f9 js[i].f10 js[i].f11) (fun _ m => !isIn js[i].f0 (ids ((js.take i).drop m)) && (drawsIn al.length js[i].f11 && (jobsFrom fs.length al.length next (ids (js.take (i + 1))) (js.drop (i + 1)) && decide (js.length ≤ 16)))) (fun _ _ => True) (fun s _ => by
    refine Com.succ ?_
    have e : (js.take i).drop i = [] := List.drop_eq_nil_of_le (by rw [List.length_take]; omega)
    simp only [prebendref25_jobs.l1, Int.lt_irrefl, if_false, e, ids, List.map_nil, isIn, List.any_nil, Bool.not_false, Bool.true_and]
    exact inner2) (fun s m hm _ ih2 => by
    refine Com.succ ?_
    have d1 : (m : Int) < (i : Int) := by omega
    have d2 : (m : Int) < (js.length : Int) := by omega
    have d0 : (0 : Int) ≤ (m : Int) := by omega
    have hjl : m < (js.take i).length := by rw [List.length_take]; omega
    have e : (js.take i).drop m = js[m] :: (js.take i).drop (m + 1) := by rw [drop_at _ m hjl, List.getElem_take]
    simp only [prebendref25_jobs.l1, d1, d2, d0, if_true, rd_job_at js m (by omega), e, ids, List.map_cons, isIn, List.any_cons, Bool.not_or, Bool.and_assoc, w64 m i hm (by omega)]
    refine Com.iff (fun c => Com.no (by simp [c])) (fun c => Com.yes (by simpa using c) ?_)
    exact ih2 () trivial)
   exact k2 0 (Nat.zero_le _) () trivial
  have j1t : ∀ v : Bool, v = false → Com (fun k => prebendref25_jobs.j1 k (i : Nat) true a0 w next fs al rs js ks js[i].f0 js[i].f1 js[i].f2 js[i].f3 js[i].f4 js[i].f5 js[i].f6 js[i].f7 js[i].f8 js[i].f9 js[i].f10 js[i].f11) v := fun v h => by
   subst h
   refine Com.succ ?_
   simp only [prebendref25_jobs.j1, if_true]
   exact Com.const _
  refine Com.succ ?_
  simp only [prebendref25_jobs.l0, c1, c0, if_true, rd_job_at js i hi, drop_at js i hi, jobsFrom, ← ids_take js i hi, Bool.and_assoc]
  refine Com.bind (rjob_ev js[i] (by omega)) ?_
  refine Com.iff (fun h1 => ?_) (fun h1 => j1t _ (by simp only [Bool.not_eq_true] at h1; rw [h1]; rfl))
  rw [h1, Bool.true_and]
  refine Com.iff (fun h2 => j1t _ (by rw [decide_eq_false (fun h => by omega)]; rfl)) (fun h2 => ?_)
  by_cases h3 : js[i].f0 ≥ next
  ·rw [decide_eq_true h3]
   exact j1t _ (by rw [decide_eq_false (fun h => by omega)]; rfl)
  ·rw [decide_eq_false h3, decide_eq_true (show js[i].f1 < (fs.length : Int) ∧ js[i].f0 < next by omega), Bool.true_and]
   refine Com.succ ?_
   simp only [prebendref25_jobs.j1, Bool.false_eq_true, if_false]
   exact inner)
 have k0 := key 0 (Nat.zero_le _) () trivial
 rw [List.drop_zero, List.take_zero, Bool.and_comm] at k0
 exact k0
/-! ### what jobs in a state have of an allocation -/
def amts (st a : Int) (js : List S50) : List Int := js.flatMap (fun j => if j.f7 = st then (j.f11.filter (fun d => d.f0 == a)).map (fun d => d.f1) else [])
def amtsD (st a : Int) (j : S50) (ds : List S60) : List Int := if j.f7 = st then (ds.filter (fun d => d.f0 == a)).map (fun d => d.f1) else []
theorem amtsD_cons (st a : Int) (j : S50) (d : S60) (ds : List S60) : amtsD st a j (d :: ds) = (if j.f7 = st ∧ d.f0 = a then [d.f1] else []) ++ amtsD st a j ds := by
 unfold amtsD
 by_cases h : j.f7 = st
 ·rw [if_pos h, if_pos h]
  by_cases h2 : d.f0 = a
  ·rw [if_pos ⟨h, h2⟩, List.filter_cons, if_pos (by simp [h2])]; rfl
  ·rw [if_neg (fun h3 => h2 h3.2), List.filter_cons, if_neg (by simp [h2])]; rfl
 ·rw [if_neg h, if_neg h, if_neg (fun h3 => h h3.1)]; rfl
theorem amtsD_le (st a : Int) (j : S50) (ds : List S60) : (amtsD st a j ds).length ≤ ds.length := by
 unfold amtsD
 split
 ·rw [List.length_map]; exact List.length_filter_le _ _
 ·exact Nat.zero_le _
theorem amts_cons (st a : Int) (j : S50) (js : List S50) : amts st a (j :: js) = amtsD st a j j.f11 ++ amts st a js := rfl
/-- Few draws a job: jobs are right. -/
def Few (js : List S50) : Prop := js.length ≤ 40 ∧ ∀ j ∈ js, j.f11.length ≤ 16
theorem drawn_ev (a0 w next : Int) (fs : List S34) (al : List S36) (rs : List S68) (js : List S50) (ks : List ByteArray) (st a : Int) (hs : Few js) : Com (fun k => sound_drawn.f k a0 w next fs al rs js ks st a) (addR 0 (amts st a js)) := by
 have hn := hs.1
 have key := Com.loop js.length (fun k (s : List Int) i => sound_drawn.l0 k st a s js (js.length : Int) i) (fun s i => addR 0 (s ++ amts st a (js.drop i))) (fun s i => s.length ≤ 16 * i) (fun s hs0 => by
  refine Com.succ ?_
  simp only [sound_drawn.l0, Int.lt_irrefl, if_false, List.drop_length, amts, List.flatMap_nil, List.append_nil]
  exact Com.bind (add_ev s (by omega)) (Com.const _)) (fun s i hi hs0 ih => by
  have hl := hs.2 _ (List.getElem_mem hi)
  have c1 : (i : Int) < (js.length : Int) := by omega
  have c0 : (0 : Int) ≤ (i : Int) := by omega
  have inner := Com.loop js[i].f11.length (fun k (t : List Int) m => sound_drawn.l1 k st a t js (js.length : Int) (i : Nat) js[i].f11 (js[i].f11.length : Int) m js[i].f0 js[i].f1 js[i].f2 js[i].f3 js[i].f4 js[i].f5 js[i].f6 js[i].f7 js[i].f8 js[i].f9 js[i].f10 js[i].f11) (fun t m => addR 0 (t ++ (amtsD st a js[i] (js[i].f11.drop m) ++ amts st a (js.drop (i + 1))))) (fun t m => t.length ≤ 16 * i + m) (fun t ht => by
   refine Com.succ ?_
   have e : amtsD st a js[i] [] = [] := by unfold amtsD; simp
   simp only [sound_drawn.l1, Int.lt_irrefl, if_false, List.drop_length, e, List.nil_append, w64 i js.length hi (by omega)]
   exact ih t (by omega)) (fun t m hm ht ih2 => by
   refine Com.succ ?_
   have d1 : (m : Int) < (js[i].f11.length : Int) := by omega
   have d0 : (0 : Int) ≤ (m : Int) := by omega
   have d2 : t.length < 17592186044416 := by omega
   simp only [sound_drawn.l1, d1, d0, d2, if_true, rd_draw_at _ m hm, drop_at _ m hm, amtsD_cons, w64 m _ hm (by omega)]
   refine Com.iff (fun h1 => ?_) (fun h1 => ?_)
   ·refine Com.iff (fun h2 => ?_) (fun h2 => ?_)
    ·rw [if_pos ⟨h1, h2⟩]
     have := ih2 (t ++ [js[i].f11[m].f1]) (by simp only [List.length_append, List.length_singleton]; omega)
     rw [List.append_assoc] at this ⊢
     exact this
    ·rw [if_neg (fun h => h2 h.2), List.nil_append]
     exact ih2 t (by omega)
   ·rw [if_neg (fun h => h1 h.1), List.nil_append]
    exact ih2 t (by omega))
  refine Com.succ ?_
  simp only [sound_drawn.l0, c1, c0, if_true, rd_job_at js i hi, drop_at js i hi, amts_cons]
  have := inner 0 (Nat.zero_le _) s (by omega)
  rw [List.drop_zero] at this
  exact this)
 have := key 0 (Nat.zero_le _) [] (by simp)
 rw [List.drop_zero, List.nil_append] at this
 exact this
end Go.Proofs.Ytijeigiilgapdaa.XSnd
end
section
namespace Go.Proofs.Ytijeigiilgapdaa.XSnd
open Go.RowKit Go.Proofs.YtijeigiilgapdaaW.PrintWords Go.Proofs.YtijeigiilgapdaaW.PrintLast Go.Proofs.YtijeigiilgapdaaW.PrintMore Go.Proofs.Ytijeigiilgapdaa.QSoundTells XCom XPoolBits
set_option linter.unusedVariables false
set_option linter.unusedSimpArgs false
/-! ### liened, spent -/
def lienFrom (js : List S50) : Nat → List S36 → Bool
 | _, [] => true
 | i, a :: al => decide (addR 0 (amts 3 (i : Int) js) = (a.f4, 0)) && lienFrom js (i + 1) al
def spentFrom (js : List S50) : Nat → List S36 → Bool
 | _, [] => true
 | i, a :: al => decide ((addR 0 (amts 4 (i : Int) js)).2 = 0 ∧ (addR 0 (amts 4 (i : Int) js)).1 ≤ a.f5) && spentFrom js (i + 1) al
theorem liened_ev (a0 w next : Int) (fs : List S34) (al : List S36) (rs : List S68) (js : List S50) (ks : List ByteArray) (hs : Few js) (hl : al.length ≤ 40) : Com (fun k => sound_liened.f k a0 w next fs al rs js ks) (lienFrom js 0 al) := by
 have key := Com.loop al.length (fun k (_ : Unit) i => sound_liened.l0 k al (al.length : Int) i a0 w next fs al rs js ks) (fun _ i => lienFrom js i (al.drop i)) (fun _ _ => True) (fun s _ => by
  refine Com.succ ?_
  simp only [sound_liened.l0, Int.lt_irrefl, if_false, List.drop_length, lienFrom]
  exact Com.const _) (fun s i hi _ ih => by
  refine Com.succ ?_
  have c1 : (i : Int) < (al.length : Int) := by omega
  have c0 : (0 : Int) ≤ (i : Int) := by omega
  simp only [sound_liened.l0, c1, c0, if_true, rd_alloc_at al i hi, drop_at al i hi, lienFrom, w64 i al.length hi (by omega)]
  refine Com.bind (drawn_ev a0 w next fs al rs js ks 3 (i : Nat) hs) ?_
  refine Com.iff (fun h1 => ?_) (fun h1 => Com.no (decide_eq_false (fun h => h1 (by rw [h]))))
  refine Com.iff (fun h2 => ?_) (fun h2 => Com.no (decide_eq_false (fun h => h2 (by rw [h]))))
  exact Com.yes (decide_eq_true (Prod.ext h2 h1)) (ih () trivial))
 have := key 0 (Nat.zero_le _) () trivial
 rw [List.drop_zero] at this
 exact this
theorem spent_ev (a0 w next : Int) (fs : List S34) (al : List S36) (rs : List S68) (js : List S50) (ks : List ByteArray) (hs : Few js) (hl : al.length ≤ 40) : Com (fun k => sound_spent.f k a0 w next fs al rs js ks) (spentFrom js 0 al) := by
 have key := Com.loop al.length (fun k (_ : Unit) i => sound_spent.l0 k al (al.length : Int) i a0 w next fs al rs js ks) (fun _ i => spentFrom js i (al.drop i)) (fun _ _ => True) (fun s _ => by
  refine Com.succ ?_
  simp only [sound_spent.l0, Int.lt_irrefl, if_false, List.drop_length, spentFrom]
  exact Com.const _) (fun s i hi _ ih => by
  refine Com.succ ?_
  have c1 : (i : Int) < (al.length : Int) := by omega
  have c0 : (0 : Int) ≤ (i : Int) := by omega
  simp only [sound_spent.l0, c1, c0, if_true, rd_alloc_at al i hi, drop_at al i hi, spentFrom, w64 i al.length hi (by omega)]
  refine Com.bind (drawn_ev a0 w next fs al rs js ks 4 (i : Nat) hs) ?_
  refine Com.iff (fun h1 => ?_) (fun h1 => Com.no (decide_eq_false (fun h => h1 h.1)))
  refine Com.iff (fun h2 => Com.no (decide_eq_false (fun h => by omega))) (fun h2 => ?_)
  exact Com.yes (decide_eq_true ⟨h1, by omega⟩) (ih () trivial))
 have := key 0 (Nat.zero_le _) () trivial
 rw [List.drop_zero] at this
 exact this
/-! ### the reference's sum -/
theorem rsum_ev (a0 w next : Int) (fs : List S34) (al : List S36) (rs : List S68) (js : List S50) (ks : List ByteArray) (st a : Int) (hs : Few js) : Com (fun k => prebendref25_sum.f k a0 w next fs al rs js ks st a) ((addR 0 (amts st a js)).1, (addR 0 (amts st a js)).2 == 0) := by
 have hn := hs.1
 have key := Com.loop js.length (fun k (s : List Int) i => prebendref25_sum.l0 k st a s i a0 w next fs al rs js ks) (fun s i => ((addR 0 (s ++ amts st a (js.drop i))).1, (addR 0 (s ++ amts st a (js.drop i))).2 == 0)) (fun s i => s.length ≤ 16 * i) (fun s hs0 => by
  refine Com.succ ?_
  simp only [prebendref25_sum.l0, Int.lt_irrefl, if_false, List.drop_length, amts, List.flatMap_nil, List.append_nil]
  exact Com.bind (radd_ev s (by omega)) (Com.const _)) (fun s i hi hs0 ih => by
  have hl := hs.2 _ (List.getElem_mem hi)
  have c1 : (i : Int) < (js.length : Int) := by omega
  have c0 : (0 : Int) ≤ (i : Int) := by omega
  have out : ∀ t : List Int, t.length ≤ 16 * (i + 1) → Com (fun k => prebendref25_sum.l0 k st a t (wrap64 ((i : Int) + 1)) a0 w next fs al rs js ks) ((addR 0 (t ++ amts st a (js.drop (i + 1)))).1, (addR 0 (t ++ amts st a (js.drop (i + 1)))).2 == 0) := fun t ht => by
   rw [w64 i js.length hi (by omega)]
   exact ih t ht
  have inner := Com.loop js[i].f11.length (fun k (t : List Int) m => prebendref25_sum.l1 k st a t (i : Nat) m a0 w next fs al rs js ks) (fun t m => ((addR 0 (t ++ (amtsD st a js[i] (js[i].f11.drop m) ++ amts st a (js.drop (i + 1))))).1, (addR 0 (t ++ (amtsD st a js[i] (js[i].f11.drop m) ++ amts st a (js.drop (i + 1))))).2 == 0)) (fun t m => t.length ≤ 16 * i + m) (fun t ht => by
   refine Com.succ ?_
   have e : amtsD st a js[i] [] = [] := by unfold amtsD; simp
   simp only [prebendref25_sum.l1, c0, c1, if_true, rd_job_at js i hi, Int.lt_irrefl, if_false, List.drop_length, e, List.nil_append]
   refine Com.succ ?_
   simp only [prebendref25_sum.j2, Bool.false_eq_true, if_false]
   exact out t (by omega)) (fun t m hm ht ih2 => by
   refine Com.succ ?_
   have d1 : (m : Int) < (js[i].f11.length : Int) := by omega
   have d0 : (0 : Int) ≤ (m : Int) := by omega
   have d2 : t.length < 17592186044416 := by omega
   simp only [prebendref25_sum.l1, c0, c1, d1, if_true, rd_job_at js i hi]
   refine Com.succ ?_
   simp only [prebendref25_sum.j2, c0, c1, d0, d1, d2, if_true, rd_job_at js i hi, rd_draw_at _ m hm, beq_iff_eq]
   refine Com.iff (fun h1 => ?_) (fun h1 => ?_)
   ·simp only [drop_at _ m hm, amtsD_cons, w64 m _ hm (show js[i].f11.length ≤ 4611686018427387904 by omega)]
    refine Com.iff (fun h2 => ?_) (fun h2 => ?_)
    ·rw [if_pos ⟨h1, h2⟩]
     have := ih2 (t ++ [js[i].f11[m].f1]) (by simp only [List.length_append, List.length_singleton]; omega)
     rw [List.append_assoc] at this ⊢
     exact this
    ·rw [if_neg (fun h => h2 h.2), List.nil_append]
     exact ih2 t (by omega)
   ·have e : amtsD st a js[i] (js[i].f11.drop m) = [] := by unfold amtsD; rw [if_neg h1]
    rw [e, List.nil_append]
    exact out t (by omega))
  refine Com.succ ?_
  simp only [prebendref25_sum.l0, c1, if_true, drop_at js i hi, amts_cons]
  have := inner 0 (Nat.zero_le _) s (by omega)
  rw [List.drop_zero] at this
  exact this)
 have := key 0 (Nat.zero_le _) [] (by simp)
 rw [List.drop_zero, List.nil_append] at this
 exact this
end Go.Proofs.Ytijeigiilgapdaa.XSnd
end
section
namespace Go.Proofs.Ytijeigiilgapdaa.XSnd
open Go.RowKit Go.Proofs.YtijeigiilgapdaaW.PrintWords Go.Proofs.YtijeigiilgapdaaW.PrintLast Go.Proofs.YtijeigiilgapdaaW.PrintMore Go.Proofs.Ytijeigiilgapdaa.QSoundTells XCom XPoolBits
set_option linter.unusedVariables false
set_option linter.unusedSimpArgs false
theorem wu64 (x : Int) (h0 : 0 ≤ x) (h1 : x < 18446744073709551616) : IntKind.u64.wrap x = x := by simp [IntKind.wrap, IntKind.bits, IntKind.signed]; omega
theorem andM (a : Nat) (ha : a < 18446744073709551616) : Go.bits .and .u64 (a : Int) 4294967295 = ((a % 4294967296 : Nat) : Int) := by
 have h := (bits_nat .u64 64 (by decide) (fun n h0 h1 => wu64 n h0 h1) a 4294967295 ha (by decide)).1
 have e : a &&& 4294967295 = a % 4294967296 := Nat.and_two_pow_sub_one_eq_mod a 32
 rw [e] at h
 exact h
theorem mul64_f (x y : Nat) (hx : x ≤ 1152921504606846976) (hy : y ≤ 1152921504606846976) : bits_Mul64.f (x : Int) (y : Int) = some (((x * y / 18446744073709551616 : Nat) : Int), ((x * y % 18446744073709551616 : Nat) : Int)) := by
 unfold bits_Mul64.f
 rw [andM x (by omega), andM y (by omega)]
 obtain ⟨x1, hx1⟩ : ∃ z, x / 4294967296 = z := ⟨_, rfl⟩
 obtain ⟨x0, hx0⟩ : ∃ z, x % 4294967296 = z := ⟨_, rfl⟩
 obtain ⟨y1, hy1⟩ : ∃ z, y / 4294967296 = z := ⟨_, rfl⟩
 obtain ⟨y0, hy0⟩ : ∃ z, y % 4294967296 = z := ⟨_, rfl⟩
 have e1 : (x : Int) / 4294967296 = ((x1 : Nat) : Int) := by omega
 have e2 : (y : Int) / 4294967296 = ((y1 : Nat) : Int) := by omega
 rw [e1, e2, hx0, hy0]
 have bx1 : x1 ≤ 268435456 := by omega
 have by1 : y1 ≤ 268435456 := by omega
 have bx0 : x0 ≤ 4294967295 := by omega
 have by0 : y0 ≤ 4294967295 := by omega
 have hxx : x = x1 * 4294967296 + x0 := by omega
 have hyy : y = y1 * 4294967296 + y0 := by omega
 have hxy : x * y = x1 * y1 * 18446744073709551616 + (x1 * y0 + x0 * y1) * 4294967296 + x0 * y0 := by
  rw [hxx, hyy, Nat.add_mul, Nat.mul_add, Nat.mul_add]
  have a1 : x1 * 4294967296 * (y1 * 4294967296) = x1 * y1 * 18446744073709551616 := by rw [Nat.mul_mul_mul_comm]
  have a2 : x1 * 4294967296 * y0 = x1 * y0 * 4294967296 := by rw [Nat.mul_right_comm]
  have a3 : x0 * (y1 * 4294967296) = x0 * y1 * 4294967296 := by rw [Nat.mul_assoc]
  rw [a1, a2, a3]; omega
 have b11 := Nat.mul_le_mul bx1 by1
 have b10 := Nat.mul_le_mul bx1 by0
 have b01 := Nat.mul_le_mul bx0 by1
 have b00 := Nat.mul_le_mul bx0 by0
 rw [← Int.natCast_mul, ← Int.natCast_mul, ← Int.natCast_mul, ← Int.natCast_mul, ← Int.natCast_mul, hxy]
 generalize x1 * y1 = p at *
 generalize x1 * y0 = q at *
 generalize x0 * y1 = r at *
 generalize x0 * y0 = s at *
 clear hxy hxx hyy e1 e2 hx1 hx0 hy1 hy0 hx hy
 rw [wu64 ((p : Nat) : Int) (by omega) (by omega), wu64 ((q : Nat) : Int) (by omega) (by omega), wu64 ((r : Nat) : Int) (by omega) (by omega), wu64 ((s : Nat) : Int) (by omega) (by omega)]
 have w1 : IntKind.u64.wrap (((q : Nat) : Int) + ((s : Nat) : Int) / 4294967296) = ((q + s / 4294967296 : Nat) : Int) := by rw [wu64 _ (by omega) (by omega)]; omega
 rw [w1, andM _ (by omega)]
 have w2 : IntKind.u64.wrap (((p : Nat) : Int) + ((q + s / 4294967296 : Nat) : Int) / 4294967296) = ((p + (q + s / 4294967296) / 4294967296 : Nat) : Int) := by rw [wu64 _ (by omega) (by omega)]; omega
 have w3 : IntKind.u64.wrap ((((q + s / 4294967296) % 4294967296 : Nat) : Int) + ((r : Nat) : Int)) = (((q + s / 4294967296) % 4294967296 + r : Nat) : Int) := by rw [wu64 _ (by omega) (by omega)]; omega
 rw [w2, w3]
 congr 1
 refine Prod.ext ?_ ?_
 ·show IntKind.u64.wrap _ = _
  rw [wu64 _ (by omega) (by omega)]
  omega
 ·show IntKind.u64.wrap _ = _
  simp only [IntKind.wrap, IntKind.bits, IntKind.signed]
  simp
theorem size_f (a : Int) (h0 : -1152921504606846976 ≤ a) (h1 : a ≤ 1152921504606846976) : money_size.f a = some ((a.natAbs : Nat) : Int) := by
 unfold money_size.f
 split
 ·congr 1
  simp only [IntKind.wrap, IntKind.bits, IntKind.signed]
  simp; omega
 ·congr 1
  rw [wu64 a (by omega) (by omega)]; omega
theorem times_ev (a n : Int) (h0 : -1152921504606846976 ≤ a) (h1 : a ≤ 1152921504606846976) (h2 : -1152921504606846976 ≤ n) (h3 : n ≤ 1152921504606846976) : Com (fun k => money_times.f k a n) (if a.natAbs * n.natAbs ≤ 1152921504606846976 then (a * n, true) else (0, false)) := by
 have j0t : ¬ a.natAbs * n.natAbs ≤ 1152921504606846976 → ∀ z, Com (fun k => money_times.j0 k a n z true) (if a.natAbs * n.natAbs ≤ 1152921504606846976 then (a * n, true) else (0, false)) := fun h z => by
  rw [if_neg h]
  refine Com.succ ?_
  simp only [money_times.j0, if_true]
  exact Com.const _
 have hmul : ((a * n).natAbs : Nat) = a.natAbs * n.natAbs := Int.natAbs_mul a n
 unfold money_times.f
 simp only [size_f a h0 h1, size_f n h2 h3, Option.bind_some, mul64_f a.natAbs n.natAbs (by omega) (by omega)]
 obtain ⟨p, hp⟩ : ∃ p, a.natAbs * n.natAbs = p := ⟨_, rfl⟩
 rw [hp] at hmul j0t ⊢
 refine Com.iff (fun h => j0t (by omega) _) (fun h => ?_)
 by_cases hb : ((p % 18446744073709551616 : Nat) : Int) > 1152921504606846976
 ·rw [decide_eq_true hb]
  exact j0t (by omega) _
 ·rw [decide_eq_false hb, if_pos (show p ≤ 1152921504606846976 by omega)]
  have hpm : p % 18446744073709551616 = p := by omega
  rw [hpm]
  refine Com.succ ?_
  simp only [money_times.j0, Bool.false_eq_true, if_false]
  have hw : wrap64 ((p : Nat) : Int) = ((p : Nat) : Int) := w64r _ (by omega) (by omega)
  have hw2 : wrap64 (-((p : Nat) : Int)) = -((p : Nat) : Int) := w64r _ (by omega) (by omega)
  rw [hw, hw2]
  refine Com.iff (fun hx => ?_) (fun hx => ?_)
  ·have e : -((p : Nat) : Int) = a * n := by
    by_cases ha : a < 0
    ·have hn : ¬ n < 0 := fun hn => by rw [decide_eq_true ha, decide_eq_true hn] at hx; cases hx
     have := Int.mul_nonpos_of_nonpos_of_nonneg (show a ≤ 0 by omega) (show 0 ≤ n by omega)
     omega
    ·have hn : n < 0 := by
      by_cases hn : n < 0
      ·exact hn
      ·rw [decide_eq_false ha, decide_eq_false hn] at hx; cases hx
     have := Int.mul_nonpos_of_nonneg_of_nonpos (show 0 ≤ a by omega) (show n ≤ 0 by omega)
     omega
   rw [e]; exact Com.const _
  ·have e : ((p : Nat) : Int) = a * n := by
    by_cases ha : a < 0
    ·have hn : n < 0 := by
      by_cases hn : n < 0
      ·exact hn
      ·rw [decide_eq_true ha, decide_eq_false hn] at hx; exact absurd rfl hx
     have := Int.mul_nonneg_of_nonpos_of_nonpos (show a ≤ 0 by omega) (show n ≤ 0 by omega)
     omega
    ·have hn : ¬ n < 0 := fun hn => by rw [decide_eq_false ha, decide_eq_true hn] at hx; exact absurd rfl hx
     have := Int.mul_nonneg (show 0 ≤ a by omega) (show 0 ≤ n by omega)
     omega
   rw [e]; exact Com.const _
theorem mulR_cons (out n : Int) (ns : List Int) : XRefMul.mulR out (n :: ns) = if fitsB n = true ∧ ¬ (n ≠ 0 ∧ 1152921504606846976 / n.natAbs < out.natAbs) then XRefMul.mulR (out * n) ns else (0, 2) := rfl
theorem quot_iff (o n : Nat) : ¬ (n ≠ 0 ∧ 1152921504606846976 / n < o) ↔ o * n ≤ 1152921504606846976 := by
 by_cases h : n = 0
 ·subst h; simp
 ·have := Nat.le_div_iff_mul_le (x := o) (y := 1152921504606846976) (Nat.pos_of_ne_zero h)
  constructor
  ·intro h1; exact this.1 (by omega)
  ·intro h1 h2; have := this.2 h1; omega
theorem mul_ev (l : List Int) (hl : l.length ≤ 4611686018427387904) : Com (fun k => money_Mul.f k l) (XRefMul.mulR 1 l) := by
 have key := Com.loop l.length (fun k (s : Int) i => money_Mul.l0 k s l (l.length : Int) i) (fun s i => XRefMul.mulR s (l.drop i)) (fun s _ => fitsB s = true) (fun s _ => by
  refine Com.succ ?_
  simp only [money_Mul.l0, Int.lt_irrefl, if_false, List.drop_length]
  exact Com.const _) (fun s i hi hs ih => by
  refine Com.succ ?_
  have c1 : (i : Int) < (l.length : Int) := by omega
  have c0 : (0 : Int) ≤ (i : Int) := by omega
  simp only [money_Mul.l0, c1, c0, if_true, rd_at l i hi, fits_f, Option.bind_some, drop_at l i hi, mulR_cons, w64 i l.length hi hl]
  have hb := (fits_iff s).1 hs
  refine Com.iff (fun h1 => ?_) (fun h1 => by rw [if_neg (fun h => h1 h.1)]; exact Com.const _)
  have hb1 := (fits_iff _).1 h1
  refine Com.bind (times_ev s l[i] hb.1 hb.2 hb1.1 hb1.2) ?_
  have hq := quot_iff s.natAbs l[i].natAbs
  have hq2 : ¬ (l[i] ≠ 0 ∧ 1152921504606846976 / l[i].natAbs < s.natAbs) ↔ s.natAbs * l[i].natAbs ≤ 1152921504606846976 := by
   rw [← hq]
   constructor
   ·intro h2 h3; exact h2 ⟨fun e => h3.1 (by rw [e]; rfl), h3.2⟩
   ·intro h2 h3; exact h2 ⟨fun e => h3.1 (by omega), h3.2⟩
  by_cases h2 : s.natAbs * l[i].natAbs ≤ 1152921504606846976
  ·rw [if_pos h2, if_pos ⟨h1, hq2.2 h2⟩]
   refine Com.iff (fun _ => ?_) (fun h => absurd rfl h)
   have hm : (s * l[i]).natAbs ≤ 1152921504606846976 := by rw [Int.natAbs_mul]; exact h2
   exact ih _ ((fits_iff _).2 (by omega))
  ·rw [if_neg h2, if_neg (fun h => h2 (hq2.1 h.2))]
   refine Com.iff (fun h => absurd h (by decide)) (fun _ => Com.const _))
 have := key 0 (Nat.zero_le _) 1 (by decide)
 rw [List.drop_zero] at this
 exact this
def costR (a b c : Int) : Int × Int := if a < 0 ∨ b < 0 ∨ c < 0 then (0, 1) else XRefMul.mulR 1 [a, b, c]
theorem cost_ev (a b c : Int) : Com (fun k => money_Cost.f k a b c) (costR a b c) := by
 unfold money_Cost.f costR
 have h3 := mn3 a b c
 refine Com.iff (fun h => by rw [if_pos (h3.1 h)]; exact Com.const _) (fun h => ?_)
 rw [if_neg (fun h2 => h (h3.2 h2))]
 exact Com.bind (mul_ev [a, b, c] (by simp)) (Com.const _)
theorem rcost_f (a b c : Int) : prebendref01_Cost.f a b c = some (costR a b c) := by
 unfold prebendref01_Cost.f costR
 by_cases h1 : a < 0
 ·rw [if_pos h1, if_pos (.inl h1)]
 rw [if_neg h1]
 by_cases h2 : b < 0
 ·rw [if_pos h2, if_pos (.inr (.inl h2))]
 rw [if_neg h2]
 by_cases h3 : c < 0
 ·rw [if_pos h3, if_pos (.inr (.inr h3))]
 rw [if_neg h3, if_neg (by omega)]
 rfl
/-! ### totals -/
def sums (ds : List S60) : List Int := ds.map (fun d => d.f1)
theorem dtotal_ev (ds : List S60) (hl : ds.length ≤ 16) : Com (fun k => draw_Total.f k ds) (addR 0 (sums ds)) := by
 have key := Com.loop ds.length (fun k (s : List Int) i => draw_Total.l0 k s ds (ds.length : Int) i) (fun s i => addR 0 (s ++ sums (ds.drop i))) (fun s i => s.length = i) (fun s hs => by
  refine Com.succ ?_
  simp only [draw_Total.l0, Int.lt_irrefl, if_false, List.drop_length, sums, List.map_nil, List.append_nil]
  exact Com.bind (add_ev s (by omega)) (Com.const _)) (fun s i hi hs ih => by
  refine Com.succ ?_
  have c1 : (i : Int) < (ds.length : Int) := by omega
  have c0 : (0 : Int) ≤ (i : Int) := by omega
  have c2 : s.length < 17592186044416 := by omega
  simp only [draw_Total.l0, c1, c0, c2, if_true, rd_draw_at ds i hi, drop_at ds i hi, sums, List.map_cons, w64 i ds.length hi (by omega)]
  have := ih (s ++ [ds[i].f1]) (by simp only [List.length_append, List.length_singleton]; omega)
  rw [List.append_assoc] at this
  exact this)
 have := key 0 (Nat.zero_le _) [] rfl
 rw [List.drop_zero, List.nil_append] at this
 exact this
theorem rdtotal_ev (ds : List S60) (hl : ds.length ≤ 16) : Com (fun k => prebendref11_Total.f k ds) (addR 0 (sums ds)) := by
 have key := Com.loop ds.length (fun k (s : List Int) i => prebendref11_Total.l0 k ds s i) (fun s i => addR 0 (s ++ sums (ds.drop i))) (fun s i => s.length = i) (fun s hs => by
  refine Com.succ ?_
  simp only [prebendref11_Total.l0, Int.lt_irrefl, if_false, List.drop_length, sums, List.map_nil, List.append_nil]
  exact Com.bind (radd_ev s (by omega)) (Com.const _)) (fun s i hi hs ih => by
  refine Com.succ ?_
  have c1 : (i : Int) < (ds.length : Int) := by omega
  have c0 : (0 : Int) ≤ (i : Int) := by omega
  have c2 : s.length < 17592186044416 := by omega
  simp only [prebendref11_Total.l0, c1, c0, c2, if_true, rd_draw_at ds i hi, drop_at ds i hi, sums, List.map_cons, w64 i ds.length hi (by omega)]
  have := ih (s ++ [ds[i].f1]) (by simp only [List.length_append, List.length_singleton]; omega)
  rw [List.append_assoc] at this
  exact this)
 have := key 0 (Nat.zero_le _) [] rfl
 rw [List.drop_zero, List.nil_append] at this
 exact this
/-! ### covered -/
def covOk (j : S50) : Bool := decide (j.f7 ≠ 3 ∨ (costR j.f2 j.f3 j.f6).2 = 0 ∧ (addR 0 (sums j.f11)).2 = 0 ∧ (costR j.f2 j.f3 j.f6).1 = (addR 0 (sums j.f11)).1)
theorem covered_ev (a0 w next : Int) (fs : List S34) (al : List S36) (rs : List S68) (js : List S50) (ks : List ByteArray) (hs : Few js) : Com (fun k => sound_covered.f k a0 w next fs al rs js ks) (js.all covOk) := by
 have hn := hs.1
 have key := Com.loop js.length (fun k (_ : Unit) i => sound_covered.l0 k js (js.length : Int) i) (fun _ i => (js.drop i).all covOk) (fun _ _ => True) (fun s _ => by
  refine Com.succ ?_
  simp only [sound_covered.l0, Int.lt_irrefl, if_false, List.drop_length, List.all_nil]
  exact Com.const _) (fun s i hi _ ih => by
  have hl := hs.2 _ (List.getElem_mem hi)
  refine Com.succ ?_
  have c1 : (i : Int) < (js.length : Int) := by omega
  have c0 : (0 : Int) ≤ (i : Int) := by omega
  simp only [sound_covered.l0, c1, c0, if_true, rd_job_at js i hi, drop_at js i hi, List.all_cons, w64 i js.length hi (by omega)]
  refine Com.iff (fun h3 => ?_) (fun h3 => Com.yes (decide_eq_true (.inl h3)) (ih () trivial))
  refine Com.bind (cost_ev _ _ _) ?_
  refine Com.bind (dtotal_ev _ hl) ?_
  refine Com.iff (fun a1 => ?_) (fun a1 => Com.no (decide_eq_false (fun h => h.elim (fun h => h h3) (fun h => a1 h.1))))
  refine Com.iff (fun a2 => ?_) (fun a2 => Com.no (decide_eq_false (fun h => h.elim (fun h => h h3) (fun h => a2 h.2.1))))
  refine Com.iff (fun a3 => ?_) (fun a3 => Com.no (decide_eq_false (fun h => h.elim (fun h => h h3) (fun h => a3 h.2.2))))
  exact Com.yes (decide_eq_true (.inr ⟨a1, a2, a3⟩)) (ih () trivial))
 have := key 0 (Nat.zero_le _) () trivial
 rw [List.drop_zero] at this
 exact this
end Go.Proofs.Ytijeigiilgapdaa.XSnd
end
section
namespace Go.Proofs.Ytijeigiilgapdaa.XSnd
open Go.RowKit Go.Proofs.YtijeigiilgapdaaW.PrintWords Go.Proofs.YtijeigiilgapdaaW.PrintLast Go.Proofs.YtijeigiilgapdaaW.PrintMore Go.Proofs.Ytijeigiilgapdaa.QSoundTells XCom XPoolBits
set_option linter.unusedVariables false
set_option linter.unusedSimpArgs false
/-! ### nodes apart -/
/-- How many that run have a node. -/
def cnt (i : Nat) : List S50 → Nat
 | [] => 0
 | j :: js => (if j.f7 = 3 ∧ j.f9.toNat.testBit i = true then 1 else 0) + cnt i js
def nodeOk (nodes : Int) (js : List S50) (i : Nat) : Bool := decide (cnt i js ≤ if (i : Int) < nodes then 1 else 0)
def apartB (nodes : Int) (js : List S50) : Bool := (List.range 32).all (nodeOk nodes js)
def Masks (js : List S50) : Prop := ∀ j ∈ js, j.f7 = 3 → 0 ≤ j.f9 ∧ j.f9 ≤ 4294967295
def apartFrom : Nat → List S50 → Bool
 | _, [] => true
 | free, j :: js => if j.f7 = 3 then decide (j.f9.toNat - (j.f9.toNat &&& free) = 0) && apartFrom (free - (free &&& j.f9.toNat)) js else apartFrom free js
theorem sub_bit (a b i : Nat) (ha : a < 4294967296) (hb : b < 4294967296) : (a - (a &&& b)).testBit i = (a.testBit i && !b.testBit i) := by
 have h := (land_compl 32 a b ha hb).1
 rw [← h, Nat.testBit_and, show 2 ^ 32 - 1 - b = 2 ^ 32 - (b + 1) from by omega, Nat.testBit_two_pow_sub_succ (show b < 2 ^ 32 from hb)]
 by_cases hi : i < 32
 ·simp [hi]
 ·rw [Nat.testBit_lt_two_pow (x := a) (i := i) (Nat.lt_of_lt_of_le (show a < 2 ^ 32 from ha) (Nat.pow_le_pow_right (by decide) (by omega)))]; simp
theorem sub_zero (a b : Nat) (ha : a < 4294967296) (hb : b < 4294967296) : a - (a &&& b) = 0 ↔ ∀ i, i < 32 → a.testBit i = true → b.testBit i = true := by
 constructor
 ·intro h i hi h1
  have := sub_bit a b i ha hb
  rw [h, Nat.zero_testBit, h1, Bool.true_and] at this
  simpa using this.symm
 ·intro h
  apply Nat.eq_of_testBit_eq
  intro i
  rw [sub_bit a b i ha hb, Nat.zero_testBit]
  by_cases hi : i < 32
  ·cases h1 : a.testBit i with
   | false => rfl
   | true => rw [h i hi h1]; rfl
  ·rw [Nat.testBit_lt_two_pow (x := a) (i := i) (Nat.lt_of_lt_of_le (show a < 2 ^ 32 from ha) (Nat.pow_le_pow_right (by decide) (by omega)))]; rfl
theorem apart_iff : ∀ (js : List S50) (free : Nat), Masks js → free < 4294967296 → (apartFrom free js = true ↔ ∀ i, i < 32 → cnt i js ≤ if free.testBit i = true then 1 else 0)
 | [], free, _, _ => by simp [apartFrom, cnt]
 | j :: js, free, hm, hf => by
  have hm' : Masks js := fun x hx => hm x (List.mem_cons_of_mem _ hx)
  rw [apartFrom]
  by_cases h3 : j.f7 = 3
  ·have hj := hm j (List.mem_cons_self ..) h3
   obtain ⟨m, hmm⟩ : ∃ m, j.f9.toNat = m := ⟨_, rfl⟩
   have hm32 : m < 4294967296 := by omega
   have hfree : free - (free &&& m) < 4294967296 := by omega
   rw [if_pos h3, Bool.and_eq_true, decide_eq_true_eq, hmm, sub_zero m free hm32 hf, apart_iff js _ hm' hfree]
   simp only [cnt, h3, true_and, hmm]
   constructor
   ·rintro ⟨h1, h2⟩ i hi
    have a1 := h1 i hi
    have a2 := h2 i hi
    rw [sub_bit free m i hf hm32] at a2
    cases hb : m.testBit i with
    | false => rw [hb] at a2; simpa using a2
    | true => rw [hb, a1 hb] at a2; rw [a1 hb]; simp at a2 ⊢; omega
   ·intro h
    refine ⟨fun i hi hb => ?_, fun i hi => ?_⟩
    ·have := h i hi
     rw [hb] at this
     cases hf2 : free.testBit i with
     | true => rfl
     | false => rw [hf2] at this; simp at this
    ·have := h i hi
     rw [sub_bit free m i hf hm32]
     cases hb : m.testBit i with
     | false => rw [hb] at this; simpa using this
     | true =>
      rw [hb] at this
      cases hf2 : free.testBit i with
      | true => rw [hf2] at this; simp at this ⊢; omega
      | false => rw [hf2] at this; simp at this
  ·rw [if_neg h3, apart_iff js free hm' hf]
   simp only [cnt, h3, false_and, if_false, Nat.zero_add]
theorem all_f (nodes : Int) : ∃ free : Nat, pool_All.f nodes = some (free : Int) ∧ free < 4294967296 ∧ ∀ i, i < 32 → free.testBit i = decide ((i : Int) < nodes) := by
 obtain ⟨n, hn⟩ : ∃ n : Nat, mx 0 (mn nodes 32) = (n : Int) := ⟨(mx 0 (mn nodes 32)).toNat, by unfold mx mn; split <;> split <;> omega⟩
 have hn2 : n ≤ 32 ∧ ∀ i : Nat, i < 32 → (i < n ↔ (i : Int) < nodes) := by
  unfold mx mn at hn
  refine ⟨by split at hn <;> split at hn <;> omega, fun i hi => by split at hn <;> split at hn <;> omega⟩
 have hp : 2 ^ n ≤ 2 ^ 32 := Nat.pow_le_pow_right (by decide) hn2.1
 have hp0 : 0 < 2 ^ n := Nat.pow_pos (by decide)
 refine ⟨2 ^ n - 1, ?_, by omega, fun i hi => ?_⟩
 ·unfold pool_All.f
  rw [hn, Int.toNat_natCast]
  have h2 : ((2 ^ n : Nat) : Int) = 2 ^ n := by simp
  rw [← h2]
  generalize 2 ^ n = E at *
  congr 1
  rw [w64r ((E : Nat) : Int) (by omega) (by omega), w64r _ (by omega) (by omega)]
  omega
 ·rw [Nat.testBit_two_pow_sub_one]
  by_cases h : i < n
  ·rw [decide_eq_true h, decide_eq_true ((hn2.2 i hi).1 h)]
  ·rw [decide_eq_false h, decide_eq_false (fun h2 => h ((hn2.2 i hi).2 h2))]
theorem apart_ev (a0 w next : Int) (fs : List S34) (al : List S36) (rs : List S68) (js : List S50) (ks : List ByteArray) (nodes : Int) (hs : Few js) (hm : Masks js) : Com (fun k => sound_apart.f k a0 w next fs al rs js ks nodes) (apartB nodes js) := by
 have hn := hs.1
 obtain ⟨free, hf, hlt, hbits⟩ := all_f nodes
 have key := Com.loop js.length (fun k (s : Nat) i => sound_apart.l0 k (s : Int) js (js.length : Int) i) (fun s i => apartFrom s (js.drop i)) (fun s _ => s < 4294967296) (fun s _ => by
  refine Com.succ ?_
  simp only [sound_apart.l0, Int.lt_irrefl, if_false, List.drop_length, apartFrom]
  exact Com.const _) (fun s i hi hs32 ih => by
  refine Com.succ ?_
  have c1 : (i : Int) < (js.length : Int) := by omega
  have c0 : (0 : Int) ≤ (i : Int) := by omega
  simp only [sound_apart.l0, c1, c0, if_true, rd_job_at js i hi, drop_at js i hi, apartFrom, w64 i js.length hi (by omega)]
  refine Com.iff (fun h3 => ?_) (fun h3 => by rw [if_neg h3]; exact ih s hs32)
  rw [if_pos h3]
  have hj := hm _ (List.getElem_mem hi) h3
  obtain ⟨m, hmm⟩ : ∃ m : Nat, js[i].f9 = (m : Int) := ⟨js[i].f9.toNat, by omega⟩
  have hm32 : m < 4294967296 := by omega
  rw [hmm, Int.toNat_natCast, andNot64 m s (by omega) (by omega), andNot64 s m (by omega) (by omega)]
  refine Com.iff (fun h => ?_) (fun h => Com.no (decide_eq_false (by omega)))
  exact Com.yes (decide_eq_true (by omega)) (ih _ (by omega)))
 have k0 := key 0 (Nat.zero_le _) free hlt
 rw [List.drop_zero] at k0
 have e : apartB nodes js = apartFrom free js := by
  have h1 := apart_iff js free hm hlt
  have h2 : apartB nodes js = true ↔ apartFrom free js = true := by
   rw [h1]
   unfold apartB
   rw [List.all_eq_true]
   constructor
   ·intro h i hi
    have := of_decide_eq_true (h i (List.mem_range.2 hi))
    rw [hbits i hi]
    simpa using this
   ·intro h i hi
    have := h i (List.mem_range.1 hi)
    rw [hbits i (List.mem_range.1 hi)] at this
    exact decide_eq_true (by simpa using this)
  cases ha : apartB nodes js <;> cases hb : apartFrom free js <;> simp_all
 rw [e]
 unfold sound_apart.f
 simp only [hf, Option.bind_some]
 exact k0
/-! ### limits -/
def pathL (fs : List S34) (f : Int) : List Int := XPath.pathN (fun i => (rd_T34 fs i).f1) fs.length (f.toNat + 1) f
def useL (fs : List S34) (al : List S36) (n : Int) : List Int := al.flatMap (fun a => if isIn n (pathL fs a.f0) = true then [a.f4, a.f5] else [])
theorem useL_cons (fs : List S34) (a : S36) (al : List S36) (n : Int) : useL fs (a :: al) n = (if isIn n (pathL fs a.f0) = true then [a.f4, a.f5] else []) ++ useL fs al n := rfl
theorem path_f (fs : List S34) (f : Int) (hl : fs.length ≤ 40) : tree_Path.f fs f = some (pathL fs f) := by unfold tree_Path.f pathL; rw [if_pos (by omega)]
theorem path_le (fs : List S34) (f : Int) (hl : fs.length ≤ 40) : (pathL fs f).length ≤ 41 := by
 unfold pathL
 by_cases h : 0 ≤ f ∧ f < (fs.length : Int)
 ·have := XPath.path_len (fun i => (rd_T34 fs i).f1) (fs.length : Int) (f.toNat + 1) f
  omega
 ·rw [XPath.path_step, if_neg h]; simp
theorem contains_ev (l : List Int) (a : Int) (hl : l.length ≤ 1000) : Com (fun k => slices_Contains_int_int.f k l a) (isIn a l) := by
 have key := Com.loop l.length (fun k (_ : Unit) i => slices_Index_int_int.l0 k l a (l.length : Int) i) (fun _ i => if isIn a (l.drop i) = true then XIdx.idxF (fun x => x == a) (l.drop i) i else -1) (fun _ _ => True) (fun s _ => by
  refine Com.succ ?_
  simp only [slices_Index_int_int.l0, Int.lt_irrefl, if_false, List.drop_length, isIn, List.any_nil, Bool.false_eq_true]
  exact Com.const _) (fun s i hi _ ih => by
  refine Com.succ ?_
  have c1 : (i : Int) < (l.length : Int) := by omega
  have c0 : (0 : Int) ≤ (i : Int) := by omega
  simp only [slices_Index_int_int.l0, c1, c0, if_true, rd_at l i hi, drop_at l i hi, isIn, List.any_cons, XIdx.idxF, w64 i l.length hi (by omega)]
  refine Com.iff (fun h => ?_) (fun h => ?_)
  ·have hb : (l[i] == a) = true := by simp [h]
   rw [hb, Bool.true_or, if_pos rfl, if_pos rfl]; exact Com.const _
  ·have hb : (l[i] == a) = false := by simp; exact fun e => h e.symm
   rw [hb, Bool.false_or, if_neg (show ¬ (false = true) by decide)]
   exact ih () trivial)
 have k0 := key 0 (Nat.zero_le _) () trivial
 rw [List.drop_zero] at k0
 have h1 := idx_any (fun x => x == a) l 0
 have k1 : Com (fun k => slices_Contains_int_int.f k l a) (decide ((if isIn a l = true then XIdx.idxF (fun x => x == a) l 0 else -1) ≥ 0)) := by
  unfold slices_Contains_int_int.f slices_Index_int_int.f
  exact Com.bind k0 (Com.const _)
 refine k1.congr' ?_
 unfold isIn at *
 cases h : l.any (fun x => x == a) with
 | true => rw [if_pos rfl]; rw [h] at h1; exact decide_eq_true (of_decide_eq_true h1)
 | false => rw [if_neg (by decide)]; rfl
theorem use_ev (fs : List S34) (al : List S36) (n : Nat) (hn : n < fs.length) (hf : fs.length ≤ 40) (hl : al.length ≤ 40) : Com (fun k => tree_Use.f k fs al (n : Int)) (addR 0 (useL fs al n)) := by
 have key := Com.loop al.length (fun k (s : List Int) i => tree_Use.l0 k fs (n : Int) s al (al.length : Int) i) (fun s i => addR 0 (s ++ useL fs (al.drop i) n)) (fun s i => s.length ≤ 2 * i) (fun s hs => by
  refine Com.succ ?_
  simp only [tree_Use.l0, Int.lt_irrefl, if_false, List.drop_length, useL, List.flatMap_nil, List.append_nil]
  exact Com.bind (add_ev s (by omega)) (Com.const _)) (fun s i hi hs ih => by
  refine Com.succ ?_
  have c1 : (i : Int) < (al.length : Int) := by omega
  have c0 : (0 : Int) ≤ (i : Int) := by omega
  have c2 : s.length + [al[i].f4, al[i].f5].length < 17592186044416 := by simp only [List.length_cons, List.length_nil]; omega
  have hpl := path_le fs al[i].f0 hf
  simp only [tree_Use.l0, c1, c0, if_true, rd_alloc_at al i hi, drop_at al i hi, useL_cons, path_f fs _ hf, Option.bind_some, w64 i al.length hi (by omega), c2]
  refine Com.bind (contains_ev _ _ (by omega)) ?_
  refine Com.iff (fun h => ?_) (fun h => ?_)
  ·rw [if_pos h]
   have := ih (s ++ [al[i].f4, al[i].f5]) (by simp only [List.length_append, List.length_cons, List.length_nil]; omega)
   rw [List.append_assoc] at this
   exact this
  ·rw [if_neg h, List.nil_append]
   exact ih s (by omega))
 have k0 := key 0 (Nat.zero_le _) [] (by simp)
 rw [List.drop_zero, List.nil_append] at k0
 unfold tree_Use.f
 have c0 : ¬ ((n : Int) < 0) := by omega
 have c1 : decide ((n : Int) ≥ (fs.length : Int)) = false := decide_eq_false (by omega)
 simp only [c0, if_false, c1]
 refine Com.succ ?_
 simp only [tree_Use.j0, Bool.false_eq_true, if_false]
 exact k0
def overFrom (fs : List S34) (al : List S36) : Nat → List S34 → Int
 | _, [] => -1
 | n, f :: r => if f.f2 ≤ 0 then overFrom fs al (n + 1) r else if (addR 0 (useL fs al n)).2 = 0 ∧ ¬ (addR 0 (useL fs al n)).1 > f.f2 then overFrom fs al (n + 1) r else (n : Int)
theorem over_ev (fs : List S34) (al : List S36) (hf : fs.length ≤ 40) (hl : al.length ≤ 40) : Com (fun k => tree_Over.f k fs al) (overFrom fs al 0 fs) := by
 have key := Com.loop fs.length (fun k (_ : Unit) i => tree_Over.l0 k fs al fs (fs.length : Int) i) (fun _ i => overFrom fs al i (fs.drop i)) (fun _ _ => True) (fun s _ => by
  refine Com.succ ?_
  simp only [tree_Over.l0, Int.lt_irrefl, if_false, List.drop_length, overFrom]
  exact Com.const _) (fun s i hi _ ih => by
  refine Com.succ ?_
  have c1 : (i : Int) < (fs.length : Int) := by omega
  have c0 : (0 : Int) ≤ (i : Int) := by omega
  simp only [tree_Over.l0, c1, c0, if_true, rd_fund_at fs i hi, drop_at fs i hi, overFrom, w64 i fs.length hi (by omega)]
  refine Com.iff (fun h => by rw [if_pos h]; exact ih () trivial) (fun h => ?_)
  rw [if_neg h]
  refine Com.bind (use_ev fs al i hi hf hl) ?_
  refine Com.iff (fun h1 => ?_) (fun h1 => by rw [if_neg (fun h2 => h1 h2.1)]; exact Com.const _)
  refine Com.iff (fun h2 => by rw [if_neg (fun h3 => h3.2 h2)]; exact Com.const _) (fun h2 => by rw [if_pos ⟨h1, h2⟩]; exact ih () trivial))
 have := key 0 (Nat.zero_le _) () trivial
 rw [List.drop_zero] at this
 exact this
end Go.Proofs.Ytijeigiilgapdaa.XSnd
end
section
namespace Go.Proofs.Ytijeigiilgapdaa.XSnd
open Go.RowKit Go.Proofs.YtijeigiilgapdaaW.PrintWords Go.Proofs.YtijeigiilgapdaaW.PrintLast Go.Proofs.YtijeigiilgapdaaW.PrintMore Go.Proofs.Ytijeigiilgapdaa.QSoundTells XCom XPoolBits
set_option linter.unusedVariables false
set_option linter.unusedSimpArgs false
theorem rpath_neg (fs : List S34) (f : Int) (h : f < 0) : Com (fun k => prebendref08_Path.f k fs f) (pathL fs f) := by
 have e : pathL fs f = [] := by unfold pathL; rw [XPath.path_step, if_neg (by omega)]
 rw [e]
 refine Com.succ ?_
 simp only [prebendref08_Path.f, h, if_true]
 refine Com.succ ?_
 simp only [prebendref08_Path.j0, if_true]
 exact Com.const _
theorem rpath_step (fs : List S34) (hf : fs.length ≤ 40) (f : Int) (ih : ∀ g : Int, g < f → 0 ≤ g → Com (fun k => prebendref08_Path.f k fs g) (pathL fs g)) : Com (fun k => prebendref08_Path.f k fs f) (pathL fs f) := by
 have j0t : pathL fs f = [] → Com (fun k => prebendref08_Path.j0 k fs f true) (pathL fs f) := fun h => by
  rw [h]
  refine Com.succ ?_
  simp only [prebendref08_Path.j0, if_true]
  exact Com.const _
 refine Com.succ ?_
 simp only [prebendref08_Path.f]
 refine Com.iff (fun h => j0t (by unfold pathL; rw [XPath.path_step, if_neg (by omega)])) (fun h => ?_)
 by_cases h1 : f ≥ (fs.length : Int)
 ·rw [decide_eq_true h1]
  exact j0t (by unfold pathL; rw [XPath.path_step, if_neg (by omega)])
 rw [decide_eq_false h1]
 have c0 : 0 ≤ f := by omega
 have c1 : f < (fs.length : Int) := by omega
 have e : pathL fs f = f :: (if (rd_T34 fs f).f1 ≥ f then [] else pathL fs (rd_T34 fs f).f1) := by
  unfold pathL
  rw [XPath.path_step, if_pos ⟨c0, c1⟩]
  congr 1
  split
  ·rfl
  ·rename_i hp
   by_cases h0 : 0 ≤ (rd_T34 fs f).f1
   ·exact XPath.path_more _ _ _ _ (by omega)
   ·have z : ∀ n, XPath.pathN (fun i => (rd_T34 fs i).f1) (fs.length : Int) n (rd_T34 fs f).f1 = [] := fun n => by
     cases n with
     | zero => rfl
     | succ n => rw [XPath.path_step, if_neg (fun h => h0 h.1)]
    rw [z, z]
 refine Com.succ ?_
 simp only [prebendref08_Path.j0, Bool.false_eq_true, if_false, c0, c1, if_true, Option.bind_some]
 refine Com.iff (fun h2 => by rw [e, if_pos h2]; exact Com.const _) (fun h2 => ?_)
 rw [e, if_neg h2]
 refine Com.bind (show Com (fun k => prebendref08_Path.f k fs (rd_T34 fs f).f1) (pathL fs (rd_T34 fs f).f1) from by
  by_cases h3 : 0 ≤ (rd_T34 fs f).f1
  ·exact ih _ (by omega) h3
  ·exact rpath_neg fs _ (by omega)) ?_
 have hle := path_le fs (rd_T34 fs f).f1 hf
 have c2 : [f].length + (pathL fs (rd_T34 fs f).f1).length < 17592186044416 := by simp only [List.length_cons, List.length_nil]; omega
 simp only [c2, if_true]
 exact Com.const _
theorem rpath_ev (fs : List S34) (hf : fs.length ≤ 40) : ∀ (m : Nat) (f : Int), f.toNat ≤ m → Com (fun k => prebendref08_Path.f k fs f) (pathL fs f) := by
 intro m
 induction m with
 | zero => intro f hm; exact rpath_step fs hf f (fun g hg h0 => by omega)
 | succ m ih => intro f hm; exact rpath_step fs hf f (fun g hg h0 => ih g (by omega))
theorem below_ev (fs : List S34) (f n : Int) (hf : fs.length ≤ 40) : Com (fun k => prebendref08_Below.f k fs f n) (isIn n (pathL fs f)) := by
 unfold prebendref08_Below.f
 refine Com.bind (rpath_ev fs hf f.toNat f (Nat.le_refl _)) ?_
 have hle := path_le fs f hf
 generalize pathL fs f = l at *
 have key := Com.loop l.length (fun k (_ : Unit) i => prebendref08_Below.l0 k n l i) (fun _ i => isIn n (l.drop i)) (fun _ _ => True) (fun s _ => by
  refine Com.succ ?_
  simp only [prebendref08_Below.l0, Int.lt_irrefl, if_false, List.drop_length, isIn, List.any_nil]
  exact Com.const _) (fun s i hi _ ih => by
  refine Com.succ ?_
  have c1 : (i : Int) < (l.length : Int) := by omega
  have c0 : (0 : Int) ≤ (i : Int) := by omega
  simp only [prebendref08_Below.l0, c1, c0, if_true, rd_at l i hi, drop_at l i hi, isIn, List.any_cons, w64 i l.length hi (by omega)]
  refine Com.iff (fun h => ?_) (fun h => ?_)
  ·rw [show (l[i] == n) = true from by simp [h], Bool.true_or]; exact Com.const _
  ·rw [show (l[i] == n) = false from by simp [h], Bool.false_or]; exact ih () trivial)
 have := key 0 (Nat.zero_le _) () trivial
 rw [List.drop_zero] at this
 exact this
theorem ruse_ev (fs : List S34) (al : List S36) (n : Nat) (hn : n < fs.length) (hf : fs.length ≤ 40) (hl : al.length ≤ 40) : Com (fun k => prebendref08_Use.f k fs al (n : Int)) (addR 0 (useL fs al n)) := by
 have key := Com.loop al.length (fun k (s : List Int) i => prebendref08_Use.l0 k fs al (n : Int) s i) (fun s i => addR 0 (s ++ useL fs (al.drop i) n)) (fun s i => s.length ≤ 2 * i) (fun s hs => by
  refine Com.succ ?_
  simp only [prebendref08_Use.l0, Int.lt_irrefl, if_false, List.drop_length, useL, List.flatMap_nil, List.append_nil]
  exact Com.bind (radd_ev s (by omega)) (Com.const _)) (fun s i hi hs ih => by
  refine Com.succ ?_
  have c1 : (i : Int) < (al.length : Int) := by omega
  have c0 : (0 : Int) ≤ (i : Int) := by omega
  have c2 : s.length + 1 < 17592186044416 := by omega
  have c3 : s.length + 1 + 1 < 17592186044416 := by omega
  simp only [prebendref08_Use.l0, c1, c0, if_true, rd_alloc_at al i hi, drop_at al i hi, useL_cons, Option.bind_some, w64 i al.length hi (by omega), List.length_append, List.length_cons, List.length_nil, Nat.zero_add, c2, c3]
  refine Com.bind (below_ev fs _ _ hf) ?_
  refine Com.iff (fun h => ?_) (fun h => ?_)
  ·rw [if_pos h]
   have := ih (s ++ [al[i].f4] ++ [al[i].f5]) (by simp only [List.length_append, List.length_cons, List.length_nil]; omega)
   simp only [List.append_assoc, List.cons_append, List.nil_append] at this ⊢
   exact this
  ·rw [if_neg h, List.nil_append]
   exact ih s (by omega))
 have k0 := key 0 (Nat.zero_le _) [] (by simp)
 rw [List.drop_zero, List.nil_append] at k0
 unfold prebendref08_Use.f
 have c0 : ¬ ((n : Int) < 0) := by omega
 have c1 : decide ((n : Int) ≥ (fs.length : Int)) = false := decide_eq_false (by omega)
 simp only [c0, if_false, c1]
 refine Com.succ ?_
 simp only [prebendref08_Use.j0, Bool.false_eq_true, if_false]
 exact k0
theorem rover_ev (fs : List S34) (al : List S36) (hf : fs.length ≤ 40) (hl : al.length ≤ 40) : Com (fun k => prebendref08_Over.f k fs al) (overFrom fs al 0 fs) := by
 have key := Com.loop fs.length (fun k (_ : Unit) i => prebendref08_Over.l0 k fs al i) (fun _ i => overFrom fs al i (fs.drop i)) (fun _ _ => True) (fun s _ => by
  refine Com.succ ?_
  simp only [prebendref08_Over.l0, Int.lt_irrefl, if_false, List.drop_length, overFrom]
  exact Com.const _) (fun s i hi _ ih => by
  refine Com.succ ?_
  have c1 : (i : Int) < (fs.length : Int) := by omega
  have c0 : (0 : Int) ≤ (i : Int) := by omega
  simp only [prebendref08_Over.l0, c1, c0, if_true, rd_fund_at fs i hi, drop_at fs i hi, overFrom, w64 i fs.length hi (by omega)]
  refine Com.bind (ruse_ev fs al i hi hf hl) ?_
  refine Com.iff (fun h => ?_) (fun h => by rw [if_pos (by omega)]; exact ih () trivial)
  rw [if_neg (by omega)]
  refine Com.iff (fun h1 => ?_) (fun h1 => by rw [if_neg (fun h2 => h1 h2.1)]; exact Com.const _)
  refine Com.iff (fun h2 => by rw [if_neg (fun h3 => h3.2 h2)]; exact Com.const _) (fun h2 => by rw [if_pos ⟨h1, h2⟩]; exact ih () trivial))
 have := key 0 (Nat.zero_le _) () trivial
 rw [List.drop_zero] at this
 exact this
end Go.Proofs.Ytijeigiilgapdaa.XSnd
end
section
namespace Go.Proofs.Ytijeigiilgapdaa.XSnd
open Go.RowKit Go.Proofs.YtijeigiilgapdaaW.PrintWords Go.Proofs.YtijeigiilgapdaaW.PrintLast Go.Proofs.YtijeigiilgapdaaW.PrintMore Go.Proofs.Ytijeigiilgapdaa.QSoundTells XCom XPoolBits
set_option linter.unusedVariables false
set_option linter.unusedSimpArgs false
def totalB (w : Int) (al : List S36) : Bool := decide (addR 0 (w :: flatA al) = (0, 0))
def brokenR (w next nodes : Int) (fs : List S34) (al : List S36) (rs : List S68) (js : List S50) : Int :=
 if totalB w al = false then 1 else if signsB w al = false then 2 else if listsB fs al rs = false then 3 else if jobsB fs.length al.length next js = false then 4
 else if lienFrom js 0 al = false then 5 else if spentFrom js 0 al = false then 6 else if js.all covOk = false then 7 else if apartB nodes js = false then 8
 else if 0 ≤ overFrom fs al 0 fs then 9 else 0
theorem jobOk_facts (j : S50) (h : jobOk j = true) : j.f11.length ≤ 16 ∧ (j.f7 = 3 → 0 ≤ j.f9 ∧ j.f9 ≤ 4294967295) := by
 unfold jobOk at h
 rw [Bool.and_eq_true] at h
 have h2 := h.2
 unfold stateOk at h2
 split at h2
 ·have := of_decide_eq_true h2
  exact ⟨by omega, fun h3 => by omega⟩
 ·split at h2
  ·unfold runOk at h2
   rw [Bool.and_eq_true] at h2
   have := of_decide_eq_true h2.1
   exact ⟨draws_len _ h2.2, fun _ => this.2.1⟩
  ·rename_i h3
   split at h2
   ·unfold doneOk at h2
    rw [Bool.and_eq_true] at h2
    exact ⟨draws_len _ h2.2, fun h4 => absurd h4 h3⟩
   ·cases h2
theorem jobsFrom_facts (nf na : Nat) (next : Int) : ∀ (js : List S50) (seen : List Int), jobsFrom nf na next seen js = true → ∀ j ∈ js, jobOk j = true
 | [], _, _ => fun j hj => by cases hj
 | x :: xs, seen, h => by
  rw [jobsFrom, Bool.and_eq_true, Bool.and_eq_true, Bool.and_eq_true, Bool.and_eq_true] at h
  intro j hj
  rcases List.mem_cons.1 hj with rfl | hj
  ·exact h.1.1
  ·exact jobsFrom_facts nf na next xs _ h.2.2.2 j hj
theorem jobs_facts {nf na : Nat} {next : Int} {js : List S50} (h : jobsB nf na next js = true) : Few js ∧ Masks js := by
 unfold jobsB at h
 rw [Bool.and_eq_true] at h
 have h1 := of_decide_eq_true h.1
 have h2 := jobsFrom_facts nf na next js [] h.2
 exact ⟨⟨by omega, fun j hj => (jobOk_facts j (h2 j hj)).1⟩, fun j hj => (jobOk_facts j (h2 j hj)).2⟩
theorem chain_com {f : Nat → Option Bool} {xs : Nat → List (Option Bool)} {n r : Int} {b : Bool} (hf : Com f b) (ht : b = true → Com (fun k => sound_chain (xs k) (n + 1)) r) (hF : b = false → r = n) : Com (fun k => sound_chain (f k :: xs k) n) r := by
 have e : ∀ k, sound_chain (f k :: xs k) n = (f k).bind fun b => if b = true then sound_chain (xs k) (n + 1) else some n := fun k => rfl
 refine Com.congr (f := fun k => (f k).bind fun b => if b = true then sound_chain (xs k) (n + 1) else some n) ?_ e
 refine Com.bind (g := fun k b => if b = true then sound_chain (xs k) (n + 1) else some n) hf ?_
 cases b with
 | true => exact ht rfl
 | false => rw [hF rfl]; exact Com.const _
theorem total_com (a0 w next : Int) (fs : List S34) (al : List S36) (rs : List S68) (js : List S50) (ks : List ByteArray) (hl : al.length ≤ 40) : Com (fun k => sound_total.f k a0 w next fs al rs js ks) (totalB w al) := by
 unfold sound_total.f totalB
 refine Com.bind (total_ev w al hl) ?_
 obtain ⟨⟨x, y⟩, hx⟩ : ∃ p, addR 0 (w :: flatA al) = p := ⟨_, rfl⟩
 rw [hx]
 refine Com.iff (fun h => ?_) (fun h => by rw [decide_eq_false (fun h2 => h (by rw [h2]))]; exact Com.const _)
 have h : y = 0 := h
 rw [show (decide ((x, y) = ((0 : Int), (0 : Int)))) = (x == 0) from by subst h; by_cases h0 : x = 0 <;> simp [h0]]
 exact Com.const _
theorem broken_com (a0 w next : Int) (fs : List S34) (al : List S36) (rs : List S68) (js : List S50) (ks : List ByteArray) (nodes : Int) (hf : fs.length ≤ 40) (hl : al.length ≤ 40) (hr : rs.length ≤ 4611686018427387904) (hs : Sizes js) :
  Com (fun k => sound_Broken.f k a0 w next fs al rs js ks nodes) (brokenR w next nodes fs al rs js) := by
 unfold sound_Broken.f sound_Broken.parts brokenR
 refine chain_com (total_com a0 w next fs al rs js ks hl) (fun h1 => ?_) (fun h => if_pos h)
 rw [if_neg (by rw [h1]; decide)]
 refine chain_com (signs_ev a0 w next fs al rs js ks hl) (fun h2 => ?_) (fun h => if_pos h)
 rw [if_neg (by rw [h2]; decide)]
 refine chain_com (lists_ev a0 w next fs al rs js ks hl hr) (fun h3 => ?_) (fun h => if_pos h)
 rw [if_neg (by rw [h3]; decide)]
 refine chain_com (jobs_ev a0 w next fs al rs js ks hs) (fun h4 => ?_) (fun h => if_pos h)
 rw [if_neg (by rw [h4]; decide)]
 obtain ⟨hfew, hmask⟩ := jobs_facts h4
 refine chain_com (liened_ev a0 w next fs al rs js ks hfew hl) (fun h5 => ?_) (fun h => if_pos h)
 rw [if_neg (by rw [h5]; decide)]
 refine chain_com (spent_ev a0 w next fs al rs js ks hfew hl) (fun h6 => ?_) (fun h => if_pos h)
 rw [if_neg (by rw [h6]; decide)]
 refine chain_com (covered_ev a0 w next fs al rs js ks hfew) (fun h7 => ?_) (fun h => if_pos h)
 rw [if_neg (by rw [h7]; decide)]
 refine chain_com (apart_ev a0 w next fs al rs js ks nodes hfew hmask) (fun h8 => ?_) (fun h => if_pos h)
 rw [if_neg (by rw [h8]; decide)]
 refine chain_com (xs := fun _ => []) (Com.map (g := fun o => decide (o < 0)) (over_ev fs al hf hl)) (fun h9 => ?_) (fun h => ?_)
 ·have h9 := of_decide_eq_true h9
  rw [if_neg (by omega)]
  exact Com.const _
 ·have h9 := of_decide_eq_false h
  rw [if_pos (by omega)]; rfl
/-! ### the reference's signs, one after the other -/
def sgOk (i : Nat) (x : Int) : Bool := if i = 0 then decide (x ≤ 0) else decide (0 ≤ x)
def sgFrom : Nat → List Int → Bool
 | _, [] => true
 | i, x :: xs => sgOk i x && sgFrom (i + 1) xs
theorem sg_flat : ∀ (al : List S36) (i : Nat), sgFrom (i + 1) (flatA al) = al.all signOk
 | [], i => rfl
 | a :: al, i => by
  rw [flatA, sgFrom, sgFrom, sgFrom, sg_flat al (i + 3), List.all_cons, sgOk, sgOk, sgOk, if_neg (by omega), if_neg (by omega), if_neg (by omega), ← Bool.and_assoc, ← Bool.and_assoc]
  congr 1
  unfold signOk
  by_cases h1 : 0 ≤ a.f3 <;> by_cases h2 : 0 ≤ a.f4 <;> by_cases h3 : 0 ≤ a.f5 <;> simp [h1, h2, h3]
theorem sg_all (w : Int) (al : List S36) : sgFrom 0 (w :: flatA al) = signsB w al := by
 rw [sgFrom, sg_flat, sgOk, if_pos rfl, signsB, Bool.and_comm]
theorem sg_nil (n : Nat) : sgFrom n [] = true := rfl
theorem lien_nil (js : List S50) (n : Nat) : lienFrom js n [] = true := rfl
theorem spent_nil (js : List S50) (n : Nat) : spentFrom js n [] = true := rfl
theorem lien_step (js : List S50) (al : List S36) (i : Nat) (h : i < al.length) : lienFrom js i (al.drop i) = (decide (addR 0 (amts 3 (i : Int) js) = (al[i].f4, 0)) && lienFrom js (i + 1) (al.drop (i + 1))) := by rw [drop_at al i h]; rfl
theorem spent_step (js : List S50) (al : List S36) (i : Nat) (h : i < al.length) : spentFrom js i (al.drop i) = (decide ((addR 0 (amts 4 (i : Int) js)).2 = 0 ∧ (addR 0 (amts 4 (i : Int) js)).1 ≤ al[i].f5) && spentFrom js (i + 1) (al.drop (i + 1))) := by rw [drop_at al i h]; rfl
theorem cov_step (js : List S50) (i : Nat) (h : i < js.length) : (js.drop i).all covOk = (covOk js[i] && (js.drop (i + 1)).all covOk) := by rw [drop_at js i h]; rfl
theorem cov_three (j : S50) (h : j.f7 = 3) : covOk j = true ↔ (costR j.f2 j.f3 j.f6).2 = 0 ∧ (addR 0 (sums j.f11)).2 = 0 ∧ (costR j.f2 j.f3 j.f6).1 = (addR 0 (sums j.f11)).1 := by
 unfold covOk
 rw [decide_eq_true_eq]
 constructor
 ·intro h2; exact h2.elim (fun h3 => absurd h h3) (fun h3 => h3)
 ·intro h2; exact .inr h2
theorem cov_other (j : S50) (h : ¬ j.f7 = 3) : covOk j = true := by unfold covOk; exact decide_eq_true (.inl h)
theorem sg_step (l : List Int) (i : Nat) (h : i < l.length) : sgFrom i (l.drop i) = (sgOk i l[i] && sgFrom (i + 1) (l.drop (i + 1))) := by rw [drop_at l i h]; rfl
/-! ### nodes, one after the other -/
def apFrom (nodes : Int) (js : List S50) (i : Nat) : Bool := ((List.range 32).drop i).all (nodeOk nodes js)
theorem ap_step (nodes : Int) (js : List S50) (i : Nat) (h : i < 32) : apFrom nodes js i = (nodeOk nodes js i && apFrom nodes js (i + 1)) := by
 unfold apFrom
 rw [drop_at (List.range 32) i (by rw [List.length_range]; exact h), List.all_cons, List.getElem_range]
theorem nodeOk_eq (nodes : Int) (js : List S50) (i : Nat) : nodeOk nodes js i = decide (cnt i js ≤ if (i : Int) < nodes then 1 else 0) := rfl
theorem ap_zero (nodes : Int) (js : List S50) : apartB nodes js = apFrom nodes js 0 := rfl
theorem ap_end (nodes : Int) (js : List S50) : apFrom nodes js 32 = true := rfl
theorem cnt_take (i : Nat) : ∀ (js : List S50) (k : Nat) (h : k < js.length), cnt i (js.take (k + 1)) = cnt i (js.take k) + if js[k].f7 = 3 ∧ js[k].f9.toNat.testBit i = true then 1 else 0
 | j :: js, 0, h => by simp [cnt]
 | j :: js, k + 1, h => by
  rw [List.take_succ_cons, List.take_succ_cons, cnt, cnt, cnt_take i js k (by simpa using h)]
  rw [List.getElem_cons_succ]; omega
theorem cnt_le (i : Nat) : ∀ js : List S50, cnt i js ≤ js.length
 | [] => Nat.le_refl _
 | j :: js => by have := cnt_le i js; rw [cnt, List.length_cons]; split <;> omega
end Go.Proofs.Ytijeigiilgapdaa.XSnd
end
