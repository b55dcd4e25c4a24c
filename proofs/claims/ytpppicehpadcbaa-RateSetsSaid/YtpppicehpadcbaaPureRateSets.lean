/-
  RateSets: a rate that is put behind all others holds from its tick on, up to the next later one of its class; all else has the price that it had. For every input.
-/
import Derived.Test.YtpppicehpadcbaaQRateSetsx2
namespace Go.Proofs.Ytpppicehpadcbaa.Pure
open Go.RowKit Go.Proofs.Ytpppicehpadcbaa.QRateSets Go.Proofs.YtpppicehpadcbaaW.PrintWords Go.Proofs.YtpppicehpadcbaaW.PrintLast

theorem wrap_up {i : Int} {n : Nat} (h0 : 0 ≤ i) (h : i < (n : Int)) (hn : n * 24 ≤ 140737488351232) : wrap64 (i + 1) = i + 1 := by
  unfold wrap64
  omega
theorem i64_of (a : Int) (h : (Lit.int .i64 a).wf = true) : -9223372036854775808 ≤ a ∧ a < 9223372036854775808 := by
  simp only [Lit.wf, IntKind.min, IntKind.max, IntKind.signed, IntKind.bits, Bool.and_eq_true] at h
  simp at h
  omega
theorem rd_nat {l : List S40} {j : Nat} (h : j < l.length) : rd_T40 l (j : Int) = l[j] := by
  unfold rd_T40
  rw [Int.toNat_natCast, List.getD_eq_getElem?_getD, List.getElem?_eq_getElem h]
  rfl

/-- One rate more: does it become the best one? -/
def stp (q t : Int) (s : Option S40) (r : S40) : Option S40 :=
  if r.f0 = q ∧ r.f1 ≤ t ∧ (∀ b, s = some b → b.f1 ≤ r.f1) then some r else s
def best (q t : Int) (l : List S40) : Option S40 := l.foldl (stp q t) none
def code (s : Option S40) : Int := match s with | none => 12 | some _ => 0
def cur (s : Option S40) : S40 := match s with | none => ⟨0, 0, 0⟩ | some b => b
theorem best_snoc (q t : Int) (l : List S40) (r : S40) : best q t (l ++ [r]) = stp q t (best q t l) r := by
  unfold best; rw [List.foldl_append]; rfl

theorem price_loop (q t : Int) (l : List S40) (hl : l.length * 24 ≤ 140737488351232) (d : Nat) : ∀ (k i : Nat) (s : Option S40), i + d = l.length → d < k →
    rate_Price.l0 k q t (code s) l (l.length : Int) (i : Int) (cur s).f0 (cur s).f1 (cur s).f2 = some ((cur ((l.drop i).foldl (stp q t) s)).f2, code ((l.drop i).foldl (stp q t) s)) := by
  induction d with
  | zero =>
    intro k i s hi hk
    obtain ⟨k, rfl⟩ : ∃ z, k = z + 1 := ⟨k - 1, by omega⟩
    simp only [rate_Price.l0]
    rw [if_neg (by omega), List.drop_of_length_le (by omega)]
    rfl
  | succ d ih =>
    intro k i s hi hk
    obtain ⟨k, rfl⟩ : ∃ z, k = z + 1 := ⟨k - 1, by omega⟩
    have hlt : i < l.length := by omega
    rw [List.drop_eq_getElem_cons hlt, List.foldl_cons]
    simp only [rate_Price.l0]
    rw [if_pos (by omega), if_pos (by omega), if_pos (by omega), wrap_up (n := l.length) (by omega) (by omega) hl, rd_nat hlt]
    have e1 : ((i : Int) + 1) = ((i + 1 : Nat) : Int) := by omega
    rw [e1]
    have yes : stp q t s l[i] = some l[i] → rate_Price.l0 k q t 0 l (l.length : Int) ((i + 1 : Nat) : Int) l[i].f0 l[i].f1 l[i].f2 = some ((cur ((l.drop (i + 1)).foldl (stp q t) (stp q t s l[i]))).f2, code ((l.drop (i + 1)).foldl (stp q t) (stp q t s l[i]))) := by
      intro h
      rw [h]
      exact ih k (i + 1) (some l[i]) (by omega) (by omega)
    have no : stp q t s l[i] = s → rate_Price.l0 k q t (code s) l (l.length : Int) ((i + 1 : Nat) : Int) (cur s).f0 (cur s).f1 (cur s).f2 = some ((cur ((l.drop (i + 1)).foldl (stp q t) (stp q t s l[i]))).f2, code ((l.drop (i + 1)).foldl (stp q t) (stp q t s l[i]))) := by
      intro h
      rw [h]
      exact ih k (i + 1) s (by omega) (by omega)
    by_cases h1 : l[i].f0 = q
    · rw [if_pos h1]
      by_cases h2 : l[i].f1 ≤ t
      · rw [if_pos h2]
        cases s with
        | none =>
          rw [if_neg (by decide)]
          exact yes (by unfold stp; rw [if_pos ⟨h1, h2, fun b hb => by cases hb⟩])
        | some b =>
          rw [if_pos (show code (some b) = 0 from rfl)]
          by_cases h3 : l[i].f1 ≥ b.f1
          · rw [if_pos (show l[i].f1 ≥ (cur (some b)).f1 from h3)]
            exact yes (by unfold stp; rw [if_pos ⟨h1, h2, fun c hc => by cases hc; exact h3⟩])
          · rw [if_neg (show ¬ l[i].f1 ≥ (cur (some b)).f1 from h3)]
            exact no (by unfold stp; rw [if_neg (fun h => h3 (h.2.2 b rfl))])
      · rw [if_neg h2]
        exact no (by unfold stp; rw [if_neg (fun h => h2 h.2.1)])
    · rw [if_neg h1]
      exact no (by unfold stp; rw [if_neg (fun h => h1 h.1)])
theorem price_f (q t : Int) (l : List S40) (hl : l.length * 24 ≤ 140737488351232) (k : Nat) (hk : l.length < k) :
    rate_Price.f k l q t = some ((cur (best q t l)).f2, code (best q t l)) := by
  have := price_loop q t l hl l.length k 0 none (by omega) hk
  exact this
theorem awake_f (k : Nat) (hk : 50 ≤ k) : prebendlaw10_awake.f k = some true :=
  at_rounds prebendlaw10_awake.mono (k := 50) hk (by decide +kernel)
theorem few_f (l : List S40) : prebendlaw10_few.f l = some (l.take 40) := by
  unfold prebendlaw10_few.f
  by_cases h : (l.length : Int) > 40
  · rw [if_pos h, if_pos (by omega)]
  · rw [if_neg h, List.take_of_length_le (by omega)]
/-- What the best one is. -/
theorem best_is (q t : Int) (l : List S40) : (best q t l = none → ∀ r ∈ l, ¬ (r.f0 = q ∧ r.f1 ≤ t)) ∧
    ∀ b, best q t l = some b → b ∈ l ∧ b.f0 = q ∧ b.f1 ≤ t ∧ ∀ r ∈ l, r.f0 = q → r.f1 ≤ t → r.f1 ≤ b.f1 := by
  obtain ⟨n, hn⟩ : ∃ n, l.length = n := ⟨_, rfl⟩
  induction n generalizing l with
  | zero =>
    obtain rfl := List.eq_nil_of_length_eq_zero hn
    exact ⟨fun _ r hr => absurd hr List.not_mem_nil, fun b hb => by simp [best] at hb⟩
  | succ n ih =>
    obtain ⟨l', r, rfl⟩ : ∃ l' r, l = l' ++ [r] := ⟨l.dropLast, l.getLast (by intro h; simp [h] at hn), (List.dropLast_concat_getLast _).symm⟩
    obtain ⟨i1, i2⟩ := ih l' (by simpa using hn)
    rw [best_snoc]
    unfold stp
    split
    next h =>
      refine ⟨fun e => (by cases e), fun b hb => ?_⟩
      cases hb
      refine ⟨by simp, h.1, h.2.1, fun r' hr' h1 h2 => ?_⟩
      rcases List.mem_append.1 hr' with hm | hm
      · cases hb : best q t l' with
        | none => exact absurd ⟨h1, h2⟩ (i1 hb r' hm)
        | some c =>
          have := (i2 c hb).2.2.2 r' hm h1 h2
          have := h.2.2 c hb
          omega
      · rw [List.mem_singleton.1 hm]; exact Int.le_refl _
    next h =>
      refine ⟨fun e r' hr' hc => ?_, fun b hb => ?_⟩
      · rcases List.mem_append.1 hr' with hm | hm
        · exact i1 e r' hm hc
        · rw [List.mem_singleton.1 hm] at hc
          exact h ⟨hc.1, hc.2, fun b hb => by rw [e] at hb; cases hb⟩
      · obtain ⟨b1, b2, b3, b4⟩ := i2 b hb
        refine ⟨by simp [b1], b2, b3, fun r' hr' h1 h2 => ?_⟩
        rcases List.mem_append.1 hr' with hm | hm
        · exact b4 r' hm h1 h2
        · rw [List.mem_singleton.1 hm] at h1 h2 ⊢
          apply Int.not_lt.1
          intro hlt
          exact h ⟨h1, h2, fun c hc => by rw [hb] at hc; cases hc; omega⟩

def ltr (q t r1 : Int) (l : List S40) : Bool := l.any fun r => decide (r.f0 = q ∧ r.f1 > r1 ∧ r.f1 ≤ t)
theorem sets_loop (q t : Int) (l : List S40) (hl : l.length * 24 ≤ 140737488351232) (a e b f r0 r1 r2 : Int) (d : Nat) : ∀ (k i : Nat) (later : Bool), i + d = l.length → d + 60 < k →
    prebendlaw10_RateSets.l0 k q t l a e b f later (i : Int) r0 r1 r2 =
      (if (later || ltr q t r1 (l.drop i)) = true then (if a = b then some (e == f) else some false) else (if f = 0 then some (b == r2) else some false)) := by
  induction d with
  | zero =>
    intro k i later hi hk
    obtain ⟨k, rfl⟩ : ∃ z, k = z + 1 := ⟨k - 1, by omega⟩
    simp only [prebendlaw10_RateSets.l0]
    rw [if_neg (by omega), List.drop_of_length_le (by omega), awake_f k (by omega)]
    simp only [Option.bind_some, if_true]
    cases later <;> rfl
  | succ d ih =>
    intro k i later hi hk
    obtain ⟨k, rfl⟩ : ∃ z, k = z + 1 := ⟨k - 1, by omega⟩
    have hlt : i < l.length := by omega
    rw [List.drop_eq_getElem_cons hlt]
    simp only [prebendlaw10_RateSets.l0]
    rw [if_pos (by omega), wrap_up (n := l.length) (by omega) (by omega) hl, rd_nat hlt]
    have e1 : ((i : Int) + 1) = ((i + 1 : Nat) : Int) := by omega
    rw [e1]
    have e3 : ltr q t r1 (l[i] :: l.drop (i + 1)) = (decide (l[i].f0 = q ∧ l[i].f1 > r1 ∧ l[i].f1 ≤ t) || ltr q t r1 (l.drop (i + 1))) := rfl
    rw [e3]
    cases later with
    | true =>
      rw [if_pos rfl, ih k (i + 1) true (by omega) (by omega)]
      rfl
    | false =>
      rw [if_neg (by decide), if_pos (by omega)]
      by_cases h1 : l[i].f0 = q
      · rw [if_pos h1]
        by_cases h2 : l[i].f1 > r1
        · rw [if_pos h2, ih k (i + 1) _ (by omega) (by omega)]
          have e4 : decide (l[i].f0 = q ∧ l[i].f1 > r1 ∧ l[i].f1 ≤ t) = decide (l[i].f1 ≤ t) := by simp [h1, h2]
          rw [e4, Bool.false_or]
        · rw [if_neg h2, ih k (i + 1) _ (by omega) (by omega)]
          rw [decide_eq_false (fun h => h2 h.2.1)]
          rfl
      · rw [if_neg h1, ih k (i + 1) _ (by omega) (by omega)]
        rw [decide_eq_false (fun h => h1 h.1)]
        rfl
theorem RateSets : prebendlaw10_RateSets.Pure := by
  intro l0 r0 r1 r2 q t _ _ _ _ _ _
  refine ⟨200, ?_⟩
  unfold prebendlaw10_RateSets.f
  rw [few_f]
  simp only [Option.bind_some, List.nil_append]
  have hl : (l0.take 40).length ≤ 40 := by rw [List.length_take]; omega
  generalize l0.take 40 = l at hl
  rw [if_pos (by rw [List.length_nil]; omega), if_pos (by rw [List.length_singleton]; omega)]
  have hm : (l ++ [(⟨r0, r1, r2⟩ : S40)]).length ≤ 41 := by rw [List.length_append, List.length_singleton]; omega
  rw [price_f q t l (by omega) 200 (by omega), price_f q t (l ++ [(⟨r0, r1, r2⟩ : S40)]) (by omega) 200 (by omega)]
  simp only [Option.bind_some]
  rw [best_snoc]
  obtain ⟨n1, n2⟩ := best_is q t l
  have same : stp q t (best q t l) ⟨r0, r1, r2⟩ = best q t l → ∀ k x, 70 < k → prebendlaw10_RateSets.j0 k q t l (cur (best q t l)).f2 (code (best q t l)) (cur (stp q t (best q t l) ⟨r0, r1, r2⟩)).f2 (code (stp q t (best q t l) ⟨r0, r1, r2⟩)) true r0 r1 x = some true := by
    intro h k x hk
    obtain ⟨k, rfl⟩ : ∃ z, k = z + 1 := ⟨k - 1, by omega⟩
    rw [h]
    simp only [prebendlaw10_RateSets.j0]
    rw [awake_f k (by omega)]
    simp
  by_cases h1 : q = r0
  · rw [if_pos h1]
    by_cases h2 : t < r1
    · rw [show decide (t < r1) = true from decide_eq_true h2]
      exact same (by unfold stp; rw [if_neg (fun h => by have := h.2.1; simp at this; omega)]) 200 r2 (by omega)
    · rw [show decide (t < r1) = false from decide_eq_false h2, show (200 : Nat) = 199 + 1 from rfl]
      simp only [prebendlaw10_RateSets.j0]
      rw [if_neg (by decide)]
      have := sets_loop q t l (by omega) (cur (best q t l)).f2 (code (best q t l)) (cur (stp q t (best q t l) ⟨r0, r1, r2⟩)).f2 (code (stp q t (best q t l) ⟨r0, r1, r2⟩)) r0 r1 r2 l.length 199 0 false (by omega) (by omega)
      rw [show (0 : Int) = ((0 : Nat) : Int) from rfl, this, List.drop_zero]
      have h5 : ltr q t r1 l = true ↔ ∃ r ∈ l, r.f0 = q ∧ r.f1 > r1 ∧ r.f1 ≤ t := by
        unfold ltr
        rw [List.any_eq_true]
        constructor
        · intro ⟨r, hr, h⟩
          exact ⟨r, hr, of_decide_eq_true h⟩
        · intro ⟨r, hr, h⟩
          exact ⟨r, hr, decide_eq_true h⟩
      by_cases h3 : ∃ r ∈ l, r.f0 = q ∧ r.f1 > r1 ∧ r.f1 ≤ t
      · rw [if_pos (by rw [h5.2 h3]; rfl)]
        obtain ⟨r, hr, a1, a2, a3⟩ := h3
        have hs : stp q t (best q t l) ⟨r0, r1, r2⟩ = best q t l := by
          unfold stp
          rw [if_neg]
          intro h
          cases hb : best q t l with
          | none => exact n1 hb r hr ⟨a1, a3⟩
          | some b =>
            have := (n2 b hb).2.2.2 r hr a1 a3
            have h4 := h.2.2 b hb
            simp at h4
            omega
        rw [hs]
        simp
      · rw [if_neg (by rw [Bool.false_or]; exact fun h => h3 (h5.1 h))]
        have hs : stp q t (best q t l) ⟨r0, r1, r2⟩ = some ⟨r0, r1, r2⟩ := by
          unfold stp
          rw [if_pos]
          refine ⟨h1.symm, by simp; omega, fun b hb => ?_⟩
          obtain ⟨b1, b2, b3, _⟩ := n2 b hb
          apply Int.not_lt.1
          intro hlt
          exact h3 ⟨b, b1, b2, hlt, b3⟩
        rw [hs]
        simp [cur, code]
  · rw [if_neg h1]
    exact same (by unfold stp; rw [if_neg (fun h => h1 h.1.symm)]) 200 r2 (by omega)

end Go.Proofs.Ytpppicehpadcbaa.Pure
