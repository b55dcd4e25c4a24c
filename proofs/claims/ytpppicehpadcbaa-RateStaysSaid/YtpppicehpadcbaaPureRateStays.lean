/-
  RateStays: between two ticks at which no rate of a class begins its price does not change. For every input.
-/
import Derived.Test.YtpppicehpadcbaaQRateStaysx1
namespace Go.Proofs.Ytpppicehpadcbaa.Pure
open Go.RowKit Go.Proofs.Ytpppicehpadcbaa.QRateStays Go.Proofs.YtpppicehpadcbaaW.PrintWords Go.Proofs.YtpppicehpadcbaaW.PrintLast

theorem wrap_up {i : Int} {n : Nat} (h0 : 0 ≤ i) (h : i < (n : Int)) (hn : n * 24 ≤ 140737488351232) : wrap64 (i + 1) = i + 1 := by
  unfold wrap64
  omega
theorem i64_of (a : Int) (h : (Lit.int .i64 a).wf = true) : -9223372036854775808 ≤ a ∧ a < 9223372036854775808 := by
  simp only [Lit.wf, IntKind.min, IntKind.max, IntKind.signed, IntKind.bits, Bool.and_eq_true] at h
  simp at h
  omega
theorem rd_nat {l : List S40} {j : Nat} (h : j < l.length) : rd_T40 l (j : Int) = l[j] := by
  unfold rd_T40
  rw [Int.toNat_natCast, List.getD_eq_getElem?_getD, List.getElem?_eq_getElem h]
  rfl

/-- One rate more: does it become the best one? -/
def stp (q t : Int) (s : Option S40) (r : S40) : Option S40 :=
  if r.f0 = q ∧ r.f1 ≤ t ∧ (∀ b, s = some b → b.f1 ≤ r.f1) then some r else s
def best (q t : Int) (l : List S40) : Option S40 := l.foldl (stp q t) none
def code (s : Option S40) : Int := match s with | none => 12 | some _ => 0
def cur (s : Option S40) : S40 := match s with | none => ⟨0, 0, 0⟩ | some b => b
theorem best_snoc (q t : Int) (l : List S40) (r : S40) : best q t (l ++ [r]) = stp q t (best q t l) r := by
  unfold best; rw [List.foldl_append]; rfl

theorem price_loop (q t : Int) (l : List S40) (hl : l.length * 24 ≤ 140737488351232) (d : Nat) : ∀ (k i : Nat) (s : Option S40), i + d = l.length → d < k →
    rate_Price.l0 k q t (code s) l (l.length : Int) (i : Int) (cur s).f0 (cur s).f1 (cur s).f2 = some ((cur ((l.drop i).foldl (stp q t) s)).f2, code ((l.drop i).foldl (stp q t) s)) := by
  induction d with
  | zero =>
    intro k i s hi hk
    obtain ⟨k, rfl⟩ : ∃ z, k = z + 1 := ⟨k - 1, by omega⟩
    simp only [rate_Price.l0]
    rw [if_neg (by omega), List.drop_of_length_le (by omega)]
    rfl
  | succ d ih =>
    intro k i s hi hk
    obtain ⟨k, rfl⟩ : ∃ z, k = z + 1 := ⟨k - 1, by omega⟩
    have hlt : i < l.length := by omega
    rw [List.drop_eq_getElem_cons hlt, List.foldl_cons]
    simp only [rate_Price.l0]
    rw [if_pos (by omega), if_pos (by omega), if_pos (by omega), wrap_up (n := l.length) (by omega) (by omega) hl, rd_nat hlt]
    have e1 : ((i : Int) + 1) = ((i + 1 : Nat) : Int) := by omega
    rw [e1]
    have yes : stp q t s l[i] = some l[i] → rate_Price.l0 k q t 0 l (l.length : Int) ((i + 1 : Nat) : Int) l[i].f0 l[i].f1 l[i].f2 = some ((cur ((l.drop (i + 1)).foldl (stp q t) (stp q t s l[i]))).f2, code ((l.drop (i + 1)).foldl (stp q t) (stp q t s l[i]))) := by
      intro h
      rw [h]
      exact ih k (i + 1) (some l[i]) (by omega) (by omega)
    have no : stp q t s l[i] = s → rate_Price.l0 k q t (code s) l (l.length : Int) ((i + 1 : Nat) : Int) (cur s).f0 (cur s).f1 (cur s).f2 = some ((cur ((l.drop (i + 1)).foldl (stp q t) (stp q t s l[i]))).f2, code ((l.drop (i + 1)).foldl (stp q t) (stp q t s l[i]))) := by
      intro h
      rw [h]
      exact ih k (i + 1) s (by omega) (by omega)
    by_cases h1 : l[i].f0 = q
    · rw [if_pos h1]
      by_cases h2 : l[i].f1 ≤ t
      · rw [if_pos h2]
        cases s with
        | none =>
          rw [if_neg (by decide)]
          exact yes (by unfold stp; rw [if_pos ⟨h1, h2, fun b hb => by cases hb⟩])
        | some b =>
          rw [if_pos (show code (some b) = 0 from rfl)]
          by_cases h3 : l[i].f1 ≥ b.f1
          · rw [if_pos (show l[i].f1 ≥ (cur (some b)).f1 from h3)]
            exact yes (by unfold stp; rw [if_pos ⟨h1, h2, fun c hc => by cases hc; exact h3⟩])
          · rw [if_neg (show ¬ l[i].f1 ≥ (cur (some b)).f1 from h3)]
            exact no (by unfold stp; rw [if_neg (fun h => h3 (h.2.2 b rfl))])
      · rw [if_neg h2]
        exact no (by unfold stp; rw [if_neg (fun h => h2 h.2.1)])
    · rw [if_neg h1]
      exact no (by unfold stp; rw [if_neg (fun h => h1 h.1)])
theorem price_f (q t : Int) (l : List S40) (hl : l.length * 24 ≤ 140737488351232) (k : Nat) (hk : l.length < k) :
    rate_Price.f k l q t = some ((cur (best q t l)).f2, code (best q t l)) := by
  have := price_loop q t l hl l.length k 0 none (by omega) hk
  exact this
theorem awake_f (k : Nat) (hk : 50 ≤ k) : prebendlaw10_awake.f k = some true :=
  at_rounds prebendlaw10_awake.mono (k := 50) hk (by decide +kernel)
theorem few_f (l : List S40) : prebendlaw10_few.f l = some (l.take 40) := by
  unfold prebendlaw10_few.f
  by_cases h : (l.length : Int) > 40
  · rw [if_pos h, if_pos (by omega)]
  · rw [if_neg h, List.take_of_length_le (by omega)]
/-- What the best one is. -/
theorem best_is (q t : Int) (l : List S40) : (best q t l = none → ∀ r ∈ l, ¬ (r.f0 = q ∧ r.f1 ≤ t)) ∧
    ∀ b, best q t l = some b → b ∈ l ∧ b.f0 = q ∧ b.f1 ≤ t ∧ ∀ r ∈ l, r.f0 = q → r.f1 ≤ t → r.f1 ≤ b.f1 := by
  obtain ⟨n, hn⟩ : ∃ n, l.length = n := ⟨_, rfl⟩
  induction n generalizing l with
  | zero =>
    obtain rfl := List.eq_nil_of_length_eq_zero hn
    exact ⟨fun _ r hr => absurd hr List.not_mem_nil, fun b hb => by simp [best] at hb⟩
  | succ n ih =>
    obtain ⟨l', r, rfl⟩ : ∃ l' r, l = l' ++ [r] := ⟨l.dropLast, l.getLast (by intro h; simp [h] at hn), (List.dropLast_concat_getLast _).symm⟩
    obtain ⟨i1, i2⟩ := ih l' (by simpa using hn)
    rw [best_snoc]
    unfold stp
    split
    next h =>
      refine ⟨fun e => (by cases e), fun b hb => ?_⟩
      cases hb
      refine ⟨by simp, h.1, h.2.1, fun r' hr' h1 h2 => ?_⟩
      rcases List.mem_append.1 hr' with hm | hm
      · cases hb : best q t l' with
        | none => exact absurd ⟨h1, h2⟩ (i1 hb r' hm)
        | some c =>
          have := (i2 c hb).2.2.2 r' hm h1 h2
          have := h.2.2 c hb
          omega
      · rw [List.mem_singleton.1 hm]; exact Int.le_refl _
    next h =>
      refine ⟨fun e r' hr' hc => ?_, fun b hb => ?_⟩
      · rcases List.mem_append.1 hr' with hm | hm
        · exact i1 e r' hm hc
        · rw [List.mem_singleton.1 hm] at hc
          exact h ⟨hc.1, hc.2, fun b hb => by rw [e] at hb; cases hb⟩
      · obtain ⟨b1, b2, b3, b4⟩ := i2 b hb
        refine ⟨by simp [b1], b2, b3, fun r' hr' h1 h2 => ?_⟩
        rcases List.mem_append.1 hr' with hm | hm
        · exact b4 r' hm h1 h2
        · rw [List.mem_singleton.1 hm] at h1 h2 ⊢
          apply Int.not_lt.1
          intro hlt
          exact h ⟨h1, h2, fun c hc => by rw [hb] at hc; cases hc; omega⟩

theorem u16_of (a : Int) (h : (Lit.int .u16 a).wf = true) : 0 ≤ a ∧ a < 65536 := by
  simp only [Lit.wf, IntKind.min, IntKind.max, IntKind.signed, IntKind.bits, Bool.and_eq_true] at h
  simp at h
  omega
theorem u8_of (a : Int) (h : (Lit.int .u8 a).wf = true) : 0 ≤ a ∧ a < 256 := by
  simp only [Lit.wf, IntKind.min, IntKind.max, IntKind.signed, IntKind.bits, Bool.and_eq_true] at h
  simp at h
  omega
theorem best_same (q t u : Int) (l : List S40) (h : ∀ r ∈ l, r.f0 = q → (r.f1 ≤ t ↔ r.f1 ≤ u)) : best q t l = best q u l := by
  have aux : ∀ s, l.foldl (stp q t) s = l.foldl (stp q u) s := by
    induction l with
    | nil => intro s; rfl
    | cons r l ih =>
      intro s
      rw [List.foldl_cons, List.foldl_cons]
      have e : stp q t s r = stp q u s r := by
        unfold stp
        by_cases h1 : r.f0 = q
        · simp only [h r (List.mem_cons_self) h1]
        · rw [if_neg (fun h2 => h1 h2.1), if_neg (fun h2 => h1 h2.1)]
      rw [e]
      exact ih (fun r' hr' => h r' (List.mem_cons_of_mem _ hr')) _
  exact aux none
theorem stays_loop (q t n : Int) (ht : 0 ≤ t) (ht2 : t < 65536) (hn : 0 ≤ n) (hn2 : n < 256) (l : List S40) (hl : l.length ≤ 40) (d : Nat) : ∀ (k i : Nat), i + d = l.length → d + 60 < k → (∀ j, j < i → ∀ h : j < l.length, ¬ (l[j].f0 = q ∧ l[j].f1 > t ∧ l[j].f1 ≤ t + n)) →
    prebendlaw10_RateStays.l0 k q t n l (cur (best q t l)).f2 (code (best q t l)) (i : Int) = some true := by
  have e0 : wrap64 t = t := by unfold wrap64; omega
  have e2 : wrap64 n = n := by unfold wrap64; omega
  have e3 : wrap64 (t + n) = t + n := by unfold wrap64; omega
  induction d with
  | zero =>
    intro k i hi hk hj
    obtain ⟨k, rfl⟩ : ∃ z, k = z + 1 := ⟨k - 1, by omega⟩
    simp only [prebendlaw10_RateStays.l0]
    rw [if_neg (by omega), e0, e2, e3, price_f q (t + n) l (by omega) k (by omega), awake_f k (by omega)]
    simp only [Option.bind_some, if_true]
    rw [best_same q t (t + n) l]
    · simp
    · intro r hr h1
      obtain ⟨j, hj1, rfl⟩ := List.getElem_of_mem hr
      have := hj j (by omega) hj1
      constructor
      · intro h2; omega
      · intro h2
        apply Int.not_lt.1
        intro h3
        exact this ⟨h1, h3, h2⟩
  | succ d ih =>
    intro k i hi hk hj
    obtain ⟨k, rfl⟩ : ∃ z, k = z + 1 := ⟨k - 1, by omega⟩
    have hlt : i < l.length := by omega
    simp only [prebendlaw10_RateStays.l0]
    rw [if_pos (by omega), if_pos (by omega), wrap_up (n := l.length) (by omega) (by omega) (by omega), rd_nat hlt, e0, e2, e3]
    have e1 : ((i : Int) + 1) = ((i + 1 : Nat) : Int) := by omega
    rw [e1]
    have on : ¬ (l[i].f0 = q ∧ l[i].f1 > t ∧ l[i].f1 ≤ t + n) → prebendlaw10_RateStays.l0 k q t n l (cur (best q t l)).f2 (code (best q t l)) ((i + 1 : Nat) : Int) = some true := by
      intro h
      refine ih k (i + 1) (by omega) (by omega) (fun j hj1 hj2 => ?_)
      by_cases hji : j < i
      · exact hj j hji hj2
      · obtain rfl : j = i := by omega
        exact h
    by_cases h1 : l[i].f0 = q
    · rw [if_pos h1]
      by_cases h2 : l[i].f1 > t
      · rw [if_pos h2]
        by_cases h3 : l[i].f1 ≤ t + n
        · rw [if_pos h3, awake_f k (by omega)]
          rfl
        · rw [if_neg h3]
          exact on (fun h => h3 h.2.2)
      · rw [if_neg h2]
        exact on (fun h => h2 h.2.1)
    · rw [if_neg h1]
      exact on (fun h => h1 h.1)
theorem RateStays : prebendlaw10_RateStays.Pure := by
  intro l0 q t n _ _ w2 w3
  obtain ⟨t0, t1⟩ := u16_of t w2
  obtain ⟨n0, n1⟩ := u8_of n w3
  refine ⟨200, ?_⟩
  unfold prebendlaw10_RateStays.f
  rw [few_f]
  simp only [Option.bind_some]
  have hl : (l0.take 40).length ≤ 40 := by rw [List.length_take]; omega
  generalize l0.take 40 = l at hl
  rw [show wrap64 t = t by unfold wrap64; omega, price_f q t l (by omega) 200 (by omega)]
  simp only [Option.bind_some]
  exact stays_loop q t n t0 t1 n0 n1 l hl l.length 200 0 (by omega) (by omega) (fun j hj => by omega)

end Go.Proofs.Ytpppicehpadcbaa.Pure
