/-
  RatePrices: rate.Price and rate.Good answer as the document says, for any rates (the statement looks at 40 of them at most), any class and tick.
-/
import Derived.Test.YtpppicehpadcbaaQRatePricesx2
namespace Go.Proofs.Ytpppicehpadcbaa.Pure
open Go.RowKit Go.Proofs.Ytpppicehpadcbaa.QRatePrices Go.Proofs.YtpppicehpadcbaaW.PrintWords Go.Proofs.YtpppicehpadcbaaW.PrintLast

theorem wrap_up {i : Int} {n : Nat} (h0 : 0 ≤ i) (h : i < (n : Int)) (hn : n * 24 ≤ 140737488351232) : wrap64 (i + 1) = i + 1 := by
  unfold wrap64
  omega
theorem i64_of (a : Int) (h : (Lit.int .i64 a).wf = true) : -9223372036854775808 ≤ a ∧ a < 9223372036854775808 := by
  simp only [Lit.wf, IntKind.min, IntKind.max, IntKind.signed, IntKind.bits, Bool.and_eq_true] at h
  simp at h
  omega
theorem rd_nat {l : List S40} {j : Nat} (h : j < l.length) : rd_T40 l (j : Int) = l[j] := by
  unfold rd_T40
  rw [Int.toNat_natCast, List.getD_eq_getElem?_getD, List.getElem?_eq_getElem h]
  rfl

/-- One rate more: does it become the best one? -/
def stp (q t : Int) (s : Option S40) (r : S40) : Option S40 :=
  if r.f0 = q ∧ r.f1 ≤ t ∧ (∀ b, s = some b → b.f1 ≤ r.f1) then some r else s
def best (q t : Int) (l : List S40) : Option S40 := l.foldl (stp q t) none
def code (s : Option S40) : Int := match s with | none => 12 | some _ => 0
def cur (s : Option S40) : S40 := match s with | none => ⟨0, 0, 0⟩ | some b => b
theorem best_snoc (q t : Int) (l : List S40) (r : S40) : best q t (l ++ [r]) = stp q t (best q t l) r := by
  unfold best; rw [List.foldl_append]; rfl

theorem price_loop (q t : Int) (l : List S40) (hl : l.length * 24 ≤ 140737488351232) (d : Nat) : ∀ (k i : Nat) (s : Option S40), i + d = l.length → d < k →
    rate_Price.l0 k q t (code s) l (l.length : Int) (i : Int) (cur s).f0 (cur s).f1 (cur s).f2 = some ((cur ((l.drop i).foldl (stp q t) s)).f2, code ((l.drop i).foldl (stp q t) s)) := by
  induction d with
  | zero =>
    intro k i s hi hk
    obtain ⟨k, rfl⟩ : ∃ z, k = z + 1 := ⟨k - 1, by omega⟩
    simp only [rate_Price.l0]
    rw [if_neg (by omega), List.drop_of_length_le (by omega)]
    rfl
  | succ d ih =>
    intro k i s hi hk
    obtain ⟨k, rfl⟩ : ∃ z, k = z + 1 := ⟨k - 1, by omega⟩
    have hlt : i < l.length := by omega
    rw [List.drop_eq_getElem_cons hlt, List.foldl_cons]
    simp only [rate_Price.l0]
    rw [if_pos (by omega), if_pos (by omega), if_pos (by omega), wrap_up (n := l.length) (by omega) (by omega) hl, rd_nat hlt]
    have e1 : ((i : Int) + 1) = ((i + 1 : Nat) : Int) := by omega
    rw [e1]
    have yes : stp q t s l[i] = some l[i] → rate_Price.l0 k q t 0 l (l.length : Int) ((i + 1 : Nat) : Int) l[i].f0 l[i].f1 l[i].f2 = some ((cur ((l.drop (i + 1)).foldl (stp q t) (stp q t s l[i]))).f2, code ((l.drop (i + 1)).foldl (stp q t) (stp q t s l[i]))) := by
      intro h
      rw [h]
      exact ih k (i + 1) (some l[i]) (by omega) (by omega)
    have no : stp q t s l[i] = s → rate_Price.l0 k q t (code s) l (l.length : Int) ((i + 1 : Nat) : Int) (cur s).f0 (cur s).f1 (cur s).f2 = some ((cur ((l.drop (i + 1)).foldl (stp q t) (stp q t s l[i]))).f2, code ((l.drop (i + 1)).foldl (stp q t) (stp q t s l[i]))) := by
      intro h
      rw [h]
      exact ih k (i + 1) s (by omega) (by omega)
    by_cases h1 : l[i].f0 = q
    · rw [if_pos h1]
      by_cases h2 : l[i].f1 ≤ t
      · rw [if_pos h2]
        cases s with
        | none =>
          rw [if_neg (by decide)]
          exact yes (by unfold stp; rw [if_pos ⟨h1, h2, fun b hb => by cases hb⟩])
        | some b =>
          rw [if_pos (show code (some b) = 0 from rfl)]
          by_cases h3 : l[i].f1 ≥ b.f1
          · rw [if_pos (show l[i].f1 ≥ (cur (some b)).f1 from h3)]
            exact yes (by unfold stp; rw [if_pos ⟨h1, h2, fun c hc => by cases hc; exact h3⟩])
          · rw [if_neg (show ¬ l[i].f1 ≥ (cur (some b)).f1 from h3)]
            exact no (by unfold stp; rw [if_neg (fun h => h3 (h.2.2 b rfl))])
      · rw [if_neg h2]
        exact no (by unfold stp; rw [if_neg (fun h => h2 h.2.1)])
    · rw [if_neg h1]
      exact no (by unfold stp; rw [if_neg (fun h => h1 h.1)])
theorem price_f (q t : Int) (l : List S40) (hl : l.length * 24 ≤ 140737488351232) (k : Nat) (hk : l.length < k) :
    rate_Price.f k l q t = some ((cur (best q t l)).f2, code (best q t l)) := by
  have := price_loop q t l hl l.length k 0 none (by omega) hk
  exact this
theorem awake_f (k : Nat) (hk : 50 ≤ k) : prebendlaw10_awake.f k = some true :=
  at_rounds prebendlaw10_awake.mono (k := 50) hk (by decide +kernel)
theorem few_f (l : List S40) : prebendlaw10_few.f l = some (l.take 40) := by
  unfold prebendlaw10_few.f
  by_cases h : (l.length : Int) > 40
  · rw [if_pos h, if_pos (by omega)]
  · rw [if_neg h, List.take_of_length_le (by omega)]
/-- What the best one is. -/
theorem best_is (q t : Int) (l : List S40) : (best q t l = none → ∀ r ∈ l, ¬ (r.f0 = q ∧ r.f1 ≤ t)) ∧
    ∀ b, best q t l = some b → b ∈ l ∧ b.f0 = q ∧ b.f1 ≤ t ∧ ∀ r ∈ l, r.f0 = q → r.f1 ≤ t → r.f1 ≤ b.f1 := by
  obtain ⟨n, hn⟩ : ∃ n, l.length = n := ⟨_, rfl⟩
  induction n generalizing l with
  | zero =>
    obtain rfl := List.eq_nil_of_length_eq_zero hn
    exact ⟨fun _ r hr => absurd hr List.not_mem_nil, fun b hb => by simp [best] at hb⟩
  | succ n ih =>
    obtain ⟨l', r, rfl⟩ : ∃ l' r, l = l' ++ [r] := ⟨l.dropLast, l.getLast (by intro h; simp [h] at hn), (List.dropLast_concat_getLast _).symm⟩
    obtain ⟨i1, i2⟩ := ih l' (by simpa using hn)
    rw [best_snoc]
    unfold stp
    split
    next h =>
      refine ⟨fun e => (by cases e), fun b hb => ?_⟩
      cases hb
      refine ⟨by simp, h.1, h.2.1, fun r' hr' h1 h2 => ?_⟩
      rcases List.mem_append.1 hr' with hm | hm
      · cases hb : best q t l' with
        | none => exact absurd ⟨h1, h2⟩ (i1 hb r' hm)
        | some c =>
          have := (i2 c hb).2.2.2 r' hm h1 h2
          have := h.2.2 c hb
          omega
      · rw [List.mem_singleton.1 hm]; exact Int.le_refl _
    next h =>
      refine ⟨fun e r' hr' hc => ?_, fun b hb => ?_⟩
      · rcases List.mem_append.1 hr' with hm | hm
        · exact i1 e r' hm hc
        · rw [List.mem_singleton.1 hm] at hc
          exact h ⟨hc.1, hc.2, fun b hb => by rw [e] at hb; cases hb⟩
      · obtain ⟨b1, b2, b3, b4⟩ := i2 b hb
        refine ⟨by simp [b1], b2, b3, fun r' hr' h1 h2 => ?_⟩
        rcases List.mem_append.1 hr' with hm | hm
        · exact b4 r' hm h1 h2
        · rw [List.mem_singleton.1 hm] at h1 h2 ⊢
          apply Int.not_lt.1
          intro hlt
          exact h ⟨h1, h2, fun c hc => by rw [hb] at hc; cases hc; omega⟩

/-- Among all, none begins later. -/
def top (q t : Int) (l : List S40) (r : S40) : Prop := r.f0 = q ∧ r.f1 ≤ t ∧ ∀ r' ∈ l, r'.f0 = q → r'.f1 ≤ t → r'.f1 ≤ r.f1
/-- Where the best one lies: nobody behind it is as good. -/
theorem best_at (q t : Int) (l : List S40) (b : S40) (hb : best q t l = some b) : ∃ i, ∃ h : i < l.length, l[i] = b ∧ top q t l b ∧ ∀ j, i < j → ∀ hj : j < l.length, ¬ top q t l l[j] := by
  obtain ⟨n, hn⟩ : ∃ n, l.length = n := ⟨_, rfl⟩
  induction n generalizing l with
  | zero =>
    obtain rfl := List.eq_nil_of_length_eq_zero hn
    simp [best] at hb
  | succ n ih =>
    have tb : top q t l b := by
      obtain ⟨_, b2, b3, b4⟩ := (best_is q t l).2 b hb
      exact ⟨b2, b3, b4⟩
    obtain ⟨l', r, rfl⟩ : ∃ l' r, l = l' ++ [r] := ⟨l.dropLast, l.getLast (by intro h; simp [h] at hn), (List.dropLast_concat_getLast _).symm⟩
    have hb' := hb
    rw [best_snoc] at hb
    have hn' : l'.length = n := by simpa using hn
    unfold stp at hb
    split at hb
    next h =>
      cases hb
      refine ⟨n, by rw [hn]; omega, by rw [List.getElem_append_right (by omega)]; simp [hn'], tb, fun j hj hj2 => by omega⟩
    next h =>
      obtain ⟨i, hi, e, t1, t2⟩ := ih l' hb hn'
      refine ⟨i, by rw [hn]; omega, by rw [List.getElem_append_left hi]; exact e, tb, fun j hj hj2 => ?_⟩
      by_cases hjn : j < l'.length
      · rw [List.getElem_append_left hjn]
        intro ht
        exact t2 j hj hjn ⟨ht.1, ht.2.1, fun r' hr' => ht.2.2 r' (List.mem_append_left _ hr')⟩
      · have e2 : (l' ++ [r])[j] = r := by
          rw [List.getElem_append_right (by omega)]
          have : j - l'.length = 0 := by omega
          simp [this]
        rw [e2]
        intro ht
        exact h ⟨ht.1, ht.2.1, fun c hc => by
          rw [hb] at hc; cases hc
          exact ht.2.2 b (List.mem_append_left _ (by rw [← e]; exact List.getElem_mem _)) tb.1 tb.2.1⟩
def chk (q t : Int) (l : List S40) (r : S40) : Bool := l.all fun r' => !(decide (r'.f0 = q ∧ r'.f1 ≤ t ∧ r'.f1 > r.f1))
theorem chk_iff (q t : Int) (l : List S40) (r : S40) : chk q t l r = true ↔ ∀ r' ∈ l, r'.f0 = q → r'.f1 ≤ t → r'.f1 ≤ r.f1 := by
  unfold chk
  rw [List.all_eq_true]
  constructor
  · intro h r' hr' h1 h2
    have := h r' hr'
    simp [h1, h2] at this
    exact this
  · intro h r' hr'
    have h3 : ¬ (r'.f0 = q ∧ r'.f1 ≤ t ∧ r'.f1 > r.f1) := by
      intro h4
      have := h r' hr' h4.1 h4.2.1
      omega
    rw [decide_eq_false h3]
    rfl
/-- The inner loop. -/
theorem ref_inner (q t : Int) (l : List S40) (hl : l.length ≤ 40) (x8 : Int) (r : S40) (d : Nat) : ∀ (k i : Nat) (b : Bool), i + d = l.length → 2 * d + 2 ≤ k →
    ∃ k', k ≤ k' + 2 * d + 2 ∧ k' ≤ k ∧ prebendref10_Price.l1 k l q t x8 b (i : Int) r.f0 r.f1 r.f2 =
      (if (b && chk q t (l.drop i) r) = true then some (r.f2, 0) else prebendref10_Price.l0 k' l q t (wrap64 (x8 - 1))) := by
  induction d with
  | zero =>
    intro k i b hi hk
    obtain ⟨k, rfl⟩ : ∃ z, k = z + 2 := ⟨k - 2, by omega⟩
    refine ⟨k, by omega, by omega, ?_⟩
    simp only [prebendref10_Price.l1]
    rw [if_neg (by omega), List.drop_of_length_le (by omega)]
    simp only [prebendref10_Price.j3]
    cases b <;> simp [chk]
  | succ d ih =>
    intro k i b hi hk
    obtain ⟨k, rfl⟩ : ∃ z, k = z + 2 := ⟨k - 2, by omega⟩
    have hlt : i < l.length := by omega
    rw [List.drop_eq_getElem_cons hlt]
    simp only [prebendref10_Price.l1]
    rw [if_pos (by omega)]
    simp only [prebendref10_Price.j3]
    cases b with
    | false =>
      refine ⟨k, by omega, by omega, ?_⟩
      simp
    | true =>
      rw [if_pos rfl, if_pos (by omega), if_pos (by omega), rd_nat hlt, wrap_up (n := l.length) (by omega) (by omega) (by omega), show ((i : Int) + 1) = ((i + 1 : Nat) : Int) by omega]
      by_cases h : l[i].f0 = q ∧ l[i].f1 ≤ t ∧ l[i].f1 > r.f1
      · rw [if_pos h.1, if_pos h.2.1, if_pos h.2.2]
        obtain ⟨k', a1, a2, a3⟩ := ih k (i + 1) false (by omega) (by omega)
        refine ⟨k', by omega, by omega, ?_⟩
        rw [a3]
        have : chk q t (l[i] :: l.drop (i + 1)) r = false := by unfold chk; rw [List.all_cons, decide_eq_true h]; rfl
        rw [this]
        simp
      · obtain ⟨k', a1, a2, a3⟩ := ih k (i + 1) true (by omega) (by omega)
        refine ⟨k', by omega, by omega, ?_⟩
        have : chk q t (l[i] :: l.drop (i + 1)) r = chk q t (l.drop (i + 1)) r := by unfold chk; rw [List.all_cons, decide_eq_false h]; rfl
        rw [this, ← a3]
        by_cases h1 : l[i].f0 = q
        · rw [if_pos h1]
          by_cases h2 : l[i].f1 ≤ t
          · rw [if_pos h2, if_neg (fun h3 => h ⟨h1, h2, h3⟩)]
          · rw [if_neg h2]
        · rw [if_neg h1]
theorem ref_outer (q t : Int) (l : List S40) (hl : l.length ≤ 40) (n : Nat) : ∀ (k : Nat), n ≤ l.length → n * 100 + 1 ≤ k → (∀ j, n ≤ j → ∀ hj : j < l.length, ¬ top q t l l[j]) →
    prebendref10_Price.l0 k l q t ((n : Int) - 1) = some ((cur (best q t l)).f2, code (best q t l)) := by
  induction n with
  | zero =>
    intro k hn hk hj
    obtain ⟨k, rfl⟩ : ∃ z, k = z + 1 := ⟨k - 1, by omega⟩
    simp only [prebendref10_Price.l0]
    rw [if_neg (by omega)]
    cases hb : best q t l with
    | none => rfl
    | some b =>
      obtain ⟨i, hi, e, t1, _⟩ := best_at q t l b hb
      rw [← e] at t1
      exact absurd t1 (hj i (by omega) hi)
  | succ n ih =>
    intro k hn hk hj
    obtain ⟨k, rfl⟩ : ∃ z, k = z + 2 := ⟨k - 2, by omega⟩
    have hlt : n < l.length := by omega
    simp only [prebendref10_Price.l0]
    have e1 : (((n + 1 : Nat) : Int) - 1) = (n : Int) := by omega
    rw [e1, if_pos (by omega), if_pos (by omega), if_pos (by omega), rd_nat hlt]
    have key : ∀ b : Bool, (b = true ↔ l[n].f0 = q ∧ l[n].f1 ≤ t) → prebendref10_Price.j1 (k + 1) l q t (n : Int) b l[n].f0 l[n].f1 l[n].f2 = some ((cur (best q t l)).f2, code (best q t l)) := by
      intro b hbb
      simp only [prebendref10_Price.j1]
      obtain ⟨k', a1, a2, a3⟩ := ref_inner q t l hl (n : Int) l[n] l.length k 0 b (by omega) (by omega)
      rw [show (0 : Int) = ((0 : Nat) : Int) from rfl, a3, List.drop_zero]
      by_cases h' : (b && chk q t l l[n]) = true
      · rw [if_pos h']
        have h : b = true ∧ ∀ r' ∈ l, r'.f0 = q → r'.f1 ≤ t → r'.f1 ≤ l[n].f1 := by
          rw [Bool.and_eq_true, chk_iff] at h'
          exact h'
        have tn : top q t l l[n] := ⟨(hbb.1 h.1).1, (hbb.1 h.1).2, h.2⟩
        cases hb : best q t l with
        | none => exact absurd ⟨tn.1, tn.2.1⟩ ((best_is q t l).1 hb l[n] (List.getElem_mem _))
        | some c =>
          obtain ⟨i, hi, e, t1, t2⟩ := best_at q t l c hb
          have hin : i = n := by
            rcases Nat.lt_trichotomy i n with h5 | h5 | h5
            · exact absurd tn (t2 n h5 hlt)
            · exact h5
            · rw [← e] at t1
              exact absurd t1 (hj i (by omega) hi)
          subst hin
          rw [e]
          rfl
      · rw [if_neg h']
        have h : ¬ (b = true ∧ ∀ r' ∈ l, r'.f0 = q → r'.f1 ≤ t → r'.f1 ≤ l[n].f1) := by
          rw [Bool.and_eq_true, chk_iff] at h'
          exact h'
        have e2 : wrap64 ((n : Int) - 1) = (n : Int) - 1 := by unfold wrap64; omega
        rw [e2]
        refine ih k' (by omega) (by omega) (fun j hj1 hj2 => ?_)
        by_cases hjn : n + 1 ≤ j
        · exact hj j hjn hj2
        · obtain rfl : j = n := by omega
          intro ht
          exact h ⟨hbb.2 ⟨ht.1, ht.2.1⟩, ht.2.2⟩
    by_cases h1 : l[n].f0 = q
    · rw [if_pos h1]
      exact key _ (by simp [h1])
    · rw [if_neg h1]
      exact key _ (by simp [h1])
theorem refprice_f (q t : Int) (l : List S40) (hl : l.length ≤ 40) (k : Nat) (hk : 4100 ≤ k) : prebendref10_Price.f k l q t = some ((cur (best q t l)).f2, code (best q t l)) := by
  unfold prebendref10_Price.f
  rw [show wrap64 ((l.length : Int) - 1) = (l.length : Int) - 1 by unfold wrap64; omega]
  exact ref_outer q t l hl l.length k (Nat.le_refl _) (by omega) (fun j h1 h2 => by omega)
def okr (r : S40) : Bool := decide (0 ≤ r.f0 ∧ r.f0 ≤ 7 ∧ 0 ≤ r.f1 ∧ r.f1 ≤ 1099511627776 ∧ 0 ≤ r.f2 ∧ r.f2 ≤ 1099511627776)
theorem good_loop (l : List S40) (hl : l.length ≤ 40) (d : Nat) : ∀ (k i : Nat), i + d = l.length → d < k →
    rate_Good.l0 k l (l.length : Int) (i : Int) = some ((l.drop i).all okr) := by
  induction d with
  | zero =>
    intro k i hi hk
    obtain ⟨k, rfl⟩ : ∃ z, k = z + 1 := ⟨k - 1, by omega⟩
    simp only [rate_Good.l0]
    rw [if_neg (by omega), List.drop_of_length_le (by omega)]
    rfl
  | succ d ih =>
    intro k i hi hk
    obtain ⟨k, rfl⟩ : ∃ z, k = z + 1 := ⟨k - 1, by omega⟩
    have hlt : i < l.length := by omega
    rw [List.drop_eq_getElem_cons hlt, List.all_cons]
    simp only [rate_Good.l0]
    rw [if_pos (by omega), if_pos (by omega), if_pos (by omega), rd_nat hlt, wrap_up (n := l.length) (by omega) (by omega) (by omega), show ((i : Int) + 1) = ((i + 1 : Nat) : Int) by omega, ih k (i + 1) (by omega) (by omega)]
    generalize l[i] = r
    by_cases h : okr r = true
    · rw [h, Bool.true_and]
      simp only [okr, decide_eq_true_eq] at h
      rw [if_neg (by unfold mn; split <;> split <;> omega), if_neg (by omega), if_neg (by omega), if_neg (by omega)]
    · rw [Bool.eq_false_iff.2 h, Bool.false_and]
      simp only [okr, decide_eq_true_eq] at h
      by_cases h1 : mn (mn r.f0 r.f1) r.f2 < 0
      · rw [if_pos h1]
      · rw [if_neg h1]
        by_cases h2 : r.f0 ≥ 8
        · rw [if_pos h2]
        · rw [if_neg h2]
          by_cases h3 : r.f1 > 1099511627776
          · rw [if_pos h3]
          · rw [if_neg h3]
            rw [if_pos]
            unfold mn at h1
            apply Int.not_le.1
            intro h4
            apply h
            revert h1
            split <;> split <;> omega
theorem good_f (l : List S40) (hl : l.length ≤ 40) (k : Nat) (hk : 50 ≤ k) : rate_Good.f k l = some (decide (l.length ≤ 16) && l.all okr) := by
  unfold rate_Good.f
  by_cases h : (l.length : Int) > 16
  · rw [if_pos h, show decide (l.length ≤ 16) = false from decide_eq_false (by omega)]
    rfl
  · rw [if_neg h, show decide (l.length ≤ 16) = true from decide_eq_true (by omega)]
    exact good_loop l hl l.length k 0 (by omega) (by omega)
theorem refgood_loop (l : List S40) (hl : l.length ≤ 40) (d : Nat) : ∀ (k i : Nat), i + d = l.length → d < k →
    prebendref10_Good.l0 k l (i : Int) = some ((l.drop i).all okr && decide (l.length ≤ 16)) := by
  induction d with
  | zero =>
    intro k i hi hk
    obtain ⟨k, rfl⟩ : ∃ z, k = z + 1 := ⟨k - 1, by omega⟩
    simp only [prebendref10_Good.l0]
    rw [if_neg (by omega), List.drop_of_length_le (by omega)]
    simp
    omega
  | succ d ih =>
    intro k i hi hk
    obtain ⟨k, rfl⟩ : ∃ z, k = z + 1 := ⟨k - 1, by omega⟩
    have hlt : i < l.length := by omega
    rw [List.drop_eq_getElem_cons hlt, List.all_cons]
    simp only [prebendref10_Good.l0]
    rw [if_pos (by omega), if_pos (by omega), rd_nat hlt, wrap_up (n := l.length) (by omega) (by omega) (by omega), show ((i : Int) + 1) = ((i + 1 : Nat) : Int) by omega, ih k (i + 1) (by omega) (by omega)]
    generalize l[i] = r
    by_cases h : okr r = true
    · rw [h, Bool.true_and]
      simp only [okr, decide_eq_true_eq] at h
      rw [if_neg (by omega), if_neg (by omega), if_neg (by omega), if_neg (by omega), if_neg (by omega), if_neg (by omega)]
    · rw [Bool.eq_false_iff.2 h, Bool.false_and]
      simp only [okr, decide_eq_true_eq] at h
      by_cases h1 : r.f0 < 0
      · rw [if_pos h1]; rfl
      rw [if_neg h1]
      by_cases h2 : r.f0 > 7
      · rw [if_pos h2]; rfl
      rw [if_neg h2]
      by_cases h3 : r.f1 < 0
      · rw [if_pos h3]; rfl
      rw [if_neg h3]
      by_cases h4 : r.f1 > 1099511627776
      · rw [if_pos h4]; rfl
      rw [if_neg h4]
      by_cases h5 : r.f2 < 0
      · rw [if_pos h5]; rfl
      rw [if_neg h5, if_pos (by omega)]; rfl
theorem refgood_f (l : List S40) (hl : l.length ≤ 40) (k : Nat) (hk : 50 ≤ k) : prebendref10_Good.f k l = some (decide (l.length ≤ 16) && l.all okr) := by
  have := refgood_loop l hl l.length k 0 (by omega) (by omega)
  rw [List.drop_zero, Bool.and_comm] at this
  exact this
theorem RatePrices : prebendlaw10_RatePrices.Pure := by
  intro l0 q t _ _ _
  refine ⟨5000, ?_⟩
  unfold prebendlaw10_RatePrices.f
  rw [few_f]
  simp only [Option.bind_some]
  have hl : (l0.take 40).length ≤ 40 := by rw [List.length_take]; omega
  generalize l0.take 40 = l at hl
  rw [price_f q t l (by omega) 5000 (by omega), refprice_f q t l hl 5000 (by omega), awake_f 5000 (by omega), good_f l hl 5000 (by omega), refgood_f l hl 5000 (by omega)]
  simp

end Go.Proofs.Ytpppicehpadcbaa.Pure
