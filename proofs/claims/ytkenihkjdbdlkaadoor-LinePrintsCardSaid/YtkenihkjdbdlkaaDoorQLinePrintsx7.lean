/- Written by a program of this session (wip/tools/mp.sh): functions as Lean functions, with proofs that the calls come to what they say. Lean checks it. -/
import Derived.Test.YtkenihkjdbdlkaaDoorQLinePrintsx0
import Derived.Test.YtkenihkjdbdlkaaDoorQLinePrintsx2
namespace Go.Proofs.YtkenihkjdbdlkaaDoor.QLinePrints
open Go.RowKit Go.Proofs.YtkenihkjdbdlkaaDoorW.PrintWords Go.Proofs.YtkenihkjdbdlkaaDoorW.PrintLast Go.Proofs.YtkenihkjdbdlkaaDoorW.PrintMore
attribute [local go_sem] max2_int min2_int max_two min_two max_three min_three max_four min_four   -- for this text's walks alone
set_option linter.unusedVariables false
set_option linter.unusedSimpArgs false

/-! ### prebendref27_Reply: function 17 -/
def prebendref27_Reply.f (k : Nat) (a0_0 : Int) (a0_1 : Int) (a0_2 : Int) (a0_3 : Int) : Option (ByteArray) := if a0_0 = 0 then (if 2 + 1 ≤ 9223372036854775807 then ((prebendref26_Num.f k a0_1).bind fun t289 => (if ((⟨#[111, 107]⟩ : ByteArray) ++ (⟨#[32]⟩ : ByteArray)).size + t289.size ≤ 9223372036854775807 then (if (((⟨#[111, 107]⟩ : ByteArray) ++ (⟨#[32]⟩ : ByteArray)) ++ t289).size + 1 ≤ 9223372036854775807 then ((prebendref26_Num.f k a0_2).bind fun t290 => (if ((((⟨#[111, 107]⟩ : ByteArray) ++ (⟨#[32]⟩ : ByteArray)) ++ t289) ++ (⟨#[32]⟩ : ByteArray)).size + t290.size ≤ 9223372036854775807 then (if (((((⟨#[111, 107]⟩ : ByteArray) ++ (⟨#[32]⟩ : ByteArray)) ++ t289) ++ (⟨#[32]⟩ : ByteArray)) ++ t290).size + 1 ≤ 9223372036854775807 then ((prebendref26_Num.f k a0_3).bind fun t291 => (if ((((((⟨#[111, 107]⟩ : ByteArray) ++ (⟨#[32]⟩ : ByteArray)) ++ t289) ++ (⟨#[32]⟩ : ByteArray)) ++ t290) ++ (⟨#[32]⟩ : ByteArray)).size + t291.size ≤ 9223372036854775807 then (some (((((((⟨#[111, 107]⟩ : ByteArray) ++ (⟨#[32]⟩ : ByteArray)) ++ t289) ++ (⟨#[32]⟩ : ByteArray)) ++ t290) ++ (⟨#[32]⟩ : ByteArray)) ++ t291)) else (none))) else (none)) else (none))) else (none)) else (none))) else (none)) else ((prebendref26_Num.f k a0_0).bind fun t292 => (if 4 + t292.size ≤ 9223372036854775807 then (if ((⟨#[101, 114, 114, 32]⟩ : ByteArray) ++ t292).size + 1 ≤ 9223372036854775807 then ((prebendref26_Num.f k a0_1).bind fun t293 => (if (((⟨#[101, 114, 114, 32]⟩ : ByteArray) ++ t292) ++ (⟨#[32]⟩ : ByteArray)).size + t293.size ≤ 9223372036854775807 then (if ((((⟨#[101, 114, 114, 32]⟩ : ByteArray) ++ t292) ++ (⟨#[32]⟩ : ByteArray)) ++ t293).size + 1 ≤ 9223372036854775807 then ((prebendref26_Num.f k a0_2).bind fun t294 => (if (((((⟨#[101, 114, 114, 32]⟩ : ByteArray) ++ t292) ++ (⟨#[32]⟩ : ByteArray)) ++ t293) ++ (⟨#[32]⟩ : ByteArray)).size + t294.size ≤ 9223372036854775807 then (if ((((((⟨#[101, 114, 114, 32]⟩ : ByteArray) ++ t292) ++ (⟨#[32]⟩ : ByteArray)) ++ t293) ++ (⟨#[32]⟩ : ByteArray)) ++ t294).size + 1 ≤ 9223372036854775807 then ((prebendref26_Num.f k a0_3).bind fun t295 => (if (((((((⟨#[101, 114, 114, 32]⟩ : ByteArray) ++ t292) ++ (⟨#[32]⟩ : ByteArray)) ++ t293) ++ (⟨#[32]⟩ : ByteArray)) ++ t294) ++ (⟨#[32]⟩ : ByteArray)).size + t295.size ≤ 9223372036854775807 then (some ((((((((⟨#[101, 114, 114, 32]⟩ : ByteArray) ++ t292) ++ (⟨#[32]⟩ : ByteArray)) ++ t293) ++ (⟨#[32]⟩ : ByteArray)) ++ t294) ++ (⟨#[32]⟩ : ByteArray)) ++ t295)) else (none))) else (none)) else (none))) else (none)) else (none))) else (none)) else (none)))
theorem prebendref27_Reply.mono : ∀ a0 a1 a2 a3 k, LeO (prebendref27_Reply.f k a0 a1 a2 a3) (prebendref27_Reply.f (k + 1) a0 a1 a2 a3) := by
  intro a0 a1 a2 a3 k
  unfold prebendref27_Reply.f
  repeat' first
      | (with_reducible exact prebendref26_Num.mono _ _)
      | (with_reducible exact LeO.refl _)
      | (with_reducible exact LeO.none _)
      | (with_reducible refine LeO.ite ?_ ?_)
      | (with_reducible refine LeO.bind ?_ (fun _ => ?_))
      | exact prebendref26_Num.mono _ _
      | exact LeO.none _
      | refine LeO.ite ?_ ?_
      | refine LeO.bind ?_ (fun _ => ?_)
def prebendref27_Reply.T4 : Bool × List (List Nat × List Nat) := (true, [([], []), ([0], [0]), ([], []), ([2], [2]), ([3], [3]), ([1, 4], [1, 4]), ([5], [5]), ([], []), ([7], [7]), ([8, 4], [8]), ([6, 9], [6, 9]), ([10], [10]), ([], []), ([12], [12]), ([13, 9], [13]), ([11, 14], [11, 14]), ([15, 14, 0, 1, 2, 3, 4, 5, 6, 7, 8, 9, 10, 11, 12, 13, 14, 15], [15])])
def prebendref27_Reply.B4 : List Nat := [0, 1, 0, 4, 12, 31, 63, 0, 128, 412, 1023, 2047, 0, 4096, 13212, 32767, 65535]
theorem prebendref27_Reply.tab4 : rtab .any (opsOf Tryd.f17 4) = prebendref27_Reply.T4 := by kernel_rfl
theorem prebendref27_Reply.bits4 : waitsOk prebendref27_Reply.T4.2 prebendref27_Reply.B4 = true := by kernel_rfl
set_option maxHeartbeats 8000000 in
set_option maxRecDepth 100000 in
theorem prebendref27_Reply.calls (k : Nat) (a0_0 : Int) (a0_1 : Int) (a0_2 : Int) (a0_3 : Int) (r : ByteArray) (w : World) (h : prebendref27_Reply.f k a0_0 a0_1 a0_2 a0_3 = some r) :
    Calls Tryd.prog 17 #[.agg #[.int .i64 a0_0, .int .i64 a0_1, .int .i64 a0_2, .int .i64 a0_3]] w fun e w' => e = .returned (.string r) ∧ Below w.heap.size w w' := by
  have hu27 := Tryd.underlying27
  have HB := Aside0.mk (Below.refl w.heap.size w)
  have H : (if a0_0 = 0 then (if 2 + 1 ≤ 9223372036854775807 then ((prebendref26_Num.f k a0_1).bind fun t289 => (if ((⟨#[111, 107]⟩ : ByteArray) ++ (⟨#[32]⟩ : ByteArray)).size + t289.size ≤ 9223372036854775807 then (if (((⟨#[111, 107]⟩ : ByteArray) ++ (⟨#[32]⟩ : ByteArray)) ++ t289).size + 1 ≤ 9223372036854775807 then ((prebendref26_Num.f k a0_2).bind fun t290 => (if ((((⟨#[111, 107]⟩ : ByteArray) ++ (⟨#[32]⟩ : ByteArray)) ++ t289) ++ (⟨#[32]⟩ : ByteArray)).size + t290.size ≤ 9223372036854775807 then (if (((((⟨#[111, 107]⟩ : ByteArray) ++ (⟨#[32]⟩ : ByteArray)) ++ t289) ++ (⟨#[32]⟩ : ByteArray)) ++ t290).size + 1 ≤ 9223372036854775807 then ((prebendref26_Num.f k a0_3).bind fun t291 => (if ((((((⟨#[111, 107]⟩ : ByteArray) ++ (⟨#[32]⟩ : ByteArray)) ++ t289) ++ (⟨#[32]⟩ : ByteArray)) ++ t290) ++ (⟨#[32]⟩ : ByteArray)).size + t291.size ≤ 9223372036854775807 then (some (((((((⟨#[111, 107]⟩ : ByteArray) ++ (⟨#[32]⟩ : ByteArray)) ++ t289) ++ (⟨#[32]⟩ : ByteArray)) ++ t290) ++ (⟨#[32]⟩ : ByteArray)) ++ t291)) else (none))) else (none)) else (none))) else (none)) else (none))) else (none)) else ((prebendref26_Num.f k a0_0).bind fun t292 => (if 4 + t292.size ≤ 9223372036854775807 then (if ((⟨#[101, 114, 114, 32]⟩ : ByteArray) ++ t292).size + 1 ≤ 9223372036854775807 then ((prebendref26_Num.f k a0_1).bind fun t293 => (if (((⟨#[101, 114, 114, 32]⟩ : ByteArray) ++ t292) ++ (⟨#[32]⟩ : ByteArray)).size + t293.size ≤ 9223372036854775807 then (if ((((⟨#[101, 114, 114, 32]⟩ : ByteArray) ++ t292) ++ (⟨#[32]⟩ : ByteArray)) ++ t293).size + 1 ≤ 9223372036854775807 then ((prebendref26_Num.f k a0_2).bind fun t294 => (if (((((⟨#[101, 114, 114, 32]⟩ : ByteArray) ++ t292) ++ (⟨#[32]⟩ : ByteArray)) ++ t293) ++ (⟨#[32]⟩ : ByteArray)).size + t294.size ≤ 9223372036854775807 then (if ((((((⟨#[101, 114, 114, 32]⟩ : ByteArray) ++ t292) ++ (⟨#[32]⟩ : ByteArray)) ++ t293) ++ (⟨#[32]⟩ : ByteArray)) ++ t294).size + 1 ≤ 9223372036854775807 then ((prebendref26_Num.f k a0_3).bind fun t295 => (if (((((((⟨#[101, 114, 114, 32]⟩ : ByteArray) ++ t292) ++ (⟨#[32]⟩ : ByteArray)) ++ t293) ++ (⟨#[32]⟩ : ByteArray)) ++ t294) ++ (⟨#[32]⟩ : ByteArray)).size + t295.size ≤ 9223372036854775807 then (some ((((((((⟨#[101, 114, 114, 32]⟩ : ByteArray) ++ t292) ++ (⟨#[32]⟩ : ByteArray)) ++ t293) ++ (⟨#[32]⟩ : ByteArray)) ++ t294) ++ (⟨#[32]⟩ : ByteArray)) ++ t295)) else (none))) else (none)) else (none))) else (none)) else (none))) else (none)) else (none)))) = some r := h
  clear h
  by_cases c2 : a0_0 = 0
  · rw [if_pos c2] at H
    have c2b0 : (a0_0 == 0) = true := beq_iff_eq.mpr c2
    have c2b1 : (a0_0 != 0) = false := bne_eq_false_iff_eq.mpr c2
    clear c2
    by_cases c3 : 2 + 1 ≤ 9223372036854775807
    · rw [if_pos c3] at H
      have c3b0 := eq_true c3
      have c3b1 : decide (2 + 1 ≤ 9223372036854775807) = true := decide_eq_true c3
      try have c3b2 : (9223372036854775807 < 2 + 1) = False := eq_false (Nat.not_lt.2 c3)
      try have c3b4 : (9223372036854775807 < 3) = False := eq_false (by have h_ := c3; (try simp [ByteArray.size_append, ByteArray.size_extract] at h_); omega)
      replace H := Option.bind_eq_some_iff.mp H
      obtain ⟨t289, A40, H⟩ := H
      replace H : (if ((⟨#[111, 107]⟩ : ByteArray) ++ (⟨#[32]⟩ : ByteArray)).size + t289.size ≤ 9223372036854775807 then (if (((⟨#[111, 107]⟩ : ByteArray) ++ (⟨#[32]⟩ : ByteArray)) ++ t289).size + 1 ≤ 9223372036854775807 then ((prebendref26_Num.f k a0_2).bind fun t290 => (if ((((⟨#[111, 107]⟩ : ByteArray) ++ (⟨#[32]⟩ : ByteArray)) ++ t289) ++ (⟨#[32]⟩ : ByteArray)).size + t290.size ≤ 9223372036854775807 then (if (((((⟨#[111, 107]⟩ : ByteArray) ++ (⟨#[32]⟩ : ByteArray)) ++ t289) ++ (⟨#[32]⟩ : ByteArray)) ++ t290).size + 1 ≤ 9223372036854775807 then ((prebendref26_Num.f k a0_3).bind fun t291 => (if ((((((⟨#[111, 107]⟩ : ByteArray) ++ (⟨#[32]⟩ : ByteArray)) ++ t289) ++ (⟨#[32]⟩ : ByteArray)) ++ t290) ++ (⟨#[32]⟩ : ByteArray)).size + t291.size ≤ 9223372036854775807 then (some (((((((⟨#[111, 107]⟩ : ByteArray) ++ (⟨#[32]⟩ : ByteArray)) ++ t289) ++ (⟨#[32]⟩ : ByteArray)) ++ t290) ++ (⟨#[32]⟩ : ByteArray)) ++ t291)) else (none))) else (none)) else (none))) else (none)) else (none)) = some r := H
      have A4 := Aside0.mk A40
      clear A40
      by_cases c5 : ((⟨#[111, 107]⟩ : ByteArray) ++ (⟨#[32]⟩ : ByteArray)).size + t289.size ≤ 9223372036854775807
      · rw [if_pos c5] at H
        have c5b0 := eq_true c5
        have c5b1 : decide (((⟨#[111, 107]⟩ : ByteArray) ++ (⟨#[32]⟩ : ByteArray)).size + t289.size ≤ 9223372036854775807) = true := decide_eq_true c5
        try have c5b2 : (9223372036854775807 < ((⟨#[111, 107]⟩ : ByteArray) ++ (⟨#[32]⟩ : ByteArray)).size + t289.size) = False := eq_false (Nat.not_lt.2 c5)
        try have c5b3 : (9223372036854775807 < (2 + 1) + t289.size) = False := eq_false (by have h_ := c5; (try simp [ByteArray.size_append, ByteArray.size_extract, show (⟨#[111, 107]⟩ : ByteArray).size = 2 from rfl, show (⟨#[32]⟩ : ByteArray).size = 1 from rfl] at h_); omega)
        try have c5b4 : (9223372036854775807 < 3 + t289.size) = False := eq_false (by have h_ := c5; (try simp [ByteArray.size_append, ByteArray.size_extract, show (⟨#[111, 107]⟩ : ByteArray).size = 2 from rfl, show (⟨#[32]⟩ : ByteArray).size = 1 from rfl] at h_); omega)
        by_cases c6 : (((⟨#[111, 107]⟩ : ByteArray) ++ (⟨#[32]⟩ : ByteArray)) ++ t289).size + 1 ≤ 9223372036854775807
        · rw [if_pos c6] at H
          have c6b0 := eq_true c6
          have c6b1 : decide ((((⟨#[111, 107]⟩ : ByteArray) ++ (⟨#[32]⟩ : ByteArray)) ++ t289).size + 1 ≤ 9223372036854775807) = true := decide_eq_true c6
          try have c6b2 : (9223372036854775807 < (((⟨#[111, 107]⟩ : ByteArray) ++ (⟨#[32]⟩ : ByteArray)) ++ t289).size + 1) = False := eq_false (Nat.not_lt.2 c6)
          try have c6b3 : (9223372036854775807 < ((2 + 1) + t289.size) + 1) = False := eq_false (by have h_ := c6; (try simp [ByteArray.size_append, ByteArray.size_extract, show (⟨#[111, 107]⟩ : ByteArray).size = 2 from rfl, show (⟨#[32]⟩ : ByteArray).size = 1 from rfl] at h_); omega)
          try have c6b4 : (9223372036854775807 < (3 + t289.size) + 1) = False := eq_false (by have h_ := c6; (try simp [ByteArray.size_append, ByteArray.size_extract, show (⟨#[111, 107]⟩ : ByteArray).size = 2 from rfl, show (⟨#[32]⟩ : ByteArray).size = 1 from rfl] at h_); omega)
          replace H := Option.bind_eq_some_iff.mp H
          obtain ⟨t290, A70, H⟩ := H
          replace H : (if ((((⟨#[111, 107]⟩ : ByteArray) ++ (⟨#[32]⟩ : ByteArray)) ++ t289) ++ (⟨#[32]⟩ : ByteArray)).size + t290.size ≤ 9223372036854775807 then (if (((((⟨#[111, 107]⟩ : ByteArray) ++ (⟨#[32]⟩ : ByteArray)) ++ t289) ++ (⟨#[32]⟩ : ByteArray)) ++ t290).size + 1 ≤ 9223372036854775807 then ((prebendref26_Num.f k a0_3).bind fun t291 => (if ((((((⟨#[111, 107]⟩ : ByteArray) ++ (⟨#[32]⟩ : ByteArray)) ++ t289) ++ (⟨#[32]⟩ : ByteArray)) ++ t290) ++ (⟨#[32]⟩ : ByteArray)).size + t291.size ≤ 9223372036854775807 then (some (((((((⟨#[111, 107]⟩ : ByteArray) ++ (⟨#[32]⟩ : ByteArray)) ++ t289) ++ (⟨#[32]⟩ : ByteArray)) ++ t290) ++ (⟨#[32]⟩ : ByteArray)) ++ t291)) else (none))) else (none)) else (none)) = some r := H
          have A7 := Aside0.mk A70
          clear A70
          by_cases c8 : ((((⟨#[111, 107]⟩ : ByteArray) ++ (⟨#[32]⟩ : ByteArray)) ++ t289) ++ (⟨#[32]⟩ : ByteArray)).size + t290.size ≤ 9223372036854775807
          · rw [if_pos c8] at H
            have c8b0 := eq_true c8
            have c8b1 : decide (((((⟨#[111, 107]⟩ : ByteArray) ++ (⟨#[32]⟩ : ByteArray)) ++ t289) ++ (⟨#[32]⟩ : ByteArray)).size + t290.size ≤ 9223372036854775807) = true := decide_eq_true c8
            try have c8b2 : (9223372036854775807 < ((((⟨#[111, 107]⟩ : ByteArray) ++ (⟨#[32]⟩ : ByteArray)) ++ t289) ++ (⟨#[32]⟩ : ByteArray)).size + t290.size) = False := eq_false (Nat.not_lt.2 c8)
            try have c8b3 : (9223372036854775807 < (((2 + 1) + t289.size) + 1) + t290.size) = False := eq_false (by have h_ := c8; (try simp [ByteArray.size_append, ByteArray.size_extract, show (⟨#[111, 107]⟩ : ByteArray).size = 2 from rfl, show (⟨#[32]⟩ : ByteArray).size = 1 from rfl] at h_); omega)
            try have c8b4 : (9223372036854775807 < ((3 + t289.size) + 1) + t290.size) = False := eq_false (by have h_ := c8; (try simp [ByteArray.size_append, ByteArray.size_extract, show (⟨#[111, 107]⟩ : ByteArray).size = 2 from rfl, show (⟨#[32]⟩ : ByteArray).size = 1 from rfl] at h_); omega)
            by_cases c9 : (((((⟨#[111, 107]⟩ : ByteArray) ++ (⟨#[32]⟩ : ByteArray)) ++ t289) ++ (⟨#[32]⟩ : ByteArray)) ++ t290).size + 1 ≤ 9223372036854775807
            · rw [if_pos c9] at H
              have c9b0 := eq_true c9
              have c9b1 : decide ((((((⟨#[111, 107]⟩ : ByteArray) ++ (⟨#[32]⟩ : ByteArray)) ++ t289) ++ (⟨#[32]⟩ : ByteArray)) ++ t290).size + 1 ≤ 9223372036854775807) = true := decide_eq_true c9
              try have c9b2 : (9223372036854775807 < (((((⟨#[111, 107]⟩ : ByteArray) ++ (⟨#[32]⟩ : ByteArray)) ++ t289) ++ (⟨#[32]⟩ : ByteArray)) ++ t290).size + 1) = False := eq_false (Nat.not_lt.2 c9)
              try have c9b3 : (9223372036854775807 < ((((2 + 1) + t289.size) + 1) + t290.size) + 1) = False := eq_false (by have h_ := c9; (try simp [ByteArray.size_append, ByteArray.size_extract, show (⟨#[111, 107]⟩ : ByteArray).size = 2 from rfl, show (⟨#[32]⟩ : ByteArray).size = 1 from rfl] at h_); omega)
              try have c9b4 : (9223372036854775807 < (((3 + t289.size) + 1) + t290.size) + 1) = False := eq_false (by have h_ := c9; (try simp [ByteArray.size_append, ByteArray.size_extract, show (⟨#[111, 107]⟩ : ByteArray).size = 2 from rfl, show (⟨#[32]⟩ : ByteArray).size = 1 from rfl] at h_); omega)
              replace H := Option.bind_eq_some_iff.mp H
              obtain ⟨t291, A100, H⟩ := H
              replace H : (if ((((((⟨#[111, 107]⟩ : ByteArray) ++ (⟨#[32]⟩ : ByteArray)) ++ t289) ++ (⟨#[32]⟩ : ByteArray)) ++ t290) ++ (⟨#[32]⟩ : ByteArray)).size + t291.size ≤ 9223372036854775807 then (some (((((((⟨#[111, 107]⟩ : ByteArray) ++ (⟨#[32]⟩ : ByteArray)) ++ t289) ++ (⟨#[32]⟩ : ByteArray)) ++ t290) ++ (⟨#[32]⟩ : ByteArray)) ++ t291)) else (none)) = some r := H
              have A10 := Aside0.mk A100
              clear A100
              by_cases c11 : ((((((⟨#[111, 107]⟩ : ByteArray) ++ (⟨#[32]⟩ : ByteArray)) ++ t289) ++ (⟨#[32]⟩ : ByteArray)) ++ t290) ++ (⟨#[32]⟩ : ByteArray)).size + t291.size ≤ 9223372036854775807
              · rw [if_pos c11] at H
                have c11b0 := eq_true c11
                have c11b1 : decide (((((((⟨#[111, 107]⟩ : ByteArray) ++ (⟨#[32]⟩ : ByteArray)) ++ t289) ++ (⟨#[32]⟩ : ByteArray)) ++ t290) ++ (⟨#[32]⟩ : ByteArray)).size + t291.size ≤ 9223372036854775807) = true := decide_eq_true c11
                try have c11b2 : (9223372036854775807 < ((((((⟨#[111, 107]⟩ : ByteArray) ++ (⟨#[32]⟩ : ByteArray)) ++ t289) ++ (⟨#[32]⟩ : ByteArray)) ++ t290) ++ (⟨#[32]⟩ : ByteArray)).size + t291.size) = False := eq_false (Nat.not_lt.2 c11)
                try have c11b3 : (9223372036854775807 < (((((2 + 1) + t289.size) + 1) + t290.size) + 1) + t291.size) = False := eq_false (by have h_ := c11; (try simp [ByteArray.size_append, ByteArray.size_extract, show (⟨#[111, 107]⟩ : ByteArray).size = 2 from rfl, show (⟨#[32]⟩ : ByteArray).size = 1 from rfl] at h_); omega)
                try have c11b4 : (9223372036854775807 < ((((3 + t289.size) + 1) + t290.size) + 1) + t291.size) = False := eq_false (by have h_ := c11; (try simp [ByteArray.size_append, ByteArray.size_extract, show (⟨#[111, 107]⟩ : ByteArray).size = 2 from rfl, show (⟨#[32]⟩ : ByteArray).size = 1 from rfl] at h_); omega)
                obtain rfl := Option.some.inj H
                go_enter Tryd.func17, Tryd.ntmps17
                try go_wp2_with (first | ((with_reducible refine gate_dst (N := 1) rfl ?_); refine box_event ?hg (N := 1) ?hd (cs := #[.int .i64 a0_0, .int .i64 a0_1, .int .i64 a0_2, .int .i64 a0_3]) (t := 27) ?hr ?_; (case hd => rfl); (case hg => rfl); (case hr => first | (go_simp; done) | (go_simp; rfl)); intro gb288 hg w12 hbox hb; have n0_ := Aside0.mk (below_step (by repeat (first | (with_reducible first | exact HB.out | apply below_alloc | apply pw_below_drewN | apply below_drew1) | exact HB.out)) hb); have n1_ := Aside0.mk (hbox); have n2_ := Aside0.mk ((by rw [hg]; exact (below_size (by repeat (first | (with_reducible first | exact HB.out | apply below_alloc | apply pw_below_drewN | apply below_drew1) | exact HB.out))) : w.heap.size ≤ gb288)); have n3_ := Aside0.mk ((by rw [hg]; exact (below_size (by repeat (first | (with_reducible first | exact HB.out | apply below_alloc | apply pw_below_drewN | apply below_drew1) | exact HB.out))) : w.heap.size ≤ gb288)); clear HB; have HB := n0_; have BK288 := n1_; have GW288 := n2_; have GE288 := n3_; clear n0_ n1_ n2_ n3_; clear hb hbox hg; have hcz13_0 : w12.cell? ⟨gb288, 0, none⟩ = some (.int .i64 a0_0) := (blk_cell BK288.out 0).trans rfl; have hcz13_1 : w12.cell? ⟨gb288, 1, none⟩ = some (.int .i64 a0_1) := (blk_cell BK288.out 1).trans rfl; have hcz13_2 : w12.cell? ⟨gb288, 2, none⟩ = some (.int .i64 a0_2) := (blk_cell BK288.out 2).trans rfl; have hcz13_3 : w12.cell? ⟨gb288, 3, none⟩ = some (.int .i64 a0_3) := (blk_cell BK288.out 3).trans rfl; have hfz13_0 := blk_frozen BK288.out 0; have hfz13_1 := blk_frozen BK288.out 1; have hfz13_2 := blk_frozen BK288.out 2; have hfz13_3 := blk_frozen BK288.out 3))
                have n0_ := Aside0.mk (blk_drew BK288.out)
                have n1_ := Aside0.mk (below_drew1 HB.out)
                clear BK288
                clear HB
                have BK288 := n0_
                have HB := n1_
                clear n0_ n1_
                refine start_ (n := 17) (S := fun w' => w'.cell? ⟨gb288, 0, none⟩ = some (.int .i64 a0_0) ∧ w'.cell? ⟨gb288, 1, none⟩ = some (.int .i64 a0_1) ∧ w'.cell? ⟨gb288, 2, none⟩ = some (.int .i64 a0_2) ∧ w'.cell? ⟨gb288, 3, none⟩ = some (.int .i64 a0_3)) (ds := []) #[false, false, false, false, false, false, false, false, false, false, false, false, false, false, false, false, false] (by kernel_rfl) rfl rfl ⟨(blk_cell BK288.out 0).trans rfl, (blk_cell BK288.out 1).trans rfl, (blk_cell BK288.out 2).trans rfl, (blk_cell BK288.out 3).trans rfl⟩ (fun hHeld => ?_); refine with_tabW prebendref27_Reply.tab4 prebendref27_Reply.bits4 (fun HT_ HW_ => ?_)
                generalize w12.drew = w14 at BK288 HB hHeld ⊢
                refine pure_ (i := 0) (N := some 11) (v := ?_) (a' := ?_) #[true, false, false, false, false, false, false, false, false, false, false, false, false, false, false, false, false] rfl rfl (any_of HT_.out (by kernel_rfl)) (fun _ _ _ h => h) (Or.inl ⟨by rfl, ?_⟩) ?_ ?_
                rotate_left
                · intro w'
                  go_simp
                  with_reducible rfl
                rotate_left
                · simp only [Act.put, List.setIfInBounds_toArray, List.set_cons_zero, List.set_cons_succ, i64_w, i32_w]
                  rfl
                refine pure_ (i := 1) (N := some 12) (v := ?_) (a' := ?_) #[true, true, false, false, false, false, false, false, false, false, false, false, false, false, false, false, false] rfl rfl (any_of HT_.out (by kernel_rfl)) (fun _ _ _ h => h) (Or.inl ⟨by rfl, ?_⟩) ?_ ?_
                rotate_left
                · intro w'
                  go_simp
                  with_reducible rfl
                rotate_left
                · simp only [Act.put, List.setIfInBounds_toArray, List.set_cons_zero, List.set_cons_succ, i64_w, i32_w]
                  rfl
                refine pure_ (i := 2) (N := some 13) (v := ?_) (a' := ?_) #[true, true, true, false, false, false, false, false, false, false, false, false, false, false, false, false, false] rfl rfl (any_of HT_.out (by kernel_rfl)) (fun _ _ _ h => h) (Or.inl ⟨by rfl, ?_⟩) ?_ ?_
                rotate_left
                · intro w'
                  go_simp
                  with_reducible rfl
                rotate_left
                · simp only [Act.put, List.setIfInBounds_toArray, List.set_cons_zero, List.set_cons_succ, i64_w, i32_w]
                  rfl
                refine pure_ (i := 7) (N := some 18) (v := ?_) (a' := ?_) #[true, true, true, false, false, false, false, true, false, false, false, false, false, false, false, false, false] rfl rfl (any_of HT_.out (by kernel_rfl)) (fun _ _ _ h => h) (Or.inl ⟨by rfl, ?_⟩) ?_ ?_
                rotate_left
                · intro w'
                  go_simp
                  with_reducible rfl
                rotate_left
                · simp only [Act.put, List.setIfInBounds_toArray, List.set_cons_zero, List.set_cons_succ, i64_w, i32_w]
                  rfl
                refine pure_ (i := 12) (N := some 23) (v := ?_) (a' := ?_) #[true, true, true, false, false, false, false, true, false, false, false, false, true, false, false, false, false] rfl rfl (any_of HT_.out (by kernel_rfl)) (fun _ _ _ h => h) (Or.inl ⟨by rfl, ?_⟩) ?_ ?_
                rotate_left
                · intro w'
                  go_simp
                  with_reducible rfl
                rotate_left
                · simp only [Act.put, List.setIfInBounds_toArray, List.set_cons_zero, List.set_cons_succ, i64_w, i32_w]
                  rfl
                refine take_ (i := 3) (N := some 14) (v := ?_) (a' := ?_) #[true, true, true, true, false, false, false, true, false, false, false, false, true, false, false, false, false] rfl rfl (take_ofW HT_.out HW_.out (by kernel_rfl)) (fun _ _ _ h => h) (Or.inl ⟨by rfl, ?_⟩) hHeld ?_ ?_
                rotate_left
                · rintro w' ⟨s0, s1, s2, s3⟩
                  go_simp
                  with_reducible rfl
                rotate_left
                · simp only [Act.put, List.setIfInBounds_toArray, List.set_cons_zero, List.set_cons_succ, i64_w, i32_w]
                  rfl
                refine take_ (i := 8) (N := some 19) (v := ?_) (a' := ?_) #[true, true, true, true, false, false, false, true, true, false, false, false, true, false, false, false, false] rfl rfl (take_ofW HT_.out HW_.out (by kernel_rfl)) (fun _ _ _ h => h) (Or.inl ⟨by rfl, ?_⟩) hHeld ?_ ?_
                rotate_left
                · rintro w' ⟨s0, s1, s2, s3⟩
                  go_simp
                  with_reducible rfl
                rotate_left
                · simp only [Act.put, List.setIfInBounds_toArray, List.set_cons_zero, List.set_cons_succ, i64_w, i32_w]
                  rfl
                refine take_ (i := 13) (N := some 24) (v := ?_) (a' := ?_) #[true, true, true, true, false, false, false, true, true, false, false, false, true, true, false, false, false] rfl rfl (take_ofW HT_.out HW_.out (by kernel_rfl)) (fun _ _ _ h => h) (Or.inl ⟨by rfl, ?_⟩) hHeld ?_ ?_
                rotate_left
                · rintro w' ⟨s0, s1, s2, s3⟩
                  go_simp
                  with_reducible rfl
                rotate_left
                · simp only [Act.put, List.setIfInBounds_toArray, List.set_cons_zero, List.set_cons_succ, i64_w, i32_w]
                  rfl
                refine one_ (i := 4) (N := some 15) #[true, true, true, true, true, false, false, true, true, false, false, false, true, true, false, false, false] rfl rfl (one_of HT_.out (by kernel_rfl)) (by decide) (fun K hK => ?_)
                refine goes_ Tryd.func30 (by kernel_rfl) rfl #[.int .i64 a0_1] (by rfl) rfl rfl (by (try simp only [List.map_toArray, List.map_cons, List.map_nil]); first | done | rfl | (simp only [List.length_drop, List.length_take]; rfl)) ?_
                with_reducible refine (prebendref26_Num.calls k a0_1 t289 _ A4.out).mono ?_
                rintro e w15 ⟨rfl, hb⟩
                refine ⟨_, rfl, ?_⟩
                have n0_ := Aside0.mk (blk_below (g := gb288) (o := .cells #[.int .i64 a0_0, .int .i64 a0_1, .int .i64 a0_2, .int .i64 a0_3] 27 (0, 0)) (by (with_reducible repeat (first | refine blk_drewN ?_ _ | refine blk_drew ?_ | refine blk_alloc ?_ _)); exact BK288.out) hb)
                have n1_ := Aside0.mk (below_step (by repeat (first | (with_reducible first | exact HB.out | apply below_alloc | apply pw_below_drewN | apply below_drew1 | refine below_set ?_ GE288.out) | exact HB.out)) hb)
                clear BK288
                clear HB
                have BK288 := n0_
                have HB := n1_
                clear n0_ n1_
                (try clear hb)
                (try clear hb2)
                (try clear hk)
                (try clear hi)
                refine hK.out _ _ ⟨(blk_cell BK288.out 0).trans rfl, (blk_cell BK288.out 1).trans rfl, (blk_cell BK288.out 2).trans rfl, (blk_cell BK288.out 3).trans rfl⟩ (fun hHeld => ?_)
                clear hK K
                refine norm_ (a' := ?_) ?_ ?_
                rotate_left
                · show Act.put _ (some 15) _ = _
                  simp only [Act.put, List.setIfInBounds_toArray, List.set_cons_zero, List.set_cons_succ, i64_w, i32_w]
                  rfl
                refine pure_ (i := 5) (N := some 16) (v := ?_) (a' := ?_) #[true, true, true, true, true, true, false, true, true, false, false, false, true, true, false, false, false] rfl rfl (any_of HT_.out (by kernel_rfl)) (fun _ _ _ h => h) (Or.inl ⟨by rfl, ?_⟩) ?_ ?_
                rotate_left
                · intro w'
                  go_simp
                  with_reducible rfl
                rotate_left
                · simp only [Act.put, List.setIfInBounds_toArray, List.set_cons_zero, List.set_cons_succ, i64_w, i32_w]
                  rfl
                refine pure_ (i := 6) (N := some 17) (v := ?_) (a' := ?_) #[true, true, true, true, true, true, true, true, true, false, false, false, true, true, false, false, false] rfl rfl (any_of HT_.out (by kernel_rfl)) (fun _ _ _ h => h) (Or.inl ⟨by rfl, ?_⟩) ?_ ?_
                rotate_left
                · intro w'
                  go_simp
                  with_reducible rfl
                rotate_left
                · simp only [Act.put, List.setIfInBounds_toArray, List.set_cons_zero, List.set_cons_succ, i64_w, i32_w]
                  rfl
                refine one_ (i := 9) (N := some 20) #[true, true, true, true, true, true, true, true, true, true, false, false, true, true, false, false, false] rfl rfl (one_of HT_.out (by kernel_rfl)) (by decide) (fun K hK => ?_)
                refine goes_ Tryd.func30 (by kernel_rfl) rfl #[.int .i64 a0_2] (by rfl) rfl rfl (by (try simp only [List.map_toArray, List.map_cons, List.map_nil]); first | done | rfl | (simp only [List.length_drop, List.length_take]; rfl)) ?_
                with_reducible refine (prebendref26_Num.calls k a0_2 t290 _ A7.out).mono ?_
                rintro e w16 ⟨rfl, hb⟩
                refine ⟨_, rfl, ?_⟩
                have n0_ := Aside0.mk (blk_below (g := gb288) (o := .cells #[.int .i64 a0_0, .int .i64 a0_1, .int .i64 a0_2, .int .i64 a0_3] 27 (0, 0)) (by (with_reducible repeat (first | refine blk_drewN ?_ _ | refine blk_drew ?_ | refine blk_alloc ?_ _)); exact BK288.out) hb)
                have n1_ := Aside0.mk (below_step (by repeat (first | (with_reducible first | exact HB.out | apply below_alloc | apply pw_below_drewN | apply below_drew1 | refine below_set ?_ GE288.out) | exact HB.out)) hb)
                clear BK288
                clear HB
                have BK288 := n0_
                have HB := n1_
                clear n0_ n1_
                (try clear hb)
                (try clear hb2)
                (try clear hk)
                (try clear hi)
                refine hK.out _ _ ⟨(blk_cell BK288.out 0).trans rfl, (blk_cell BK288.out 1).trans rfl, (blk_cell BK288.out 2).trans rfl, (blk_cell BK288.out 3).trans rfl⟩ (fun hHeld => ?_)
                clear hK K
                refine norm_ (a' := ?_) ?_ ?_
                rotate_left
                · show Act.put _ (some 20) _ = _
                  simp only [Act.put, List.setIfInBounds_toArray, List.set_cons_zero, List.set_cons_succ, i64_w, i32_w]
                  rfl
                refine pure_ (i := 10) (N := some 21) (v := ?_) (a' := ?_) #[true, true, true, true, true, true, true, true, true, true, true, false, true, true, false, false, false] rfl rfl (any_of HT_.out (by kernel_rfl)) (fun _ _ _ h => h) (Or.inl ⟨by rfl, ?_⟩) ?_ ?_
                rotate_left
                · intro w'
                  go_simp
                  with_reducible rfl
                rotate_left
                · simp only [Act.put, List.setIfInBounds_toArray, List.set_cons_zero, List.set_cons_succ, i64_w, i32_w]
                  rfl
                refine pure_ (i := 11) (N := some 22) (v := ?_) (a' := ?_) #[true, true, true, true, true, true, true, true, true, true, true, true, true, true, false, false, false] rfl rfl (any_of HT_.out (by kernel_rfl)) (fun _ _ _ h => h) (Or.inl ⟨by rfl, ?_⟩) ?_ ?_
                rotate_left
                · intro w'
                  go_simp
                  with_reducible rfl
                rotate_left
                · simp only [Act.put, List.setIfInBounds_toArray, List.set_cons_zero, List.set_cons_succ, i64_w, i32_w]
                  rfl
                refine one_ (i := 14) (N := some 25) #[true, true, true, true, true, true, true, true, true, true, true, true, true, true, true, false, false] rfl rfl (one_of HT_.out (by kernel_rfl)) (by decide) (fun K hK => ?_)
                refine goes_ Tryd.func30 (by kernel_rfl) rfl #[.int .i64 a0_3] (by rfl) rfl rfl (by (try simp only [List.map_toArray, List.map_cons, List.map_nil]); first | done | rfl | (simp only [List.length_drop, List.length_take]; rfl)) ?_
                with_reducible refine (prebendref26_Num.calls k a0_3 t291 _ A10.out).mono ?_
                rintro e w17 ⟨rfl, hb⟩
                refine ⟨_, rfl, ?_⟩
                have n0_ := Aside0.mk (blk_below (g := gb288) (o := .cells #[.int .i64 a0_0, .int .i64 a0_1, .int .i64 a0_2, .int .i64 a0_3] 27 (0, 0)) (by (with_reducible repeat (first | refine blk_drewN ?_ _ | refine blk_drew ?_ | refine blk_alloc ?_ _)); exact BK288.out) hb)
                have n1_ := Aside0.mk (below_step (by repeat (first | (with_reducible first | exact HB.out | apply below_alloc | apply pw_below_drewN | apply below_drew1 | refine below_set ?_ GE288.out) | exact HB.out)) hb)
                clear BK288
                clear HB
                have BK288 := n0_
                have HB := n1_
                clear n0_ n1_
                (try clear hb)
                (try clear hb2)
                (try clear hk)
                (try clear hi)
                refine hK.out _ _ ⟨(blk_cell BK288.out 0).trans rfl, (blk_cell BK288.out 1).trans rfl, (blk_cell BK288.out 2).trans rfl, (blk_cell BK288.out 3).trans rfl⟩ (fun hHeld => ?_)
                clear hK K
                refine norm_ (a' := ?_) ?_ ?_
                rotate_left
                · show Act.put _ (some 25) _ = _
                  simp only [Act.put, List.setIfInBounds_toArray, List.set_cons_zero, List.set_cons_succ, i64_w, i32_w]
                  rfl
                refine pure_ (i := 15) (N := some 26) (v := ?_) (a' := ?_) #[true, true, true, true, true, true, true, true, true, true, true, true, true, true, true, true, false] rfl rfl (any_of HT_.out (by kernel_rfl)) (fun _ _ _ h => h) (Or.inl ⟨by rfl, ?_⟩) ?_ ?_
                rotate_left
                · intro w'
                  go_simp
                  with_reducible rfl
                rotate_left
                · simp only [Act.put, List.setIfInBounds_toArray, List.set_cons_zero, List.set_cons_succ, i64_w, i32_w]
                  rfl
                refine pure_ (i := 16) (N := some 2) (v := ?_) (a' := ?_) #[true, true, true, true, true, true, true, true, true, true, true, true, true, true, true, true, true] rfl rfl (any_of HT_.out (by kernel_rfl)) (fun _ _ _ h => h) (Or.inl ⟨by rfl, ?_⟩) ?_ ?_
                rotate_left
                · intro w'
                  go_simp
                  with_reducible rfl
                rotate_left
                · simp only [Act.put, List.setIfInBounds_toArray, List.set_cons_zero, List.set_cons_succ, i64_w, i32_w]
                  rfl
                refine done_ (done_of HT_.out (by kernel_rfl)) ?_
                try go_wp2
                go_ret
                exact ⟨by first | rfl | (simp [errW_none, errW_some] <;> rfl) | (simp [*, errW_none, errW_some] <;> rfl), by repeat (first | (with_reducible first | exact HB.out | apply below_alloc | apply pw_below_drewN | apply below_drew1 | refine below_set ?_ GE288.out) | exact HB.out)⟩
              · rw [if_neg c11] at H
                exact absurd H (by simp)
            · rw [if_neg c9] at H
              exact absurd H (by simp)
          · rw [if_neg c8] at H
            exact absurd H (by simp)
        · rw [if_neg c6] at H
          exact absurd H (by simp)
      · rw [if_neg c5] at H
        exact absurd H (by simp)
    · rw [if_neg c3] at H
      exact absurd H (by simp)
  · rw [if_neg c2] at H
    have c2b0 : (a0_0 == 0) = false := beq_eq_false_iff_ne.mpr c2
    have c2b1 : (a0_0 != 0) = true := bne_iff_ne.mpr c2
    replace H := Option.bind_eq_some_iff.mp H
    obtain ⟨t292, A180, H⟩ := H
    replace H : (if 4 + t292.size ≤ 9223372036854775807 then (if ((⟨#[101, 114, 114, 32]⟩ : ByteArray) ++ t292).size + 1 ≤ 9223372036854775807 then ((prebendref26_Num.f k a0_1).bind fun t293 => (if (((⟨#[101, 114, 114, 32]⟩ : ByteArray) ++ t292) ++ (⟨#[32]⟩ : ByteArray)).size + t293.size ≤ 9223372036854775807 then (if ((((⟨#[101, 114, 114, 32]⟩ : ByteArray) ++ t292) ++ (⟨#[32]⟩ : ByteArray)) ++ t293).size + 1 ≤ 9223372036854775807 then ((prebendref26_Num.f k a0_2).bind fun t294 => (if (((((⟨#[101, 114, 114, 32]⟩ : ByteArray) ++ t292) ++ (⟨#[32]⟩ : ByteArray)) ++ t293) ++ (⟨#[32]⟩ : ByteArray)).size + t294.size ≤ 9223372036854775807 then (if ((((((⟨#[101, 114, 114, 32]⟩ : ByteArray) ++ t292) ++ (⟨#[32]⟩ : ByteArray)) ++ t293) ++ (⟨#[32]⟩ : ByteArray)) ++ t294).size + 1 ≤ 9223372036854775807 then ((prebendref26_Num.f k a0_3).bind fun t295 => (if (((((((⟨#[101, 114, 114, 32]⟩ : ByteArray) ++ t292) ++ (⟨#[32]⟩ : ByteArray)) ++ t293) ++ (⟨#[32]⟩ : ByteArray)) ++ t294) ++ (⟨#[32]⟩ : ByteArray)).size + t295.size ≤ 9223372036854775807 then (some ((((((((⟨#[101, 114, 114, 32]⟩ : ByteArray) ++ t292) ++ (⟨#[32]⟩ : ByteArray)) ++ t293) ++ (⟨#[32]⟩ : ByteArray)) ++ t294) ++ (⟨#[32]⟩ : ByteArray)) ++ t295)) else (none))) else (none)) else (none))) else (none)) else (none))) else (none)) else (none)) = some r := H
    have A18 := Aside0.mk A180
    clear A180
    by_cases c19 : 4 + t292.size ≤ 9223372036854775807
    · rw [if_pos c19] at H
      have c19b0 := eq_true c19
      have c19b1 : decide (4 + t292.size ≤ 9223372036854775807) = true := decide_eq_true c19
      try have c19b2 : (9223372036854775807 < 4 + t292.size) = False := eq_false (Nat.not_lt.2 c19)
      by_cases c20 : ((⟨#[101, 114, 114, 32]⟩ : ByteArray) ++ t292).size + 1 ≤ 9223372036854775807
      · rw [if_pos c20] at H
        have c20b0 := eq_true c20
        have c20b1 : decide (((⟨#[101, 114, 114, 32]⟩ : ByteArray) ++ t292).size + 1 ≤ 9223372036854775807) = true := decide_eq_true c20
        try have c20b2 : (9223372036854775807 < ((⟨#[101, 114, 114, 32]⟩ : ByteArray) ++ t292).size + 1) = False := eq_false (Nat.not_lt.2 c20)
        try have c20b3 : (9223372036854775807 < (4 + t292.size) + 1) = False := eq_false (by have h_ := c20; (try simp [ByteArray.size_append, ByteArray.size_extract, show (⟨#[101, 114, 114, 32]⟩ : ByteArray).size = 4 from rfl] at h_); omega)
        replace H := Option.bind_eq_some_iff.mp H
        obtain ⟨t293, A210, H⟩ := H
        replace H : (if (((⟨#[101, 114, 114, 32]⟩ : ByteArray) ++ t292) ++ (⟨#[32]⟩ : ByteArray)).size + t293.size ≤ 9223372036854775807 then (if ((((⟨#[101, 114, 114, 32]⟩ : ByteArray) ++ t292) ++ (⟨#[32]⟩ : ByteArray)) ++ t293).size + 1 ≤ 9223372036854775807 then ((prebendref26_Num.f k a0_2).bind fun t294 => (if (((((⟨#[101, 114, 114, 32]⟩ : ByteArray) ++ t292) ++ (⟨#[32]⟩ : ByteArray)) ++ t293) ++ (⟨#[32]⟩ : ByteArray)).size + t294.size ≤ 9223372036854775807 then (if ((((((⟨#[101, 114, 114, 32]⟩ : ByteArray) ++ t292) ++ (⟨#[32]⟩ : ByteArray)) ++ t293) ++ (⟨#[32]⟩ : ByteArray)) ++ t294).size + 1 ≤ 9223372036854775807 then ((prebendref26_Num.f k a0_3).bind fun t295 => (if (((((((⟨#[101, 114, 114, 32]⟩ : ByteArray) ++ t292) ++ (⟨#[32]⟩ : ByteArray)) ++ t293) ++ (⟨#[32]⟩ : ByteArray)) ++ t294) ++ (⟨#[32]⟩ : ByteArray)).size + t295.size ≤ 9223372036854775807 then (some ((((((((⟨#[101, 114, 114, 32]⟩ : ByteArray) ++ t292) ++ (⟨#[32]⟩ : ByteArray)) ++ t293) ++ (⟨#[32]⟩ : ByteArray)) ++ t294) ++ (⟨#[32]⟩ : ByteArray)) ++ t295)) else (none))) else (none)) else (none))) else (none)) else (none)) = some r := H
        have A21 := Aside0.mk A210
        clear A210
        by_cases c22 : (((⟨#[101, 114, 114, 32]⟩ : ByteArray) ++ t292) ++ (⟨#[32]⟩ : ByteArray)).size + t293.size ≤ 9223372036854775807
        · rw [if_pos c22] at H
          have c22b0 := eq_true c22
          have c22b1 : decide ((((⟨#[101, 114, 114, 32]⟩ : ByteArray) ++ t292) ++ (⟨#[32]⟩ : ByteArray)).size + t293.size ≤ 9223372036854775807) = true := decide_eq_true c22
          try have c22b2 : (9223372036854775807 < (((⟨#[101, 114, 114, 32]⟩ : ByteArray) ++ t292) ++ (⟨#[32]⟩ : ByteArray)).size + t293.size) = False := eq_false (Nat.not_lt.2 c22)
          try have c22b3 : (9223372036854775807 < ((4 + t292.size) + 1) + t293.size) = False := eq_false (by have h_ := c22; (try simp [ByteArray.size_append, ByteArray.size_extract, show (⟨#[101, 114, 114, 32]⟩ : ByteArray).size = 4 from rfl, show (⟨#[32]⟩ : ByteArray).size = 1 from rfl] at h_); omega)
          by_cases c23 : ((((⟨#[101, 114, 114, 32]⟩ : ByteArray) ++ t292) ++ (⟨#[32]⟩ : ByteArray)) ++ t293).size + 1 ≤ 9223372036854775807
          · rw [if_pos c23] at H
            have c23b0 := eq_true c23
            have c23b1 : decide (((((⟨#[101, 114, 114, 32]⟩ : ByteArray) ++ t292) ++ (⟨#[32]⟩ : ByteArray)) ++ t293).size + 1 ≤ 9223372036854775807) = true := decide_eq_true c23
            try have c23b2 : (9223372036854775807 < ((((⟨#[101, 114, 114, 32]⟩ : ByteArray) ++ t292) ++ (⟨#[32]⟩ : ByteArray)) ++ t293).size + 1) = False := eq_false (Nat.not_lt.2 c23)
            try have c23b3 : (9223372036854775807 < (((4 + t292.size) + 1) + t293.size) + 1) = False := eq_false (by have h_ := c23; (try simp [ByteArray.size_append, ByteArray.size_extract, show (⟨#[101, 114, 114, 32]⟩ : ByteArray).size = 4 from rfl, show (⟨#[32]⟩ : ByteArray).size = 1 from rfl] at h_); omega)
            replace H := Option.bind_eq_some_iff.mp H
            obtain ⟨t294, A240, H⟩ := H
            replace H : (if (((((⟨#[101, 114, 114, 32]⟩ : ByteArray) ++ t292) ++ (⟨#[32]⟩ : ByteArray)) ++ t293) ++ (⟨#[32]⟩ : ByteArray)).size + t294.size ≤ 9223372036854775807 then (if ((((((⟨#[101, 114, 114, 32]⟩ : ByteArray) ++ t292) ++ (⟨#[32]⟩ : ByteArray)) ++ t293) ++ (⟨#[32]⟩ : ByteArray)) ++ t294).size + 1 ≤ 9223372036854775807 then ((prebendref26_Num.f k a0_3).bind fun t295 => (if (((((((⟨#[101, 114, 114, 32]⟩ : ByteArray) ++ t292) ++ (⟨#[32]⟩ : ByteArray)) ++ t293) ++ (⟨#[32]⟩ : ByteArray)) ++ t294) ++ (⟨#[32]⟩ : ByteArray)).size + t295.size ≤ 9223372036854775807 then (some ((((((((⟨#[101, 114, 114, 32]⟩ : ByteArray) ++ t292) ++ (⟨#[32]⟩ : ByteArray)) ++ t293) ++ (⟨#[32]⟩ : ByteArray)) ++ t294) ++ (⟨#[32]⟩ : ByteArray)) ++ t295)) else (none))) else (none)) else (none)) = some r := H
            have A24 := Aside0.mk A240
            clear A240
            by_cases c25 : (((((⟨#[101, 114, 114, 32]⟩ : ByteArray) ++ t292) ++ (⟨#[32]⟩ : ByteArray)) ++ t293) ++ (⟨#[32]⟩ : ByteArray)).size + t294.size ≤ 9223372036854775807
            · rw [if_pos c25] at H
              have c25b0 := eq_true c25
              have c25b1 : decide ((((((⟨#[101, 114, 114, 32]⟩ : ByteArray) ++ t292) ++ (⟨#[32]⟩ : ByteArray)) ++ t293) ++ (⟨#[32]⟩ : ByteArray)).size + t294.size ≤ 9223372036854775807) = true := decide_eq_true c25
              try have c25b2 : (9223372036854775807 < (((((⟨#[101, 114, 114, 32]⟩ : ByteArray) ++ t292) ++ (⟨#[32]⟩ : ByteArray)) ++ t293) ++ (⟨#[32]⟩ : ByteArray)).size + t294.size) = False := eq_false (Nat.not_lt.2 c25)
              try have c25b3 : (9223372036854775807 < ((((4 + t292.size) + 1) + t293.size) + 1) + t294.size) = False := eq_false (by have h_ := c25; (try simp [ByteArray.size_append, ByteArray.size_extract, show (⟨#[101, 114, 114, 32]⟩ : ByteArray).size = 4 from rfl, show (⟨#[32]⟩ : ByteArray).size = 1 from rfl] at h_); omega)
              by_cases c26 : ((((((⟨#[101, 114, 114, 32]⟩ : ByteArray) ++ t292) ++ (⟨#[32]⟩ : ByteArray)) ++ t293) ++ (⟨#[32]⟩ : ByteArray)) ++ t294).size + 1 ≤ 9223372036854775807
              · rw [if_pos c26] at H
                have c26b0 := eq_true c26
                have c26b1 : decide (((((((⟨#[101, 114, 114, 32]⟩ : ByteArray) ++ t292) ++ (⟨#[32]⟩ : ByteArray)) ++ t293) ++ (⟨#[32]⟩ : ByteArray)) ++ t294).size + 1 ≤ 9223372036854775807) = true := decide_eq_true c26
                try have c26b2 : (9223372036854775807 < ((((((⟨#[101, 114, 114, 32]⟩ : ByteArray) ++ t292) ++ (⟨#[32]⟩ : ByteArray)) ++ t293) ++ (⟨#[32]⟩ : ByteArray)) ++ t294).size + 1) = False := eq_false (Nat.not_lt.2 c26)
                try have c26b3 : (9223372036854775807 < (((((4 + t292.size) + 1) + t293.size) + 1) + t294.size) + 1) = False := eq_false (by have h_ := c26; (try simp [ByteArray.size_append, ByteArray.size_extract, show (⟨#[101, 114, 114, 32]⟩ : ByteArray).size = 4 from rfl, show (⟨#[32]⟩ : ByteArray).size = 1 from rfl] at h_); omega)
                replace H := Option.bind_eq_some_iff.mp H
                obtain ⟨t295, A270, H⟩ := H
                replace H : (if (((((((⟨#[101, 114, 114, 32]⟩ : ByteArray) ++ t292) ++ (⟨#[32]⟩ : ByteArray)) ++ t293) ++ (⟨#[32]⟩ : ByteArray)) ++ t294) ++ (⟨#[32]⟩ : ByteArray)).size + t295.size ≤ 9223372036854775807 then (some ((((((((⟨#[101, 114, 114, 32]⟩ : ByteArray) ++ t292) ++ (⟨#[32]⟩ : ByteArray)) ++ t293) ++ (⟨#[32]⟩ : ByteArray)) ++ t294) ++ (⟨#[32]⟩ : ByteArray)) ++ t295)) else (none)) = some r := H
                have A27 := Aside0.mk A270
                clear A270
                by_cases c28 : (((((((⟨#[101, 114, 114, 32]⟩ : ByteArray) ++ t292) ++ (⟨#[32]⟩ : ByteArray)) ++ t293) ++ (⟨#[32]⟩ : ByteArray)) ++ t294) ++ (⟨#[32]⟩ : ByteArray)).size + t295.size ≤ 9223372036854775807
                · rw [if_pos c28] at H
                  have c28b0 := eq_true c28
                  have c28b1 : decide ((((((((⟨#[101, 114, 114, 32]⟩ : ByteArray) ++ t292) ++ (⟨#[32]⟩ : ByteArray)) ++ t293) ++ (⟨#[32]⟩ : ByteArray)) ++ t294) ++ (⟨#[32]⟩ : ByteArray)).size + t295.size ≤ 9223372036854775807) = true := decide_eq_true c28
                  try have c28b2 : (9223372036854775807 < (((((((⟨#[101, 114, 114, 32]⟩ : ByteArray) ++ t292) ++ (⟨#[32]⟩ : ByteArray)) ++ t293) ++ (⟨#[32]⟩ : ByteArray)) ++ t294) ++ (⟨#[32]⟩ : ByteArray)).size + t295.size) = False := eq_false (Nat.not_lt.2 c28)
                  try have c28b3 : (9223372036854775807 < ((((((4 + t292.size) + 1) + t293.size) + 1) + t294.size) + 1) + t295.size) = False := eq_false (by have h_ := c28; (try simp [ByteArray.size_append, ByteArray.size_extract, show (⟨#[101, 114, 114, 32]⟩ : ByteArray).size = 4 from rfl, show (⟨#[32]⟩ : ByteArray).size = 1 from rfl] at h_); omega)
                  obtain rfl := Option.some.inj H
                  go_enter Tryd.func17, Tryd.ntmps17
                  try go_wp2_with (first | ((with_reducible refine gate_dst (N := 1) rfl ?_); refine box_event ?hg (N := 1) ?hd (cs := #[.int .i64 a0_0, .int .i64 a0_1, .int .i64 a0_2, .int .i64 a0_3]) (t := 27) ?hr ?_; (case hd => rfl); (case hg => rfl); (case hr => first | (go_simp; done) | (go_simp; rfl)); intro gb288 hg w29 hbox hb; have n0_ := Aside0.mk (below_step (by repeat (first | (with_reducible first | exact HB.out | apply below_alloc | apply pw_below_drewN | apply below_drew1) | exact HB.out)) hb); have n1_ := Aside0.mk (hbox); have n2_ := Aside0.mk ((by rw [hg]; exact (below_size (by repeat (first | (with_reducible first | exact HB.out | apply below_alloc | apply pw_below_drewN | apply below_drew1) | exact HB.out))) : w.heap.size ≤ gb288)); have n3_ := Aside0.mk ((by rw [hg]; exact (below_size (by repeat (first | (with_reducible first | exact HB.out | apply below_alloc | apply pw_below_drewN | apply below_drew1) | exact HB.out))) : w.heap.size ≤ gb288)); clear HB; have HB := n0_; have BK288 := n1_; have GW288 := n2_; have GE288 := n3_; clear n0_ n1_ n2_ n3_; clear hb hbox hg; have hcz30_0 : w29.cell? ⟨gb288, 0, none⟩ = some (.int .i64 a0_0) := (blk_cell BK288.out 0).trans rfl; have hcz30_1 : w29.cell? ⟨gb288, 1, none⟩ = some (.int .i64 a0_1) := (blk_cell BK288.out 1).trans rfl; have hcz30_2 : w29.cell? ⟨gb288, 2, none⟩ = some (.int .i64 a0_2) := (blk_cell BK288.out 2).trans rfl; have hcz30_3 : w29.cell? ⟨gb288, 3, none⟩ = some (.int .i64 a0_3) := (blk_cell BK288.out 3).trans rfl; have hfz30_0 := blk_frozen BK288.out 0; have hfz30_1 := blk_frozen BK288.out 1; have hfz30_2 := blk_frozen BK288.out 2; have hfz30_3 := blk_frozen BK288.out 3) | ((with_reducible refine gate_callee (f := 30) rfl ?_); refine goesL_ (some 9) rfl rfl Tryd.func30 (by kernel_rfl) rfl #[.int .i64 a0_0] rfl (by (try simp only [List.map_toArray, List.map_cons, List.map_nil]); first | done | rfl | (simp only [List.length_drop, List.length_take]; rfl)) ?_; (with_reducible refine (prebendref26_Num.calls k a0_0 t292 _ A18.out).mono ?_); rintro e w31 ⟨rfl, hb⟩; refine ⟨_, rfl, ?_⟩; have n0_ := Aside0.mk (blk_below (g := gb288) (o := .cells #[.int .i64 a0_0, .int .i64 a0_1, .int .i64 a0_2, .int .i64 a0_3] 27 (0, 0)) (by (with_reducible repeat (first | refine blk_drewN ?_ _ | refine blk_drew ?_ | refine blk_alloc ?_ _)); exact BK288.out) hb); have n1_ := Aside0.mk (below_step (by repeat (first | (with_reducible first | exact HB.out | apply below_alloc | apply pw_below_drewN | apply below_drew1 | refine below_set ?_ GE288.out) | exact HB.out)) hb); clear BK288; clear HB; have BK288 := n0_; have HB := n1_; clear n0_ n1_; (try clear hb); (try clear hb2); (try clear hk); (try clear hi)))
                  have n0_ := Aside0.mk (blk_drew BK288.out)
                  have n1_ := Aside0.mk (below_drew1 HB.out)
                  clear BK288
                  clear HB
                  have BK288 := n0_
                  have HB := n1_
                  clear n0_ n1_
                  refine start_ (n := 17) (S := fun w' => w'.cell? ⟨gb288, 0, none⟩ = some (.int .i64 a0_0) ∧ w'.cell? ⟨gb288, 1, none⟩ = some (.int .i64 a0_1) ∧ w'.cell? ⟨gb288, 2, none⟩ = some (.int .i64 a0_2) ∧ w'.cell? ⟨gb288, 3, none⟩ = some (.int .i64 a0_3)) (ds := []) #[false, false, false, false, false, false, false, false, false, false, false, false, false, false, false, false, false] (by kernel_rfl) rfl rfl ⟨(blk_cell BK288.out 0).trans rfl, (blk_cell BK288.out 1).trans rfl, (blk_cell BK288.out 2).trans rfl, (blk_cell BK288.out 3).trans rfl⟩ (fun hHeld => ?_); refine with_tabW prebendref27_Reply.tab4 prebendref27_Reply.bits4 (fun HT_ HW_ => ?_)
                  generalize w31.drew = w32 at BK288 HB hHeld ⊢
                  refine pure_ (i := 0) (N := some 11) (v := ?_) (a' := ?_) #[true, false, false, false, false, false, false, false, false, false, false, false, false, false, false, false, false] rfl rfl (any_of HT_.out (by kernel_rfl)) (fun _ _ _ h => h) (Or.inl ⟨by rfl, ?_⟩) ?_ ?_
                  rotate_left
                  · intro w'
                    go_simp
                    with_reducible rfl
                  rotate_left
                  · simp only [Act.put, List.setIfInBounds_toArray, List.set_cons_zero, List.set_cons_succ, i64_w, i32_w]
                    rfl
                  refine pure_ (i := 1) (N := some 12) (v := ?_) (a' := ?_) #[true, true, false, false, false, false, false, false, false, false, false, false, false, false, false, false, false] rfl rfl (any_of HT_.out (by kernel_rfl)) (fun _ _ _ h => h) (Or.inl ⟨by rfl, ?_⟩) ?_ ?_
                  rotate_left
                  · intro w'
                    go_simp
                    with_reducible rfl
                  rotate_left
                  · simp only [Act.put, List.setIfInBounds_toArray, List.set_cons_zero, List.set_cons_succ, i64_w, i32_w]
                    rfl
                  refine pure_ (i := 2) (N := some 13) (v := ?_) (a' := ?_) #[true, true, true, false, false, false, false, false, false, false, false, false, false, false, false, false, false] rfl rfl (any_of HT_.out (by kernel_rfl)) (fun _ _ _ h => h) (Or.inl ⟨by rfl, ?_⟩) ?_ ?_
                  rotate_left
                  · intro w'
                    go_simp
                    with_reducible rfl
                  rotate_left
                  · simp only [Act.put, List.setIfInBounds_toArray, List.set_cons_zero, List.set_cons_succ, i64_w, i32_w]
                    rfl
                  refine pure_ (i := 7) (N := some 18) (v := ?_) (a' := ?_) #[true, true, true, false, false, false, false, true, false, false, false, false, false, false, false, false, false] rfl rfl (any_of HT_.out (by kernel_rfl)) (fun _ _ _ h => h) (Or.inl ⟨by rfl, ?_⟩) ?_ ?_
                  rotate_left
                  · intro w'
                    go_simp
                    with_reducible rfl
                  rotate_left
                  · simp only [Act.put, List.setIfInBounds_toArray, List.set_cons_zero, List.set_cons_succ, i64_w, i32_w]
                    rfl
                  refine pure_ (i := 12) (N := some 23) (v := ?_) (a' := ?_) #[true, true, true, false, false, false, false, true, false, false, false, false, true, false, false, false, false] rfl rfl (any_of HT_.out (by kernel_rfl)) (fun _ _ _ h => h) (Or.inl ⟨by rfl, ?_⟩) ?_ ?_
                  rotate_left
                  · intro w'
                    go_simp
                    with_reducible rfl
                  rotate_left
                  · simp only [Act.put, List.setIfInBounds_toArray, List.set_cons_zero, List.set_cons_succ, i64_w, i32_w]
                    rfl
                  refine take_ (i := 3) (N := some 14) (v := ?_) (a' := ?_) #[true, true, true, true, false, false, false, true, false, false, false, false, true, false, false, false, false] rfl rfl (take_ofW HT_.out HW_.out (by kernel_rfl)) (fun _ _ _ h => h) (Or.inl ⟨by rfl, ?_⟩) hHeld ?_ ?_
                  rotate_left
                  · rintro w' ⟨s0, s1, s2, s3⟩
                    go_simp
                    with_reducible rfl
                  rotate_left
                  · simp only [Act.put, List.setIfInBounds_toArray, List.set_cons_zero, List.set_cons_succ, i64_w, i32_w]
                    rfl
                  refine take_ (i := 8) (N := some 19) (v := ?_) (a' := ?_) #[true, true, true, true, false, false, false, true, true, false, false, false, true, false, false, false, false] rfl rfl (take_ofW HT_.out HW_.out (by kernel_rfl)) (fun _ _ _ h => h) (Or.inl ⟨by rfl, ?_⟩) hHeld ?_ ?_
                  rotate_left
                  · rintro w' ⟨s0, s1, s2, s3⟩
                    go_simp
                    with_reducible rfl
                  rotate_left
                  · simp only [Act.put, List.setIfInBounds_toArray, List.set_cons_zero, List.set_cons_succ, i64_w, i32_w]
                    rfl
                  refine take_ (i := 13) (N := some 24) (v := ?_) (a' := ?_) #[true, true, true, true, false, false, false, true, true, false, false, false, true, true, false, false, false] rfl rfl (take_ofW HT_.out HW_.out (by kernel_rfl)) (fun _ _ _ h => h) (Or.inl ⟨by rfl, ?_⟩) hHeld ?_ ?_
                  rotate_left
                  · rintro w' ⟨s0, s1, s2, s3⟩
                    go_simp
                    with_reducible rfl
                  rotate_left
                  · simp only [Act.put, List.setIfInBounds_toArray, List.set_cons_zero, List.set_cons_succ, i64_w, i32_w]
                    rfl
                  refine one_ (i := 4) (N := some 15) #[true, true, true, true, true, false, false, true, true, false, false, false, true, true, false, false, false] rfl rfl (one_of HT_.out (by kernel_rfl)) (by decide) (fun K hK => ?_)
                  refine goes_ Tryd.func30 (by kernel_rfl) rfl #[.int .i64 a0_1] (by rfl) rfl rfl (by (try simp only [List.map_toArray, List.map_cons, List.map_nil]); first | done | rfl | (simp only [List.length_drop, List.length_take]; rfl)) ?_
                  with_reducible refine (prebendref26_Num.calls k a0_1 t293 _ A21.out).mono ?_
                  rintro e w33 ⟨rfl, hb⟩
                  refine ⟨_, rfl, ?_⟩
                  have n0_ := Aside0.mk (blk_below (g := gb288) (o := .cells #[.int .i64 a0_0, .int .i64 a0_1, .int .i64 a0_2, .int .i64 a0_3] 27 (0, 0)) (by (with_reducible repeat (first | refine blk_drewN ?_ _ | refine blk_drew ?_ | refine blk_alloc ?_ _)); exact BK288.out) hb)
                  have n1_ := Aside0.mk (below_step (by repeat (first | (with_reducible first | exact HB.out | apply below_alloc | apply pw_below_drewN | apply below_drew1 | refine below_set ?_ GE288.out) | exact HB.out)) hb)
                  clear BK288
                  clear HB
                  have BK288 := n0_
                  have HB := n1_
                  clear n0_ n1_
                  (try clear hb)
                  (try clear hb2)
                  (try clear hk)
                  (try clear hi)
                  refine hK.out _ _ ⟨(blk_cell BK288.out 0).trans rfl, (blk_cell BK288.out 1).trans rfl, (blk_cell BK288.out 2).trans rfl, (blk_cell BK288.out 3).trans rfl⟩ (fun hHeld => ?_)
                  clear hK K
                  refine norm_ (a' := ?_) ?_ ?_
                  rotate_left
                  · show Act.put _ (some 15) _ = _
                    simp only [Act.put, List.setIfInBounds_toArray, List.set_cons_zero, List.set_cons_succ, i64_w, i32_w]
                    rfl
                  refine pure_ (i := 5) (N := some 16) (v := ?_) (a' := ?_) #[true, true, true, true, true, true, false, true, true, false, false, false, true, true, false, false, false] rfl rfl (any_of HT_.out (by kernel_rfl)) (fun _ _ _ h => h) (Or.inl ⟨by rfl, ?_⟩) ?_ ?_
                  rotate_left
                  · intro w'
                    go_simp
                    with_reducible rfl
                  rotate_left
                  · simp only [Act.put, List.setIfInBounds_toArray, List.set_cons_zero, List.set_cons_succ, i64_w, i32_w]
                    rfl
                  refine pure_ (i := 6) (N := some 17) (v := ?_) (a' := ?_) #[true, true, true, true, true, true, true, true, true, false, false, false, true, true, false, false, false] rfl rfl (any_of HT_.out (by kernel_rfl)) (fun _ _ _ h => h) (Or.inl ⟨by rfl, ?_⟩) ?_ ?_
                  rotate_left
                  · intro w'
                    go_simp
                    with_reducible rfl
                  rotate_left
                  · simp only [Act.put, List.setIfInBounds_toArray, List.set_cons_zero, List.set_cons_succ, i64_w, i32_w]
                    rfl
                  refine one_ (i := 9) (N := some 20) #[true, true, true, true, true, true, true, true, true, true, false, false, true, true, false, false, false] rfl rfl (one_of HT_.out (by kernel_rfl)) (by decide) (fun K hK => ?_)
                  refine goes_ Tryd.func30 (by kernel_rfl) rfl #[.int .i64 a0_2] (by rfl) rfl rfl (by (try simp only [List.map_toArray, List.map_cons, List.map_nil]); first | done | rfl | (simp only [List.length_drop, List.length_take]; rfl)) ?_
                  with_reducible refine (prebendref26_Num.calls k a0_2 t294 _ A24.out).mono ?_
                  rintro e w34 ⟨rfl, hb⟩
                  refine ⟨_, rfl, ?_⟩
                  have n0_ := Aside0.mk (blk_below (g := gb288) (o := .cells #[.int .i64 a0_0, .int .i64 a0_1, .int .i64 a0_2, .int .i64 a0_3] 27 (0, 0)) (by (with_reducible repeat (first | refine blk_drewN ?_ _ | refine blk_drew ?_ | refine blk_alloc ?_ _)); exact BK288.out) hb)
                  have n1_ := Aside0.mk (below_step (by repeat (first | (with_reducible first | exact HB.out | apply below_alloc | apply pw_below_drewN | apply below_drew1 | refine below_set ?_ GE288.out) | exact HB.out)) hb)
                  clear BK288
                  clear HB
                  have BK288 := n0_
                  have HB := n1_
                  clear n0_ n1_
                  (try clear hb)
                  (try clear hb2)
                  (try clear hk)
                  (try clear hi)
                  refine hK.out _ _ ⟨(blk_cell BK288.out 0).trans rfl, (blk_cell BK288.out 1).trans rfl, (blk_cell BK288.out 2).trans rfl, (blk_cell BK288.out 3).trans rfl⟩ (fun hHeld => ?_)
                  clear hK K
                  refine norm_ (a' := ?_) ?_ ?_
                  rotate_left
                  · show Act.put _ (some 20) _ = _
                    simp only [Act.put, List.setIfInBounds_toArray, List.set_cons_zero, List.set_cons_succ, i64_w, i32_w]
                    rfl
                  refine pure_ (i := 10) (N := some 21) (v := ?_) (a' := ?_) #[true, true, true, true, true, true, true, true, true, true, true, false, true, true, false, false, false] rfl rfl (any_of HT_.out (by kernel_rfl)) (fun _ _ _ h => h) (Or.inl ⟨by rfl, ?_⟩) ?_ ?_
                  rotate_left
                  · intro w'
                    go_simp
                    with_reducible rfl
                  rotate_left
                  · simp only [Act.put, List.setIfInBounds_toArray, List.set_cons_zero, List.set_cons_succ, i64_w, i32_w]
                    rfl
                  refine pure_ (i := 11) (N := some 22) (v := ?_) (a' := ?_) #[true, true, true, true, true, true, true, true, true, true, true, true, true, true, false, false, false] rfl rfl (any_of HT_.out (by kernel_rfl)) (fun _ _ _ h => h) (Or.inl ⟨by rfl, ?_⟩) ?_ ?_
                  rotate_left
                  · intro w'
                    go_simp
                    with_reducible rfl
                  rotate_left
                  · simp only [Act.put, List.setIfInBounds_toArray, List.set_cons_zero, List.set_cons_succ, i64_w, i32_w]
                    rfl
                  refine one_ (i := 14) (N := some 25) #[true, true, true, true, true, true, true, true, true, true, true, true, true, true, true, false, false] rfl rfl (one_of HT_.out (by kernel_rfl)) (by decide) (fun K hK => ?_)
                  refine goes_ Tryd.func30 (by kernel_rfl) rfl #[.int .i64 a0_3] (by rfl) rfl rfl (by (try simp only [List.map_toArray, List.map_cons, List.map_nil]); first | done | rfl | (simp only [List.length_drop, List.length_take]; rfl)) ?_
                  with_reducible refine (prebendref26_Num.calls k a0_3 t295 _ A27.out).mono ?_
                  rintro e w35 ⟨rfl, hb⟩
                  refine ⟨_, rfl, ?_⟩
                  have n0_ := Aside0.mk (blk_below (g := gb288) (o := .cells #[.int .i64 a0_0, .int .i64 a0_1, .int .i64 a0_2, .int .i64 a0_3] 27 (0, 0)) (by (with_reducible repeat (first | refine blk_drewN ?_ _ | refine blk_drew ?_ | refine blk_alloc ?_ _)); exact BK288.out) hb)
                  have n1_ := Aside0.mk (below_step (by repeat (first | (with_reducible first | exact HB.out | apply below_alloc | apply pw_below_drewN | apply below_drew1 | refine below_set ?_ GE288.out) | exact HB.out)) hb)
                  clear BK288
                  clear HB
                  have BK288 := n0_
                  have HB := n1_
                  clear n0_ n1_
                  (try clear hb)
                  (try clear hb2)
                  (try clear hk)
                  (try clear hi)
                  refine hK.out _ _ ⟨(blk_cell BK288.out 0).trans rfl, (blk_cell BK288.out 1).trans rfl, (blk_cell BK288.out 2).trans rfl, (blk_cell BK288.out 3).trans rfl⟩ (fun hHeld => ?_)
                  clear hK K
                  refine norm_ (a' := ?_) ?_ ?_
                  rotate_left
                  · show Act.put _ (some 25) _ = _
                    simp only [Act.put, List.setIfInBounds_toArray, List.set_cons_zero, List.set_cons_succ, i64_w, i32_w]
                    rfl
                  refine pure_ (i := 15) (N := some 26) (v := ?_) (a' := ?_) #[true, true, true, true, true, true, true, true, true, true, true, true, true, true, true, true, false] rfl rfl (any_of HT_.out (by kernel_rfl)) (fun _ _ _ h => h) (Or.inl ⟨by rfl, ?_⟩) ?_ ?_
                  rotate_left
                  · intro w'
                    go_simp
                    with_reducible rfl
                  rotate_left
                  · simp only [Act.put, List.setIfInBounds_toArray, List.set_cons_zero, List.set_cons_succ, i64_w, i32_w]
                    rfl
                  refine pure_ (i := 16) (N := some 2) (v := ?_) (a' := ?_) #[true, true, true, true, true, true, true, true, true, true, true, true, true, true, true, true, true] rfl rfl (any_of HT_.out (by kernel_rfl)) (fun _ _ _ h => h) (Or.inl ⟨by rfl, ?_⟩) ?_ ?_
                  rotate_left
                  · intro w'
                    go_simp
                    with_reducible rfl
                  rotate_left
                  · simp only [Act.put, List.setIfInBounds_toArray, List.set_cons_zero, List.set_cons_succ, i64_w, i32_w]
                    rfl
                  refine done_ (done_of HT_.out (by kernel_rfl)) ?_
                  try go_wp2
                  go_ret
                  exact ⟨by first | rfl | (simp [errW_none, errW_some] <;> rfl) | (simp [*, errW_none, errW_some] <;> rfl), by repeat (first | (with_reducible first | exact HB.out | apply below_alloc | apply pw_below_drewN | apply below_drew1 | refine below_set ?_ GE288.out) | exact HB.out)⟩
                · rw [if_neg c28] at H
                  exact absurd H (by simp)
              · rw [if_neg c26] at H
                exact absurd H (by simp)
            · rw [if_neg c25] at H
              exact absurd H (by simp)
          · rw [if_neg c23] at H
            exact absurd H (by simp)
        · rw [if_neg c22] at H
          exact absurd H (by simp)
      · rw [if_neg c20] at H
        exact absurd H (by simp)
    · rw [if_neg c19] at H
      exact absurd H (by simp)

end Go.Proofs.YtkenihkjdbdlkaaDoor.QLinePrints
