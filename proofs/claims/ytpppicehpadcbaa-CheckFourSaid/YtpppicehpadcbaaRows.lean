/-
  No cell of these rows narrows 'for every input' (looked for: loops, veiled, ifaces, maps, wideKeys, modest, calm, conditions, laid).
  DERIVED. THE GIVEN ROWS OF THIS SEAT. 10 by the template 'for every input the law returns true; each argument reads behind the call as it read before'; 0 by the template 'total and deterministic' (their statements: YtpppicehpadcbaaTotals.lean).
  GIVEN WITH THE SEED: the statements are not yours to turn. If you find one false, say at which input.
  Laid BY PROGRAM, IN A SANDBOX (cutbox-rows.mjs): the forced cells as the released guide's own fill.sh prints them over the translation ff2fb8ce45d654d9… (all of the seat's roots in one cut). By AI agents, Wed Nov 11 2026. No macro, syntax, notation, axiom, sorry.
-/
import Derived.Test.YtpppicehpadcbaaChecked
import GoSem.Claim
import GoSem.ClaimJoined
import GoSem.ClaimMapViews
import Derived.JoinedTies
import Derived.KernelRfl
namespace Go.Proofs.Ytpppicehpadcbaa
/- THE CELL 'sum', in the pinned program and in every row, IS THE sha256 OF THE DUMP (.gsa) THAT YtpppicehpadcbaaProg.lean LOADS. Nothing in Lean hashes anything: it is a label: what it is worth is what the hold of that sum in a sandbox is worth. -/
noncomputable def Try.pinned : Pinned := { name := "ytpppicehpadcbaa", sum := "ff2fb8ce45d654d9f47b1460449fc21f2fa26244e1f9b3ab32b5d50d77714e16", checked := Try.checked }
namespace Rows
def none {H : Type} : Left H := { results := [], args := [] }

/-- 'prebendlaw14.PoolTakes': WHATEVER THE INPUT: true; the input reads as it did. -/
def poolTakesSpec : ChangeSpec := { name := "poolTakes", fn := fun _ => fun
  | [d1, d2] => { results := [.lit (.bool true)], args := [d1, d2] }
  | _ => none }
def poolTakesRow : OpenClaim := { program := "ytpppicehpadcbaa", sum := "ff2fb8ce45d654d9f47b1460449fc21f2fa26244e1f9b3ab32b5d50d77714e16", func := "prebend/prebendlaw14.PoolTakes", spec := "poolTakes", apart := false }
def PoolTakesSaid : Prop := poolTakesRow.holds Try.pinned (OpenSpec.ofChange poolTakesSpec)

/-- ITS FALSE NEIGHBOUR: 'it returns false'. Refute it at one input. -/
def poolTakesWrong : ChangeSpec := { name := "poolTakes", fn := fun _ => fun
  | [d1, d2] => { results := [.lit (.bool false)], args := [d1, d2] }
  | _ => none }
def PoolTakesWrongFalsely : Prop := poolTakesRow.holds Try.pinned (OpenSpec.ofChange poolTakesWrong)

/-- 'prebendlaw14.PoolSome': WHATEVER THE INPUT: true; the input reads as it did. -/
def poolSomeSpec : ChangeSpec := { name := "poolSome", fn := fun _ => fun
  | [d1, d2] => { results := [.lit (.bool true)], args := [d1, d2] }
  | _ => none }
def poolSomeRow : OpenClaim := { program := "ytpppicehpadcbaa", sum := "ff2fb8ce45d654d9f47b1460449fc21f2fa26244e1f9b3ab32b5d50d77714e16", func := "prebend/prebendlaw14.PoolSome", spec := "poolSome", apart := false }
def PoolSomeSaid : Prop := poolSomeRow.holds Try.pinned (OpenSpec.ofChange poolSomeSpec)

/-- ITS FALSE NEIGHBOUR: 'it returns false'. Refute it at one input. -/
def poolSomeWrong : ChangeSpec := { name := "poolSome", fn := fun _ => fun
  | [d1, d2] => { results := [.lit (.bool false)], args := [d1, d2] }
  | _ => none }
def PoolSomeWrongFalsely : Prop := poolSomeRow.holds Try.pinned (OpenSpec.ofChange poolSomeWrong)

/-- 'prebendlaw14.PoolTwice': WHATEVER THE INPUT: true; the input reads as it did. -/
def poolTwiceSpec : ChangeSpec := { name := "poolTwice", fn := fun _ => fun
  | [d1, d2, d3] => { results := [.lit (.bool true)], args := [d1, d2, d3] }
  | _ => none }
def poolTwiceRow : OpenClaim := { program := "ytpppicehpadcbaa", sum := "ff2fb8ce45d654d9f47b1460449fc21f2fa26244e1f9b3ab32b5d50d77714e16", func := "prebend/prebendlaw14.PoolTwice", spec := "poolTwice", apart := false }
def PoolTwiceSaid : Prop := poolTwiceRow.holds Try.pinned (OpenSpec.ofChange poolTwiceSpec)

/-- ITS FALSE NEIGHBOUR: 'it returns false'. Refute it at one input. -/
def poolTwiceWrong : ChangeSpec := { name := "poolTwice", fn := fun _ => fun
  | [d1, d2, d3] => { results := [.lit (.bool false)], args := [d1, d2, d3] }
  | _ => none }
def PoolTwiceWrongFalsely : Prop := poolTwiceRow.holds Try.pinned (OpenSpec.ofChange poolTwiceWrong)

/-- 'prebendlaw10.RatePrices': WHATEVER THE INPUT: true; the input reads as it did. -/
def ratePricesSpec : ChangeSpec := { name := "ratePrices", fn := fun _ => fun
  | [d1, d2, d3] => { results := [.lit (.bool true)], args := [d1, d2, d3] }
  | _ => none }
def ratePricesRow : OpenClaim := { program := "ytpppicehpadcbaa", sum := "ff2fb8ce45d654d9f47b1460449fc21f2fa26244e1f9b3ab32b5d50d77714e16", func := "prebend/prebendlaw10.RatePrices", spec := "ratePrices", apart := false }
def RatePricesSaid : Prop := ratePricesRow.holds Try.pinned (OpenSpec.ofChange ratePricesSpec)

/-- ITS FALSE NEIGHBOUR: 'it returns false'. Refute it at one input. -/
def ratePricesWrong : ChangeSpec := { name := "ratePrices", fn := fun _ => fun
  | [d1, d2, d3] => { results := [.lit (.bool false)], args := [d1, d2, d3] }
  | _ => none }
def RatePricesWrongFalsely : Prop := ratePricesRow.holds Try.pinned (OpenSpec.ofChange ratePricesWrong)

/-- 'prebendlaw10.RateSets': WHATEVER THE INPUT: true; the input reads as it did. -/
def rateSetsSpec : ChangeSpec := { name := "rateSets", fn := fun _ => fun
  | [d1, d2, d3, d4] => { results := [.lit (.bool true)], args := [d1, d2, d3, d4] }
  | _ => none }
def rateSetsRow : OpenClaim := { program := "ytpppicehpadcbaa", sum := "ff2fb8ce45d654d9f47b1460449fc21f2fa26244e1f9b3ab32b5d50d77714e16", func := "prebend/prebendlaw10.RateSets", spec := "rateSets", apart := false }
def RateSetsSaid : Prop := rateSetsRow.holds Try.pinned (OpenSpec.ofChange rateSetsSpec)

/-- ITS FALSE NEIGHBOUR: 'it returns false'. Refute it at one input. -/
def rateSetsWrong : ChangeSpec := { name := "rateSets", fn := fun _ => fun
  | [d1, d2, d3, d4] => { results := [.lit (.bool false)], args := [d1, d2, d3, d4] }
  | _ => none }
def RateSetsWrongFalsely : Prop := rateSetsRow.holds Try.pinned (OpenSpec.ofChange rateSetsWrong)

/-- 'prebendlaw10.RateStays': WHATEVER THE INPUT: true; the input reads as it did. -/
def rateStaysSpec : ChangeSpec := { name := "rateStays", fn := fun _ => fun
  | [d1, d2, d3, d4] => { results := [.lit (.bool true)], args := [d1, d2, d3, d4] }
  | _ => none }
def rateStaysRow : OpenClaim := { program := "ytpppicehpadcbaa", sum := "ff2fb8ce45d654d9f47b1460449fc21f2fa26244e1f9b3ab32b5d50d77714e16", func := "prebend/prebendlaw10.RateStays", spec := "rateStays", apart := false }
def RateStaysSaid : Prop := rateStaysRow.holds Try.pinned (OpenSpec.ofChange rateStaysSpec)

/-- ITS FALSE NEIGHBOUR: 'it returns false'. Refute it at one input. -/
def rateStaysWrong : ChangeSpec := { name := "rateStays", fn := fun _ => fun
  | [d1, d2, d3, d4] => { results := [.lit (.bool false)], args := [d1, d2, d3, d4] }
  | _ => none }
def RateStaysWrongFalsely : Prop := rateStaysRow.holds Try.pinned (OpenSpec.ofChange rateStaysWrong)

/-- 'prebendlaw04.CheckOf': WHATEVER THE INPUT: true; the input reads as it did. -/
def checkOfSpec : ChangeSpec := { name := "checkOf", fn := fun _ => fun
  | [d1, d2] => { results := [.lit (.bool true)], args := [d1, d2] }
  | _ => none }
def checkOfRow : OpenClaim := { program := "ytpppicehpadcbaa", sum := "ff2fb8ce45d654d9f47b1460449fc21f2fa26244e1f9b3ab32b5d50d77714e16", func := "prebend/prebendlaw04.CheckOf", spec := "checkOf", apart := false }
def CheckOfSaid : Prop := checkOfRow.holds Try.pinned (OpenSpec.ofChange checkOfSpec)

/-- ITS FALSE NEIGHBOUR: 'it returns false'. Refute it at one input. -/
def checkOfWrong : ChangeSpec := { name := "checkOf", fn := fun _ => fun
  | [d1, d2] => { results := [.lit (.bool false)], args := [d1, d2] }
  | _ => none }
def CheckOfWrongFalsely : Prop := checkOfRow.holds Try.pinned (OpenSpec.ofChange checkOfWrong)

/-- 'prebendlaw04.CheckParts': WHATEVER THE INPUT: true; the input reads as it did. -/
def checkPartsSpec : ChangeSpec := { name := "checkParts", fn := fun _ => fun
  | [d1, d2] => { results := [.lit (.bool true)], args := [d1, d2] }
  | _ => none }
def checkPartsRow : OpenClaim := { program := "ytpppicehpadcbaa", sum := "ff2fb8ce45d654d9f47b1460449fc21f2fa26244e1f9b3ab32b5d50d77714e16", func := "prebend/prebendlaw04.CheckParts", spec := "checkParts", apart := false }
def CheckPartsSaid : Prop := checkPartsRow.holds Try.pinned (OpenSpec.ofChange checkPartsSpec)

/-- ITS FALSE NEIGHBOUR: 'it returns false'. Refute it at one input. -/
def checkPartsWrong : ChangeSpec := { name := "checkParts", fn := fun _ => fun
  | [d1, d2] => { results := [.lit (.bool false)], args := [d1, d2] }
  | _ => none }
def CheckPartsWrongFalsely : Prop := checkPartsRow.holds Try.pinned (OpenSpec.ofChange checkPartsWrong)

/-- 'prebendlaw04.CheckBurst': WHATEVER THE INPUT: true; the input reads as it did. -/
def checkBurstSpec : ChangeSpec := { name := "checkBurst", fn := fun _ => fun
  | [d1, d2, d3] => { results := [.lit (.bool true)], args := [d1, d2, d3] }
  | _ => none }
def checkBurstRow : OpenClaim := { program := "ytpppicehpadcbaa", sum := "ff2fb8ce45d654d9f47b1460449fc21f2fa26244e1f9b3ab32b5d50d77714e16", func := "prebend/prebendlaw04.CheckBurst", spec := "checkBurst", apart := false }
def CheckBurstSaid : Prop := checkBurstRow.holds Try.pinned (OpenSpec.ofChange checkBurstSpec)

/-- ITS FALSE NEIGHBOUR: 'it returns false'. Refute it at one input. -/
def checkBurstWrong : ChangeSpec := { name := "checkBurst", fn := fun _ => fun
  | [d1, d2, d3] => { results := [.lit (.bool false)], args := [d1, d2, d3] }
  | _ => none }
def CheckBurstWrongFalsely : Prop := checkBurstRow.holds Try.pinned (OpenSpec.ofChange checkBurstWrong)

/-- 'prebendlaw04.CheckFour': WHATEVER THE INPUT: true; the input reads as it did. -/
def checkFourSpec : ChangeSpec := { name := "checkFour", fn := fun _ => fun
  | [d1, d2, d3] => { results := [.lit (.bool true)], args := [d1, d2, d3] }
  | _ => none }
def checkFourRow : OpenClaim := { program := "ytpppicehpadcbaa", sum := "ff2fb8ce45d654d9f47b1460449fc21f2fa26244e1f9b3ab32b5d50d77714e16", func := "prebend/prebendlaw04.CheckFour", spec := "checkFour", apart := false }
def CheckFourSaid : Prop := checkFourRow.holds Try.pinned (OpenSpec.ofChange checkFourSpec)

/-- ITS FALSE NEIGHBOUR: 'it returns false'. Refute it at one input. -/
def checkFourWrong : ChangeSpec := { name := "checkFour", fn := fun _ => fun
  | [d1, d2, d3] => { results := [.lit (.bool false)], args := [d1, d2, d3] }
  | _ => none }
def CheckFourWrongFalsely : Prop := checkFourRow.holds Try.pinned (OpenSpec.ofChange checkFourWrong)

/- THE SECOND FORM. 'bulk': how many values and letters a reading holds, each counted each time it is reached (what is shared counts as often as it is met; a slice's spare places count too). A statement '..UptoSaid' is the law's where the arguments, and the package variables that the reading takes, are together of bulk at most 1048576: NARROWER than '..Said'. Prove '..Said' where nothing that the law and all that it calls make is longer than what came in: it says more and counts as full. Else prove '..UptoSaid'. A law counts once. -/
mutual
def uptoBulk {H : Type} : DataW H → Nat
  | .lit (.string bytes) => bytes.length + 1
  | .lit _ => 1
  | .nil => 1
  | .ptr d => uptoBulk d + 1
  | .slice elems spare => uptoBulkAll elems + uptoBulkAll spare + 1
  | .agg parts => uptoBulkAll parts + 1
  | .iface _ d => uptoBulk d + 1
  | .map entries => uptoBulkEntries entries + 1
  | .held _ => 1
def uptoBulkAll {H : Type} : List (DataW H) → Nat
  | [] => 0
  | d :: r => uptoBulk d + uptoBulkAll r
def uptoBulkEntries {H : Type} : List (Lit × DataW H) → Nat
  | [] => 0
  | x :: r => uptoBulkEntry x + uptoBulkEntries r
def uptoBulkEntry {H : Type} : Lit × DataW H → Nat
  | (.string bytes, d) => bytes.length + uptoBulk d + 1
  | (_, d) => uptoBulk d + 1
 end
def uptoSmall : (H : Type) → List (DataW H) → Bool := fun _ ds => decide (uptoBulkAll ds ≤ 1048576)
def OpenSpec.upto (s : _root_.Go.ChangeSpec) : _root_.Go.OpenSpec := { _root_.Go.OpenSpec.ofChange s with cond := some uptoSmall }

/-- 'prebendlaw14.PoolTakes', WHERE WHAT IT READS IS OF BULK AT MOST 1048576: true; the input reads as it did. -/
def poolTakesUptoRow : OpenClaim := { program := "ytpppicehpadcbaa", sum := "ff2fb8ce45d654d9f47b1460449fc21f2fa26244e1f9b3ab32b5d50d77714e16", func := "prebend/prebendlaw14.PoolTakes", spec := "poolTakes", apart := false, narrowed := true }
def PoolTakesUptoSaid : Prop := poolTakesUptoRow.holds Try.pinned (OpenSpec.upto poolTakesSpec)

/-- 'prebendlaw14.PoolSome', WHERE WHAT IT READS IS OF BULK AT MOST 1048576: true; the input reads as it did. -/
def poolSomeUptoRow : OpenClaim := { program := "ytpppicehpadcbaa", sum := "ff2fb8ce45d654d9f47b1460449fc21f2fa26244e1f9b3ab32b5d50d77714e16", func := "prebend/prebendlaw14.PoolSome", spec := "poolSome", apart := false, narrowed := true }
def PoolSomeUptoSaid : Prop := poolSomeUptoRow.holds Try.pinned (OpenSpec.upto poolSomeSpec)

/-- 'prebendlaw14.PoolTwice', WHERE WHAT IT READS IS OF BULK AT MOST 1048576: true; the input reads as it did. -/
def poolTwiceUptoRow : OpenClaim := { program := "ytpppicehpadcbaa", sum := "ff2fb8ce45d654d9f47b1460449fc21f2fa26244e1f9b3ab32b5d50d77714e16", func := "prebend/prebendlaw14.PoolTwice", spec := "poolTwice", apart := false, narrowed := true }
def PoolTwiceUptoSaid : Prop := poolTwiceUptoRow.holds Try.pinned (OpenSpec.upto poolTwiceSpec)

/-- 'prebendlaw10.RatePrices', WHERE WHAT IT READS IS OF BULK AT MOST 1048576: true; the input reads as it did. -/
def ratePricesUptoRow : OpenClaim := { program := "ytpppicehpadcbaa", sum := "ff2fb8ce45d654d9f47b1460449fc21f2fa26244e1f9b3ab32b5d50d77714e16", func := "prebend/prebendlaw10.RatePrices", spec := "ratePrices", apart := false, narrowed := true }
def RatePricesUptoSaid : Prop := ratePricesUptoRow.holds Try.pinned (OpenSpec.upto ratePricesSpec)

/-- 'prebendlaw10.RateSets', WHERE WHAT IT READS IS OF BULK AT MOST 1048576: true; the input reads as it did. -/
def rateSetsUptoRow : OpenClaim := { program := "ytpppicehpadcbaa", sum := "ff2fb8ce45d654d9f47b1460449fc21f2fa26244e1f9b3ab32b5d50d77714e16", func := "prebend/prebendlaw10.RateSets", spec := "rateSets", apart := false, narrowed := true }
def RateSetsUptoSaid : Prop := rateSetsUptoRow.holds Try.pinned (OpenSpec.upto rateSetsSpec)

/-- 'prebendlaw10.RateStays', WHERE WHAT IT READS IS OF BULK AT MOST 1048576: true; the input reads as it did. -/
def rateStaysUptoRow : OpenClaim := { program := "ytpppicehpadcbaa", sum := "ff2fb8ce45d654d9f47b1460449fc21f2fa26244e1f9b3ab32b5d50d77714e16", func := "prebend/prebendlaw10.RateStays", spec := "rateStays", apart := false, narrowed := true }
def RateStaysUptoSaid : Prop := rateStaysUptoRow.holds Try.pinned (OpenSpec.upto rateStaysSpec)

/-- 'prebendlaw04.CheckOf', WHERE WHAT IT READS IS OF BULK AT MOST 1048576: true; the input reads as it did. -/
def checkOfUptoRow : OpenClaim := { program := "ytpppicehpadcbaa", sum := "ff2fb8ce45d654d9f47b1460449fc21f2fa26244e1f9b3ab32b5d50d77714e16", func := "prebend/prebendlaw04.CheckOf", spec := "checkOf", apart := false, narrowed := true }
def CheckOfUptoSaid : Prop := checkOfUptoRow.holds Try.pinned (OpenSpec.upto checkOfSpec)

/-- 'prebendlaw04.CheckParts', WHERE WHAT IT READS IS OF BULK AT MOST 1048576: true; the input reads as it did. -/
def checkPartsUptoRow : OpenClaim := { program := "ytpppicehpadcbaa", sum := "ff2fb8ce45d654d9f47b1460449fc21f2fa26244e1f9b3ab32b5d50d77714e16", func := "prebend/prebendlaw04.CheckParts", spec := "checkParts", apart := false, narrowed := true }
def CheckPartsUptoSaid : Prop := checkPartsUptoRow.holds Try.pinned (OpenSpec.upto checkPartsSpec)

/-- 'prebendlaw04.CheckBurst', WHERE WHAT IT READS IS OF BULK AT MOST 1048576: true; the input reads as it did. -/
def checkBurstUptoRow : OpenClaim := { program := "ytpppicehpadcbaa", sum := "ff2fb8ce45d654d9f47b1460449fc21f2fa26244e1f9b3ab32b5d50d77714e16", func := "prebend/prebendlaw04.CheckBurst", spec := "checkBurst", apart := false, narrowed := true }
def CheckBurstUptoSaid : Prop := checkBurstUptoRow.holds Try.pinned (OpenSpec.upto checkBurstSpec)

/-- 'prebendlaw04.CheckFour', WHERE WHAT IT READS IS OF BULK AT MOST 1048576: true; the input reads as it did. -/
def checkFourUptoRow : OpenClaim := { program := "ytpppicehpadcbaa", sum := "ff2fb8ce45d654d9f47b1460449fc21f2fa26244e1f9b3ab32b5d50d77714e16", func := "prebend/prebendlaw04.CheckFour", spec := "checkFour", apart := false, narrowed := true }
def CheckFourUptoSaid : Prop := checkFourUptoRow.holds Try.pinned (OpenSpec.upto checkFourSpec)

end Rows
end Go.Proofs.Ytpppicehpadcbaa
