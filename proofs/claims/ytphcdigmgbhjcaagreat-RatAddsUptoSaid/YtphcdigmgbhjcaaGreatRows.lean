/-
  No cell of these rows narrows 'for every input' (looked for: loops, veiled, ifaces, maps, wideKeys, modest, calm, conditions, laid).
  DERIVED. THE GIVEN ROWS OF THIS SEAT. 5 by the template 'for every input the law returns true; each argument reads behind the call as it read before'; 0 by the template 'total and deterministic' (their statements: YtphcdigmgbhjcaaGreatTotals.lean).
  GIVEN WITH THE SEED: the statements are not yours to turn. If you find one false, say at which input.
  Laid BY PROGRAM, IN A SANDBOX (cutbox-rows.mjs): the forced cells as the released guide's own fill.sh prints them over the translation a093e81c6dbc7c06… (all of the seat's roots in one cut). By AI agents, Wed Nov 11 2026. No macro, syntax, notation, axiom, sorry.
-/
import Derived.Test.YtphcdigmgbhjcaaGreatChecked
import GoSem.Claim
import GoSem.ClaimJoined
import GoSem.ClaimMapViews
import Derived.JoinedTies
import Derived.KernelRfl
namespace Go.Proofs.YtphcdigmgbhjcaaGreat
/- THE CELL 'sum', in the pinned program and in every row, IS THE sha256 OF THE DUMP (.gsa) THAT YtphcdigmgbhjcaaGreatProg.lean LOADS. Nothing in Lean hashes anything: it is a label: what it is worth is what the hold of that sum in a sandbox is worth. -/
noncomputable def Tryz.pinned : Pinned := { name := "ytphcdigmgbhjcaagreat", sum := "a093e81c6dbc7c060a35a79c1bb9fb848ed6946e688ab94bb67bc6c6b83233b8", checked := Tryz.checked }
namespace Rows
def none {H : Type} : Left H := { results := [], args := [] }

/-- 'cleaverlaw04.PrimeCrts': WHATEVER THE INPUT: true; the input reads as it did. -/
def primeCrtsSpec : ChangeSpec := { name := "primeCrts", fn := fun _ => fun
  | [d1, d2, d3, d4] => { results := [.lit (.bool true)], args := [d1, d2, d3, d4] }
  | _ => none }
def primeCrtsRow : OpenClaim := { program := "ytphcdigmgbhjcaagreat", sum := "a093e81c6dbc7c060a35a79c1bb9fb848ed6946e688ab94bb67bc6c6b83233b8", func := "cleaver/cleaverlaw04.PrimeCrts", spec := "primeCrts", inPlace := ["math/bits.Add64", "math/bits.Sub64", "internal/abi.NoEscape", "internal/bytealg.MakeNoZero"], unfollowed := true, recurses := true, named := ["math/bits.divideError", "math/bits.overflowError"], apart := false }
def PrimeCrtsSaid : Prop := primeCrtsRow.holds Tryz.pinned (OpenSpec.ofChange primeCrtsSpec)

/-- ITS FALSE NEIGHBOUR: 'it returns false'. Refute it at one input. -/
def primeCrtsWrong : ChangeSpec := { name := "primeCrts", fn := fun _ => fun
  | [d1, d2, d3, d4] => { results := [.lit (.bool false)], args := [d1, d2, d3, d4] }
  | _ => none }
def PrimeCrtsWrongFalsely : Prop := primeCrtsRow.holds Tryz.pinned (OpenSpec.ofChange primeCrtsWrong)

/-- 'cleaverlaw04.PrimeFractions': WHATEVER THE INPUT: true; the input reads as it did. -/
def primeFractionsSpec : ChangeSpec := { name := "primeFractions", fn := fun _ => fun
  | [d1, d2] => { results := [.lit (.bool true)], args := [d1, d2] }
  | _ => none }
def primeFractionsRow : OpenClaim := { program := "ytphcdigmgbhjcaagreat", sum := "a093e81c6dbc7c060a35a79c1bb9fb848ed6946e688ab94bb67bc6c6b83233b8", func := "cleaver/cleaverlaw04.PrimeFractions", spec := "primeFractions", inPlace := ["math/bits.Add64", "math/bits.Sub64", "internal/abi.NoEscape", "internal/bytealg.MakeNoZero"], unfollowed := true, recurses := true, named := ["math/bits.divideError", "math/bits.overflowError"], apart := false }
def PrimeFractionsSaid : Prop := primeFractionsRow.holds Tryz.pinned (OpenSpec.ofChange primeFractionsSpec)

/-- ITS FALSE NEIGHBOUR: 'it returns false'. Refute it at one input. -/
def primeFractionsWrong : ChangeSpec := { name := "primeFractions", fn := fun _ => fun
  | [d1, d2] => { results := [.lit (.bool false)], args := [d1, d2] }
  | _ => none }
def PrimeFractionsWrongFalsely : Prop := primeFractionsRow.holds Tryz.pinned (OpenSpec.ofChange primeFractionsWrong)

/-- 'cleaverlaw03.RatTexts': WHATEVER THE INPUT: true; the input reads as it did. -/
def ratTextsSpec : ChangeSpec := { name := "ratTexts", fn := fun _ => fun
  | [d1, d2] => { results := [.lit (.bool true)], args := [d1, d2] }
  | _ => none }
def ratTextsRow : OpenClaim := { program := "ytphcdigmgbhjcaagreat", sum := "a093e81c6dbc7c060a35a79c1bb9fb848ed6946e688ab94bb67bc6c6b83233b8", func := "cleaver/cleaverlaw03.RatTexts", spec := "ratTexts", inPlace := ["math/bits.Add64", "math/bits.Sub64", "internal/bytealg.IndexByteString", "internal/bytealg.IndexString", "internal/abi.NoEscape", "internal/bytealg.MakeNoZero"], unfollowed := true, recurses := true, named := ["math/bits.divideError", "math/bits.overflowError", "internal/bytealg.MaxLen"], apart := false }
def RatTextsSaid : Prop := ratTextsRow.holds Tryz.pinned (OpenSpec.ofChange ratTextsSpec)

/-- ITS FALSE NEIGHBOUR: 'it returns false'. Refute it at one input. -/
def ratTextsWrong : ChangeSpec := { name := "ratTexts", fn := fun _ => fun
  | [d1, d2] => { results := [.lit (.bool false)], args := [d1, d2] }
  | _ => none }
def RatTextsWrongFalsely : Prop := ratTextsRow.holds Tryz.pinned (OpenSpec.ofChange ratTextsWrong)

/-- 'cleaverlaw04.PrimeRests': WHATEVER THE INPUT: true; the input reads as it did. -/
def primeRestsSpec : ChangeSpec := { name := "primeRests", fn := fun _ => fun
  | [d1, d2, d3] => { results := [.lit (.bool true)], args := [d1, d2, d3] }
  | _ => none }
def primeRestsRow : OpenClaim := { program := "ytphcdigmgbhjcaagreat", sum := "a093e81c6dbc7c060a35a79c1bb9fb848ed6946e688ab94bb67bc6c6b83233b8", func := "cleaver/cleaverlaw04.PrimeRests", spec := "primeRests", inPlace := ["math/bits.Add64", "math/bits.Sub64", "internal/abi.NoEscape", "internal/bytealg.MakeNoZero"], unfollowed := true, recurses := true, named := ["math/bits.divideError", "math/bits.overflowError"], apart := false }
def PrimeRestsSaid : Prop := primeRestsRow.holds Tryz.pinned (OpenSpec.ofChange primeRestsSpec)

/-- ITS FALSE NEIGHBOUR: 'it returns false'. Refute it at one input. -/
def primeRestsWrong : ChangeSpec := { name := "primeRests", fn := fun _ => fun
  | [d1, d2, d3] => { results := [.lit (.bool false)], args := [d1, d2, d3] }
  | _ => none }
def PrimeRestsWrongFalsely : Prop := primeRestsRow.holds Tryz.pinned (OpenSpec.ofChange primeRestsWrong)

/-- 'cleaverlaw03.RatAdds': WHATEVER THE INPUT: true; the input reads as it did. -/
def ratAddsSpec : ChangeSpec := { name := "ratAdds", fn := fun _ => fun
  | [d1, d2] => { results := [.lit (.bool true)], args := [d1, d2] }
  | _ => none }
def ratAddsRow : OpenClaim := { program := "ytphcdigmgbhjcaagreat", sum := "a093e81c6dbc7c060a35a79c1bb9fb848ed6946e688ab94bb67bc6c6b83233b8", func := "cleaver/cleaverlaw03.RatAdds", spec := "ratAdds", inPlace := ["math/bits.Add64", "math/bits.Sub64", "internal/bytealg.IndexByteString", "internal/bytealg.IndexString", "internal/abi.NoEscape", "internal/bytealg.MakeNoZero"], unfollowed := true, recurses := true, named := ["math/bits.divideError", "math/bits.overflowError", "internal/bytealg.MaxLen"], apart := false }
def RatAddsSaid : Prop := ratAddsRow.holds Tryz.pinned (OpenSpec.ofChange ratAddsSpec)

/-- ITS FALSE NEIGHBOUR: 'it returns false'. Refute it at one input. -/
def ratAddsWrong : ChangeSpec := { name := "ratAdds", fn := fun _ => fun
  | [d1, d2] => { results := [.lit (.bool false)], args := [d1, d2] }
  | _ => none }
def RatAddsWrongFalsely : Prop := ratAddsRow.holds Tryz.pinned (OpenSpec.ofChange ratAddsWrong)

/- THE SECOND FORM. 'bulk': how many values and letters a reading holds, each counted each time it is reached (what is shared counts as often as it is met; a slice's spare places count too). A statement '..UptoSaid' is the law's where the arguments, and the package variables that the reading takes, are together of bulk at most 1048576: NARROWER than '..Said'. Prove '..Said' where nothing that the law and all that it calls make is longer than what came in: it says more and counts as full. Else prove '..UptoSaid'. A law counts once. -/
mutual
def uptoBulk {H : Type} : DataW H → Nat
  | .lit (.string bytes) => bytes.length + 1
  | .lit _ => 1
  | .nil => 1
  | .ptr d => uptoBulk d + 1
  | .slice elems spare => uptoBulkAll elems + uptoBulkAll spare + 1
  | .agg parts => uptoBulkAll parts + 1
  | .iface _ d => uptoBulk d + 1
  | .map entries => uptoBulkEntries entries + 1
  | .held _ => 1
def uptoBulkAll {H : Type} : List (DataW H) → Nat
  | [] => 0
  | d :: r => uptoBulk d + uptoBulkAll r
def uptoBulkEntries {H : Type} : List (Lit × DataW H) → Nat
  | [] => 0
  | x :: r => uptoBulkEntry x + uptoBulkEntries r
def uptoBulkEntry {H : Type} : Lit × DataW H → Nat
  | (.string bytes, d) => bytes.length + uptoBulk d + 1
  | (_, d) => uptoBulk d + 1
 end
def uptoSmall : (H : Type) → List (DataW H) → Bool := fun _ ds => decide (uptoBulkAll ds ≤ 1048576)
def OpenSpec.upto (s : _root_.Go.ChangeSpec) : _root_.Go.OpenSpec := { _root_.Go.OpenSpec.ofChange s with cond := some uptoSmall }

/-- 'cleaverlaw04.PrimeCrts', WHERE WHAT IT READS IS OF BULK AT MOST 1048576: true; the input reads as it did. -/
def primeCrtsUptoRow : OpenClaim := { program := "ytphcdigmgbhjcaagreat", sum := "a093e81c6dbc7c060a35a79c1bb9fb848ed6946e688ab94bb67bc6c6b83233b8", func := "cleaver/cleaverlaw04.PrimeCrts", spec := "primeCrts", inPlace := ["math/bits.Add64", "math/bits.Sub64", "internal/abi.NoEscape", "internal/bytealg.MakeNoZero"], unfollowed := true, recurses := true, named := ["math/bits.divideError", "math/bits.overflowError"], apart := false, narrowed := true }
def PrimeCrtsUptoSaid : Prop := primeCrtsUptoRow.holds Tryz.pinned (OpenSpec.upto primeCrtsSpec)

/-- 'cleaverlaw04.PrimeFractions', WHERE WHAT IT READS IS OF BULK AT MOST 1048576: true; the input reads as it did. -/
def primeFractionsUptoRow : OpenClaim := { program := "ytphcdigmgbhjcaagreat", sum := "a093e81c6dbc7c060a35a79c1bb9fb848ed6946e688ab94bb67bc6c6b83233b8", func := "cleaver/cleaverlaw04.PrimeFractions", spec := "primeFractions", inPlace := ["math/bits.Add64", "math/bits.Sub64", "internal/abi.NoEscape", "internal/bytealg.MakeNoZero"], unfollowed := true, recurses := true, named := ["math/bits.divideError", "math/bits.overflowError"], apart := false, narrowed := true }
def PrimeFractionsUptoSaid : Prop := primeFractionsUptoRow.holds Tryz.pinned (OpenSpec.upto primeFractionsSpec)

/-- 'cleaverlaw03.RatTexts', WHERE WHAT IT READS IS OF BULK AT MOST 1048576: true; the input reads as it did. -/
def ratTextsUptoRow : OpenClaim := { program := "ytphcdigmgbhjcaagreat", sum := "a093e81c6dbc7c060a35a79c1bb9fb848ed6946e688ab94bb67bc6c6b83233b8", func := "cleaver/cleaverlaw03.RatTexts", spec := "ratTexts", inPlace := ["math/bits.Add64", "math/bits.Sub64", "internal/bytealg.IndexByteString", "internal/bytealg.IndexString", "internal/abi.NoEscape", "internal/bytealg.MakeNoZero"], unfollowed := true, recurses := true, named := ["math/bits.divideError", "math/bits.overflowError", "internal/bytealg.MaxLen"], apart := false, narrowed := true }
def RatTextsUptoSaid : Prop := ratTextsUptoRow.holds Tryz.pinned (OpenSpec.upto ratTextsSpec)

/-- 'cleaverlaw04.PrimeRests', WHERE WHAT IT READS IS OF BULK AT MOST 1048576: true; the input reads as it did. -/
def primeRestsUptoRow : OpenClaim := { program := "ytphcdigmgbhjcaagreat", sum := "a093e81c6dbc7c060a35a79c1bb9fb848ed6946e688ab94bb67bc6c6b83233b8", func := "cleaver/cleaverlaw04.PrimeRests", spec := "primeRests", inPlace := ["math/bits.Add64", "math/bits.Sub64", "internal/abi.NoEscape", "internal/bytealg.MakeNoZero"], unfollowed := true, recurses := true, named := ["math/bits.divideError", "math/bits.overflowError"], apart := false, narrowed := true }
def PrimeRestsUptoSaid : Prop := primeRestsUptoRow.holds Tryz.pinned (OpenSpec.upto primeRestsSpec)

/-- 'cleaverlaw03.RatAdds', WHERE WHAT IT READS IS OF BULK AT MOST 1048576: true; the input reads as it did. -/
def ratAddsUptoRow : OpenClaim := { program := "ytphcdigmgbhjcaagreat", sum := "a093e81c6dbc7c060a35a79c1bb9fb848ed6946e688ab94bb67bc6c6b83233b8", func := "cleaver/cleaverlaw03.RatAdds", spec := "ratAdds", inPlace := ["math/bits.Add64", "math/bits.Sub64", "internal/bytealg.IndexByteString", "internal/bytealg.IndexString", "internal/abi.NoEscape", "internal/bytealg.MakeNoZero"], unfollowed := true, recurses := true, named := ["math/bits.divideError", "math/bits.overflowError", "internal/bytealg.MaxLen"], apart := false, narrowed := true }
def RatAddsUptoSaid : Prop := ratAddsUptoRow.holds Tryz.pinned (OpenSpec.upto ratAddsSpec)

end Rows
end Go.Proofs.YtphcdigmgbhjcaaGreat
