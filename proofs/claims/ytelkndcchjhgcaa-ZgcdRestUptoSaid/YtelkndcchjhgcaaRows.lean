/-
  No cell of these rows narrows 'for every input' (looked for: loops, veiled, ifaces, maps, wideKeys, modest, calm, conditions, laid).
  DERIVED. THE GIVEN ROWS OF THIS SEAT. 8 by the template 'for every input the law returns true; each argument reads behind the call as it read before'; 0 by the template 'total and deterministic' (their statements: YtelkndcchjhgcaaTotals.lean).
  GIVEN WITH THE SEED: the statements are not yours to turn. If you find one false, say at which input.
  Laid BY PROGRAM, IN A SANDBOX (cutbox-rows.mjs): the forced cells as the released guide's own fill.sh prints them over the translation 77997c5b17dd86d8… (all of the seat's roots in one cut). By AI agents, Wed Nov 11 2026. No macro, syntax, notation, axiom, sorry.
-/
import Derived.Test.YtelkndcchjhgcaaChecked
import GoSem.Claim
import GoSem.ClaimJoined
import GoSem.ClaimMapViews
import Derived.JoinedTies
import Derived.KernelRfl
namespace Go.Proofs.Ytelkndcchjhgcaa
/- THE CELL 'sum', in the pinned program and in every row, IS THE sha256 OF THE DUMP (.gsa) THAT YtelkndcchjhgcaaProg.lean LOADS. Nothing in Lean hashes anything: it is a label: what it is worth is what the hold of that sum in a sandbox is worth. -/
noncomputable def Try.pinned : Pinned := { name := "ytelkndcchjhgcaa", sum := "77997c5b17dd86d8a2de686fd254a948200a9d6a82d1edd8fab425da72156494", checked := Try.checked }
namespace Rows
def none {H : Type} : Left H := { results := [], args := [] }

/-- 'cleaverlaw10.ZpolyDivides': WHATEVER THE INPUT: true; the input reads as it did. -/
def zpolyDividesSpec : ChangeSpec := { name := "zpolyDivides", fn := fun _ => fun
  | [d1, d2] => { results := [.lit (.bool true)], args := [d1, d2] }
  | _ => none }
def zpolyDividesRow : OpenClaim := { program := "ytelkndcchjhgcaa", sum := "77997c5b17dd86d8a2de686fd254a948200a9d6a82d1edd8fab425da72156494", func := "cleaver/cleaverlaw10.ZpolyDivides", spec := "zpolyDivides", inPlace := ["math/bits.Add64", "math/bits.Sub64", "internal/abi.NoEscape", "internal/bytealg.MakeNoZero"], unfollowed := true, recurses := true, named := ["math/bits.divideError", "math/bits.overflowError"], apart := false }
def ZpolyDividesSaid : Prop := zpolyDividesRow.holds Try.pinned (OpenSpec.ofChange zpolyDividesSpec)

/-- ITS FALSE NEIGHBOUR: 'it returns false'. Refute it at one input. -/
def zpolyDividesWrong : ChangeSpec := { name := "zpolyDivides", fn := fun _ => fun
  | [d1, d2] => { results := [.lit (.bool false)], args := [d1, d2] }
  | _ => none }
def ZpolyDividesWrongFalsely : Prop := zpolyDividesRow.holds Try.pinned (OpenSpec.ofChange zpolyDividesWrong)

/-- 'cleaverlaw10.ZpolyGauss': WHATEVER THE INPUT: true; the input reads as it did. -/
def zpolyGaussSpec : ChangeSpec := { name := "zpolyGauss", fn := fun _ => fun
  | [d1, d2] => { results := [.lit (.bool true)], args := [d1, d2] }
  | _ => none }
def zpolyGaussRow : OpenClaim := { program := "ytelkndcchjhgcaa", sum := "77997c5b17dd86d8a2de686fd254a948200a9d6a82d1edd8fab425da72156494", func := "cleaver/cleaverlaw10.ZpolyGauss", spec := "zpolyGauss", inPlace := ["math/bits.Add64", "math/bits.Sub64", "internal/abi.NoEscape", "internal/bytealg.MakeNoZero"], unfollowed := true, recurses := true, named := ["math/bits.divideError", "math/bits.overflowError"], apart := false }
def ZpolyGaussSaid : Prop := zpolyGaussRow.holds Try.pinned (OpenSpec.ofChange zpolyGaussSpec)

/-- ITS FALSE NEIGHBOUR: 'it returns false'. Refute it at one input. -/
def zpolyGaussWrong : ChangeSpec := { name := "zpolyGauss", fn := fun _ => fun
  | [d1, d2] => { results := [.lit (.bool false)], args := [d1, d2] }
  | _ => none }
def ZpolyGaussWrongFalsely : Prop := zpolyGaussRow.holds Try.pinned (OpenSpec.ofChange zpolyGaussWrong)

/-- 'cleaverlaw10.ZpolyExact': WHATEVER THE INPUT: true; the input reads as it did. -/
def zpolyExactSpec : ChangeSpec := { name := "zpolyExact", fn := fun _ => fun
  | [d1, d2] => { results := [.lit (.bool true)], args := [d1, d2] }
  | _ => none }
def zpolyExactRow : OpenClaim := { program := "ytelkndcchjhgcaa", sum := "77997c5b17dd86d8a2de686fd254a948200a9d6a82d1edd8fab425da72156494", func := "cleaver/cleaverlaw10.ZpolyExact", spec := "zpolyExact", inPlace := ["math/bits.Add64", "math/bits.Sub64", "internal/abi.NoEscape", "internal/bytealg.MakeNoZero"], unfollowed := true, recurses := true, named := ["math/bits.divideError", "math/bits.overflowError"], apart := false }
def ZpolyExactSaid : Prop := zpolyExactRow.holds Try.pinned (OpenSpec.ofChange zpolyExactSpec)

/-- ITS FALSE NEIGHBOUR: 'it returns false'. Refute it at one input. -/
def zpolyExactWrong : ChangeSpec := { name := "zpolyExact", fn := fun _ => fun
  | [d1, d2] => { results := [.lit (.bool false)], args := [d1, d2] }
  | _ => none }
def ZpolyExactWrongFalsely : Prop := zpolyExactRow.holds Try.pinned (OpenSpec.ofChange zpolyExactWrong)

/-- 'cleaverlaw10.ZpolyRing': WHATEVER THE INPUT: true; the input reads as it did. -/
def zpolyRingSpec : ChangeSpec := { name := "zpolyRing", fn := fun _ => fun
  | [d1, d2, d3] => { results := [.lit (.bool true)], args := [d1, d2, d3] }
  | _ => none }
def zpolyRingRow : OpenClaim := { program := "ytelkndcchjhgcaa", sum := "77997c5b17dd86d8a2de686fd254a948200a9d6a82d1edd8fab425da72156494", func := "cleaver/cleaverlaw10.ZpolyRing", spec := "zpolyRing", inPlace := ["math/bits.Add64", "math/bits.Sub64", "internal/abi.NoEscape", "internal/bytealg.MakeNoZero"], unfollowed := true, recurses := true, named := ["math/bits.divideError", "math/bits.overflowError"], apart := false }
def ZpolyRingSaid : Prop := zpolyRingRow.holds Try.pinned (OpenSpec.ofChange zpolyRingSpec)

/-- ITS FALSE NEIGHBOUR: 'it returns false'. Refute it at one input. -/
def zpolyRingWrong : ChangeSpec := { name := "zpolyRing", fn := fun _ => fun
  | [d1, d2, d3] => { results := [.lit (.bool false)], args := [d1, d2, d3] }
  | _ => none }
def ZpolyRingWrongFalsely : Prop := zpolyRingRow.holds Try.pinned (OpenSpec.ofChange zpolyRingWrong)

/-- 'cleaverlaw10.ZpolyValues': WHATEVER THE INPUT: true; the input reads as it did. -/
def zpolyValuesSpec : ChangeSpec := { name := "zpolyValues", fn := fun _ => fun
  | [d1, d2, d3] => { results := [.lit (.bool true)], args := [d1, d2, d3] }
  | _ => none }
def zpolyValuesRow : OpenClaim := { program := "ytelkndcchjhgcaa", sum := "77997c5b17dd86d8a2de686fd254a948200a9d6a82d1edd8fab425da72156494", func := "cleaver/cleaverlaw10.ZpolyValues", spec := "zpolyValues", inPlace := ["math/bits.Add64", "math/bits.Sub64", "internal/abi.NoEscape", "internal/bytealg.MakeNoZero"], unfollowed := true, recurses := true, named := ["math/bits.divideError", "math/bits.overflowError"], apart := false }
def ZpolyValuesSaid : Prop := zpolyValuesRow.holds Try.pinned (OpenSpec.ofChange zpolyValuesSpec)

/-- ITS FALSE NEIGHBOUR: 'it returns false'. Refute it at one input. -/
def zpolyValuesWrong : ChangeSpec := { name := "zpolyValues", fn := fun _ => fun
  | [d1, d2, d3] => { results := [.lit (.bool false)], args := [d1, d2, d3] }
  | _ => none }
def ZpolyValuesWrongFalsely : Prop := zpolyValuesRow.holds Try.pinned (OpenSpec.ofChange zpolyValuesWrong)

/-- 'cleaverlaw10.ZpolyRests': WHATEVER THE INPUT: true; the input reads as it did. -/
def zpolyRestsSpec : ChangeSpec := { name := "zpolyRests", fn := fun _ => fun
  | [d1, d2, d3] => { results := [.lit (.bool true)], args := [d1, d2, d3] }
  | _ => none }
def zpolyRestsRow : OpenClaim := { program := "ytelkndcchjhgcaa", sum := "77997c5b17dd86d8a2de686fd254a948200a9d6a82d1edd8fab425da72156494", func := "cleaver/cleaverlaw10.ZpolyRests", spec := "zpolyRests", inPlace := ["math/bits.Add64", "math/bits.Sub64", "internal/abi.NoEscape", "internal/bytealg.MakeNoZero"], unfollowed := true, recurses := true, named := ["math/bits.divideError", "math/bits.overflowError"], apart := false }
def ZpolyRestsSaid : Prop := zpolyRestsRow.holds Try.pinned (OpenSpec.ofChange zpolyRestsSpec)

/-- ITS FALSE NEIGHBOUR: 'it returns false'. Refute it at one input. -/
def zpolyRestsWrong : ChangeSpec := { name := "zpolyRests", fn := fun _ => fun
  | [d1, d2, d3] => { results := [.lit (.bool false)], args := [d1, d2, d3] }
  | _ => none }
def ZpolyRestsWrongFalsely : Prop := zpolyRestsRow.holds Try.pinned (OpenSpec.ofChange zpolyRestsWrong)

/-- 'cleaverlaw11.ZgcdRest': WHATEVER THE INPUT: true; the input reads as it did. -/
def zgcdRestSpec : ChangeSpec := { name := "zgcdRest", fn := fun _ => fun
  | [d1, d2] => { results := [.lit (.bool true)], args := [d1, d2] }
  | _ => none }
def zgcdRestRow : OpenClaim := { program := "ytelkndcchjhgcaa", sum := "77997c5b17dd86d8a2de686fd254a948200a9d6a82d1edd8fab425da72156494", func := "cleaver/cleaverlaw11.ZgcdRest", spec := "zgcdRest", inPlace := ["math/bits.Add64", "math/bits.Sub64", "internal/abi.NoEscape", "internal/bytealg.MakeNoZero"], unfollowed := true, recurses := true, named := ["math/bits.divideError", "math/bits.overflowError"], apart := false }
def ZgcdRestSaid : Prop := zgcdRestRow.holds Try.pinned (OpenSpec.ofChange zgcdRestSpec)

/-- ITS FALSE NEIGHBOUR: 'it returns false'. Refute it at one input. -/
def zgcdRestWrong : ChangeSpec := { name := "zgcdRest", fn := fun _ => fun
  | [d1, d2] => { results := [.lit (.bool false)], args := [d1, d2] }
  | _ => none }
def ZgcdRestWrongFalsely : Prop := zgcdRestRow.holds Try.pinned (OpenSpec.ofChange zgcdRestWrong)

/-- 'cleaverlaw11.ZgcdDivides': WHATEVER THE INPUT: true; the input reads as it did. -/
def zgcdDividesSpec : ChangeSpec := { name := "zgcdDivides", fn := fun _ => fun
  | [d1, d2, d3] => { results := [.lit (.bool true)], args := [d1, d2, d3] }
  | _ => none }
def zgcdDividesRow : OpenClaim := { program := "ytelkndcchjhgcaa", sum := "77997c5b17dd86d8a2de686fd254a948200a9d6a82d1edd8fab425da72156494", func := "cleaver/cleaverlaw11.ZgcdDivides", spec := "zgcdDivides", inPlace := ["math/bits.Add64", "math/bits.Sub64", "internal/abi.NoEscape", "internal/bytealg.MakeNoZero"], unfollowed := true, recurses := true, named := ["math/bits.divideError", "math/bits.overflowError"], apart := false }
def ZgcdDividesSaid : Prop := zgcdDividesRow.holds Try.pinned (OpenSpec.ofChange zgcdDividesSpec)

/-- ITS FALSE NEIGHBOUR: 'it returns false'. Refute it at one input. -/
def zgcdDividesWrong : ChangeSpec := { name := "zgcdDivides", fn := fun _ => fun
  | [d1, d2, d3] => { results := [.lit (.bool false)], args := [d1, d2, d3] }
  | _ => none }
def ZgcdDividesWrongFalsely : Prop := zgcdDividesRow.holds Try.pinned (OpenSpec.ofChange zgcdDividesWrong)

/- THE SECOND FORM. 'bulk': how many values and letters a reading holds, each counted each time it is reached (what is shared counts as often as it is met; a slice's spare places count too). A statement '..UptoSaid' is the law's where the arguments, and the package variables that the reading takes, are together of bulk at most 1048576: NARROWER than '..Said'. Prove '..Said' where nothing that the law and all that it calls make is longer than what came in: it says more and counts as full. Else prove '..UptoSaid'. A law counts once. -/
mutual
def uptoBulk {H : Type} : DataW H → Nat
  | .lit (.string bytes) => bytes.length + 1
  | .lit _ => 1
  | .nil => 1
  | .ptr d => uptoBulk d + 1
  | .slice elems spare => uptoBulkAll elems + uptoBulkAll spare + 1
  | .agg parts => uptoBulkAll parts + 1
  | .iface _ d => uptoBulk d + 1
  | .map entries => uptoBulkEntries entries + 1
  | .held _ => 1
def uptoBulkAll {H : Type} : List (DataW H) → Nat
  | [] => 0
  | d :: r => uptoBulk d + uptoBulkAll r
def uptoBulkEntries {H : Type} : List (Lit × DataW H) → Nat
  | [] => 0
  | x :: r => uptoBulkEntry x + uptoBulkEntries r
def uptoBulkEntry {H : Type} : Lit × DataW H → Nat
  | (.string bytes, d) => bytes.length + uptoBulk d + 1
  | (_, d) => uptoBulk d + 1
 end
def uptoSmall : (H : Type) → List (DataW H) → Bool := fun _ ds => decide (uptoBulkAll ds ≤ 1048576)
def OpenSpec.upto (s : _root_.Go.ChangeSpec) : _root_.Go.OpenSpec := { _root_.Go.OpenSpec.ofChange s with cond := some uptoSmall }

/-- 'cleaverlaw10.ZpolyDivides', WHERE WHAT IT READS IS OF BULK AT MOST 1048576: true; the input reads as it did. -/
def zpolyDividesUptoRow : OpenClaim := { program := "ytelkndcchjhgcaa", sum := "77997c5b17dd86d8a2de686fd254a948200a9d6a82d1edd8fab425da72156494", func := "cleaver/cleaverlaw10.ZpolyDivides", spec := "zpolyDivides", inPlace := ["math/bits.Add64", "math/bits.Sub64", "internal/abi.NoEscape", "internal/bytealg.MakeNoZero"], unfollowed := true, recurses := true, named := ["math/bits.divideError", "math/bits.overflowError"], apart := false, narrowed := true }
def ZpolyDividesUptoSaid : Prop := zpolyDividesUptoRow.holds Try.pinned (OpenSpec.upto zpolyDividesSpec)

/-- 'cleaverlaw10.ZpolyGauss', WHERE WHAT IT READS IS OF BULK AT MOST 1048576: true; the input reads as it did. -/
def zpolyGaussUptoRow : OpenClaim := { program := "ytelkndcchjhgcaa", sum := "77997c5b17dd86d8a2de686fd254a948200a9d6a82d1edd8fab425da72156494", func := "cleaver/cleaverlaw10.ZpolyGauss", spec := "zpolyGauss", inPlace := ["math/bits.Add64", "math/bits.Sub64", "internal/abi.NoEscape", "internal/bytealg.MakeNoZero"], unfollowed := true, recurses := true, named := ["math/bits.divideError", "math/bits.overflowError"], apart := false, narrowed := true }
def ZpolyGaussUptoSaid : Prop := zpolyGaussUptoRow.holds Try.pinned (OpenSpec.upto zpolyGaussSpec)

/-- 'cleaverlaw10.ZpolyExact', WHERE WHAT IT READS IS OF BULK AT MOST 1048576: true; the input reads as it did. -/
def zpolyExactUptoRow : OpenClaim := { program := "ytelkndcchjhgcaa", sum := "77997c5b17dd86d8a2de686fd254a948200a9d6a82d1edd8fab425da72156494", func := "cleaver/cleaverlaw10.ZpolyExact", spec := "zpolyExact", inPlace := ["math/bits.Add64", "math/bits.Sub64", "internal/abi.NoEscape", "internal/bytealg.MakeNoZero"], unfollowed := true, recurses := true, named := ["math/bits.divideError", "math/bits.overflowError"], apart := false, narrowed := true }
def ZpolyExactUptoSaid : Prop := zpolyExactUptoRow.holds Try.pinned (OpenSpec.upto zpolyExactSpec)

/-- 'cleaverlaw10.ZpolyRing', WHERE WHAT IT READS IS OF BULK AT MOST 1048576: true; the input reads as it did. -/
def zpolyRingUptoRow : OpenClaim := { program := "ytelkndcchjhgcaa", sum := "77997c5b17dd86d8a2de686fd254a948200a9d6a82d1edd8fab425da72156494", func := "cleaver/cleaverlaw10.ZpolyRing", spec := "zpolyRing", inPlace := ["math/bits.Add64", "math/bits.Sub64", "internal/abi.NoEscape", "internal/bytealg.MakeNoZero"], unfollowed := true, recurses := true, named := ["math/bits.divideError", "math/bits.overflowError"], apart := false, narrowed := true }
def ZpolyRingUptoSaid : Prop := zpolyRingUptoRow.holds Try.pinned (OpenSpec.upto zpolyRingSpec)

/-- 'cleaverlaw10.ZpolyValues', WHERE WHAT IT READS IS OF BULK AT MOST 1048576: true; the input reads as it did. -/
def zpolyValuesUptoRow : OpenClaim := { program := "ytelkndcchjhgcaa", sum := "77997c5b17dd86d8a2de686fd254a948200a9d6a82d1edd8fab425da72156494", func := "cleaver/cleaverlaw10.ZpolyValues", spec := "zpolyValues", inPlace := ["math/bits.Add64", "math/bits.Sub64", "internal/abi.NoEscape", "internal/bytealg.MakeNoZero"], unfollowed := true, recurses := true, named := ["math/bits.divideError", "math/bits.overflowError"], apart := false, narrowed := true }
def ZpolyValuesUptoSaid : Prop := zpolyValuesUptoRow.holds Try.pinned (OpenSpec.upto zpolyValuesSpec)

/-- 'cleaverlaw10.ZpolyRests', WHERE WHAT IT READS IS OF BULK AT MOST 1048576: true; the input reads as it did. -/
def zpolyRestsUptoRow : OpenClaim := { program := "ytelkndcchjhgcaa", sum := "77997c5b17dd86d8a2de686fd254a948200a9d6a82d1edd8fab425da72156494", func := "cleaver/cleaverlaw10.ZpolyRests", spec := "zpolyRests", inPlace := ["math/bits.Add64", "math/bits.Sub64", "internal/abi.NoEscape", "internal/bytealg.MakeNoZero"], unfollowed := true, recurses := true, named := ["math/bits.divideError", "math/bits.overflowError"], apart := false, narrowed := true }
def ZpolyRestsUptoSaid : Prop := zpolyRestsUptoRow.holds Try.pinned (OpenSpec.upto zpolyRestsSpec)

/-- 'cleaverlaw11.ZgcdRest', WHERE WHAT IT READS IS OF BULK AT MOST 1048576: true; the input reads as it did. -/
def zgcdRestUptoRow : OpenClaim := { program := "ytelkndcchjhgcaa", sum := "77997c5b17dd86d8a2de686fd254a948200a9d6a82d1edd8fab425da72156494", func := "cleaver/cleaverlaw11.ZgcdRest", spec := "zgcdRest", inPlace := ["math/bits.Add64", "math/bits.Sub64", "internal/abi.NoEscape", "internal/bytealg.MakeNoZero"], unfollowed := true, recurses := true, named := ["math/bits.divideError", "math/bits.overflowError"], apart := false, narrowed := true }
def ZgcdRestUptoSaid : Prop := zgcdRestUptoRow.holds Try.pinned (OpenSpec.upto zgcdRestSpec)

/-- 'cleaverlaw11.ZgcdDivides', WHERE WHAT IT READS IS OF BULK AT MOST 1048576: true; the input reads as it did. -/
def zgcdDividesUptoRow : OpenClaim := { program := "ytelkndcchjhgcaa", sum := "77997c5b17dd86d8a2de686fd254a948200a9d6a82d1edd8fab425da72156494", func := "cleaver/cleaverlaw11.ZgcdDivides", spec := "zgcdDivides", inPlace := ["math/bits.Add64", "math/bits.Sub64", "internal/abi.NoEscape", "internal/bytealg.MakeNoZero"], unfollowed := true, recurses := true, named := ["math/bits.divideError", "math/bits.overflowError"], apart := false, narrowed := true }
def ZgcdDividesUptoSaid : Prop := zgcdDividesUptoRow.holds Try.pinned (OpenSpec.upto zgcdDividesSpec)

end Rows
end Go.Proofs.Ytelkndcchjhgcaa
