/-
  No cell of these rows narrows 'for every input' (looked for: loops, veiled, ifaces, maps, wideKeys, modest, calm, conditions, laid).
  DERIVED. THE GIVEN ROWS OF THIS SEAT. 10 by the template 'for every input the law returns true; each argument reads behind the call as it read before'; 0 by the template 'total and deterministic' (their statements: YtfdjbmamidmgfaaGreatTotals.lean).
  GIVEN WITH THE SEED: the statements are not yours to turn. If you find one false, say at which input.
  Laid BY PROGRAM, IN A SANDBOX (cutbox-rows.mjs): the forced cells as the released guide's own fill.sh prints them over the translation 01ffe0811f1e2556… (all of the seat's roots in one cut). By AI agents, Wed Nov 11 2026. No macro, syntax, notation, axiom, sorry.
-/
import Derived.Test.YtfdjbmamidmgfaaGreatChecked
import GoSem.Claim
import GoSem.ClaimJoined
import GoSem.ClaimMapViews
import Derived.JoinedTies
import Derived.KernelRfl
namespace Go.Proofs.YtfdjbmamidmgfaaGreat
/- THE CELL 'sum', in the pinned program and in every row, IS THE sha256 OF THE DUMP (.gsa) THAT YtfdjbmamidmgfaaGreatProg.lean LOADS. Nothing in Lean hashes anything: it is a label: what it is worth is what the hold of that sum in a sandbox is worth. -/
noncomputable def Tryz.pinned : Pinned := { name := "ytfdjbmamidmgfaagreat", sum := "01ffe0811f1e25567d5f0a3aec62ed07732fac260557f1cd7eea91e50cea6643", checked := Tryz.checked }
namespace Rows
def none {H : Type} : Left H := { results := [], args := [] }

/-- 'cleaverlaw11.ZgcdResultants': WHATEVER THE INPUT: true; the input reads as it did. -/
def zgcdResultantsSpec : ChangeSpec := { name := "zgcdResultants", fn := fun _ => fun
  | [d1, d2] => { results := [.lit (.bool true)], args := [d1, d2] }
  | _ => none }
def zgcdResultantsRow : OpenClaim := { program := "ytfdjbmamidmgfaagreat", sum := "01ffe0811f1e25567d5f0a3aec62ed07732fac260557f1cd7eea91e50cea6643", func := "cleaver/cleaverlaw11.ZgcdResultants", spec := "zgcdResultants", inPlace := ["math/bits.Add64", "math/bits.Sub64", "internal/abi.NoEscape", "internal/bytealg.MakeNoZero"], unfollowed := true, recurses := true, named := ["math/bits.divideError", "math/bits.overflowError"], apart := false }
def ZgcdResultantsSaid : Prop := zgcdResultantsRow.holds Tryz.pinned (OpenSpec.ofChange zgcdResultantsSpec)

/-- ITS FALSE NEIGHBOUR: 'it returns false'. Refute it at one input. -/
def zgcdResultantsWrong : ChangeSpec := { name := "zgcdResultants", fn := fun _ => fun
  | [d1, d2] => { results := [.lit (.bool false)], args := [d1, d2] }
  | _ => none }
def ZgcdResultantsWrongFalsely : Prop := zgcdResultantsRow.holds Tryz.pinned (OpenSpec.ofChange zgcdResultantsWrong)

/-- 'cleaverlaw12.ZsqfApart': WHATEVER THE INPUT: true; the input reads as it did. -/
def zsqfApartSpec : ChangeSpec := { name := "zsqfApart", fn := fun _ => fun
  | [d] => { results := [.lit (.bool true)], args := [d] }
  | _ => none }
def zsqfApartRow : OpenClaim := { program := "ytfdjbmamidmgfaagreat", sum := "01ffe0811f1e25567d5f0a3aec62ed07732fac260557f1cd7eea91e50cea6643", func := "cleaver/cleaverlaw12.ZsqfApart", spec := "zsqfApart", inPlace := ["math/bits.Add64", "math/bits.Sub64", "internal/abi.NoEscape", "internal/bytealg.MakeNoZero"], unfollowed := true, recurses := true, named := ["math/bits.divideError", "math/bits.overflowError"], apart := false }
def ZsqfApartSaid : Prop := zsqfApartRow.holds Tryz.pinned (OpenSpec.ofChange zsqfApartSpec)

/-- ITS FALSE NEIGHBOUR: 'it returns false'. Refute it at one input. -/
def zsqfApartWrong : ChangeSpec := { name := "zsqfApart", fn := fun _ => fun
  | [d] => { results := [.lit (.bool false)], args := [d] }
  | _ => none }
def ZsqfApartWrongFalsely : Prop := zsqfApartRow.holds Tryz.pinned (OpenSpec.ofChange zsqfApartWrong)

/-- 'cleaverlaw12.ZsqfProduct': WHATEVER THE INPUT: true; the input reads as it did. -/
def zsqfProductSpec : ChangeSpec := { name := "zsqfProduct", fn := fun _ => fun
  | [d] => { results := [.lit (.bool true)], args := [d] }
  | _ => none }
def zsqfProductRow : OpenClaim := { program := "ytfdjbmamidmgfaagreat", sum := "01ffe0811f1e25567d5f0a3aec62ed07732fac260557f1cd7eea91e50cea6643", func := "cleaver/cleaverlaw12.ZsqfProduct", spec := "zsqfProduct", inPlace := ["math/bits.Add64", "math/bits.Sub64", "internal/abi.NoEscape", "internal/bytealg.MakeNoZero"], unfollowed := true, recurses := true, named := ["math/bits.divideError", "math/bits.overflowError"], apart := false }
def ZsqfProductSaid : Prop := zsqfProductRow.holds Tryz.pinned (OpenSpec.ofChange zsqfProductSpec)

/-- ITS FALSE NEIGHBOUR: 'it returns false'. Refute it at one input. -/
def zsqfProductWrong : ChangeSpec := { name := "zsqfProduct", fn := fun _ => fun
  | [d] => { results := [.lit (.bool false)], args := [d] }
  | _ => none }
def ZsqfProductWrongFalsely : Prop := zsqfProductRow.holds Tryz.pinned (OpenSpec.ofChange zsqfProductWrong)

/-- 'cleaverlaw12.ZsqfBound': WHATEVER THE INPUT: true; the input reads as it did. -/
def zsqfBoundSpec : ChangeSpec := { name := "zsqfBound", fn := fun _ => fun
  | [d1, d2] => { results := [.lit (.bool true)], args := [d1, d2] }
  | _ => none }
def zsqfBoundRow : OpenClaim := { program := "ytfdjbmamidmgfaagreat", sum := "01ffe0811f1e25567d5f0a3aec62ed07732fac260557f1cd7eea91e50cea6643", func := "cleaver/cleaverlaw12.ZsqfBound", spec := "zsqfBound", inPlace := ["math/bits.Add64", "math/bits.Sub64", "internal/abi.NoEscape", "internal/bytealg.MakeNoZero"], unfollowed := true, recurses := true, named := ["math/bits.divideError", "math/bits.overflowError"], apart := false }
def ZsqfBoundSaid : Prop := zsqfBoundRow.holds Tryz.pinned (OpenSpec.ofChange zsqfBoundSpec)

/-- ITS FALSE NEIGHBOUR: 'it returns false'. Refute it at one input. -/
def zsqfBoundWrong : ChangeSpec := { name := "zsqfBound", fn := fun _ => fun
  | [d1, d2] => { results := [.lit (.bool false)], args := [d1, d2] }
  | _ => none }
def ZsqfBoundWrongFalsely : Prop := zsqfBoundRow.holds Tryz.pinned (OpenSpec.ofChange zsqfBoundWrong)

/-- 'cleaverlaw12.ZsqfParts': WHATEVER THE INPUT: true; the input reads as it did. -/
def zsqfPartsSpec : ChangeSpec := { name := "zsqfParts", fn := fun _ => fun
  | [d] => { results := [.lit (.bool true)], args := [d] }
  | _ => none }
def zsqfPartsRow : OpenClaim := { program := "ytfdjbmamidmgfaagreat", sum := "01ffe0811f1e25567d5f0a3aec62ed07732fac260557f1cd7eea91e50cea6643", func := "cleaver/cleaverlaw12.ZsqfParts", spec := "zsqfParts", inPlace := ["math/bits.Add64", "math/bits.Sub64", "internal/abi.NoEscape", "internal/bytealg.MakeNoZero"], unfollowed := true, recurses := true, named := ["math/bits.divideError", "math/bits.overflowError"], apart := false }
def ZsqfPartsSaid : Prop := zsqfPartsRow.holds Tryz.pinned (OpenSpec.ofChange zsqfPartsSpec)

/-- ITS FALSE NEIGHBOUR: 'it returns false'. Refute it at one input. -/
def zsqfPartsWrong : ChangeSpec := { name := "zsqfParts", fn := fun _ => fun
  | [d] => { results := [.lit (.bool false)], args := [d] }
  | _ => none }
def ZsqfPartsWrongFalsely : Prop := zsqfPartsRow.holds Tryz.pinned (OpenSpec.ofChange zsqfPartsWrong)

/-- 'cleaverlaw12.ZsqfPowers': WHATEVER THE INPUT: true; the input reads as it did. -/
def zsqfPowersSpec : ChangeSpec := { name := "zsqfPowers", fn := fun _ => fun
  | [d1, d2] => { results := [.lit (.bool true)], args := [d1, d2] }
  | _ => none }
def zsqfPowersRow : OpenClaim := { program := "ytfdjbmamidmgfaagreat", sum := "01ffe0811f1e25567d5f0a3aec62ed07732fac260557f1cd7eea91e50cea6643", func := "cleaver/cleaverlaw12.ZsqfPowers", spec := "zsqfPowers", inPlace := ["math/bits.Add64", "math/bits.Sub64", "internal/abi.NoEscape", "internal/bytealg.MakeNoZero"], unfollowed := true, recurses := true, named := ["math/bits.divideError", "math/bits.overflowError"], apart := false }
def ZsqfPowersSaid : Prop := zsqfPowersRow.holds Tryz.pinned (OpenSpec.ofChange zsqfPowersSpec)

/-- ITS FALSE NEIGHBOUR: 'it returns false'. Refute it at one input. -/
def zsqfPowersWrong : ChangeSpec := { name := "zsqfPowers", fn := fun _ => fun
  | [d1, d2] => { results := [.lit (.bool false)], args := [d1, d2] }
  | _ => none }
def ZsqfPowersWrongFalsely : Prop := zsqfPowersRow.holds Tryz.pinned (OpenSpec.ofChange zsqfPowersWrong)

/-- 'cleaverlaw14.LatticeReduces': WHATEVER THE INPUT: true; the input reads as it did. -/
def latticeReducesSpec : ChangeSpec := { name := "latticeReduces", fn := fun _ => fun
  | [d] => { results := [.lit (.bool true)], args := [d] }
  | _ => none }
def latticeReducesRow : OpenClaim := { program := "ytfdjbmamidmgfaagreat", sum := "01ffe0811f1e25567d5f0a3aec62ed07732fac260557f1cd7eea91e50cea6643", func := "cleaver/cleaverlaw14.LatticeReduces", spec := "latticeReduces", inPlace := ["math/bits.Add64", "math/bits.Sub64", "internal/abi.NoEscape", "internal/bytealg.MakeNoZero"], unfollowed := true, recurses := true, named := ["math/bits.divideError", "math/bits.overflowError"], apart := false }
def LatticeReducesSaid : Prop := latticeReducesRow.holds Tryz.pinned (OpenSpec.ofChange latticeReducesSpec)

/-- ITS FALSE NEIGHBOUR: 'it returns false'. Refute it at one input. -/
def latticeReducesWrong : ChangeSpec := { name := "latticeReduces", fn := fun _ => fun
  | [d] => { results := [.lit (.bool false)], args := [d] }
  | _ => none }
def LatticeReducesWrongFalsely : Prop := latticeReducesRow.holds Tryz.pinned (OpenSpec.ofChange latticeReducesWrong)

/-- 'cleaverlaw14.LatticeDots': WHATEVER THE INPUT: true; the input reads as it did. -/
def latticeDotsSpec : ChangeSpec := { name := "latticeDots", fn := fun _ => fun
  | [d1, d2, d3] => { results := [.lit (.bool true)], args := [d1, d2, d3] }
  | _ => none }
def latticeDotsRow : OpenClaim := { program := "ytfdjbmamidmgfaagreat", sum := "01ffe0811f1e25567d5f0a3aec62ed07732fac260557f1cd7eea91e50cea6643", func := "cleaver/cleaverlaw14.LatticeDots", spec := "latticeDots", inPlace := ["math/bits.Add64", "math/bits.Sub64", "internal/abi.NoEscape", "internal/bytealg.MakeNoZero"], unfollowed := true, recurses := true, named := ["math/bits.divideError", "math/bits.overflowError"], apart := false }
def LatticeDotsSaid : Prop := latticeDotsRow.holds Tryz.pinned (OpenSpec.ofChange latticeDotsSpec)

/-- ITS FALSE NEIGHBOUR: 'it returns false'. Refute it at one input. -/
def latticeDotsWrong : ChangeSpec := { name := "latticeDots", fn := fun _ => fun
  | [d1, d2, d3] => { results := [.lit (.bool false)], args := [d1, d2, d3] }
  | _ => none }
def LatticeDotsWrongFalsely : Prop := latticeDotsRow.holds Tryz.pinned (OpenSpec.ofChange latticeDotsWrong)

/-- 'cleaverlaw14.LatticeIn': WHATEVER THE INPUT: true; the input reads as it did. -/
def latticeInSpec : ChangeSpec := { name := "latticeIn", fn := fun _ => fun
  | [d1, d2] => { results := [.lit (.bool true)], args := [d1, d2] }
  | _ => none }
def latticeInRow : OpenClaim := { program := "ytfdjbmamidmgfaagreat", sum := "01ffe0811f1e25567d5f0a3aec62ed07732fac260557f1cd7eea91e50cea6643", func := "cleaver/cleaverlaw14.LatticeIn", spec := "latticeIn", inPlace := ["math/bits.Add64", "math/bits.Sub64", "internal/abi.NoEscape", "internal/bytealg.MakeNoZero"], unfollowed := true, recurses := true, named := ["math/bits.divideError", "math/bits.overflowError"], apart := false }
def LatticeInSaid : Prop := latticeInRow.holds Tryz.pinned (OpenSpec.ofChange latticeInSpec)

/-- ITS FALSE NEIGHBOUR: 'it returns false'. Refute it at one input. -/
def latticeInWrong : ChangeSpec := { name := "latticeIn", fn := fun _ => fun
  | [d1, d2] => { results := [.lit (.bool false)], args := [d1, d2] }
  | _ => none }
def LatticeInWrongFalsely : Prop := latticeInRow.holds Tryz.pinned (OpenSpec.ofChange latticeInWrong)

/-- 'cleaverlaw14.LatticeShort': WHATEVER THE INPUT: true; the input reads as it did. -/
def latticeShortSpec : ChangeSpec := { name := "latticeShort", fn := fun _ => fun
  | [d] => { results := [.lit (.bool true)], args := [d] }
  | _ => none }
def latticeShortRow : OpenClaim := { program := "ytfdjbmamidmgfaagreat", sum := "01ffe0811f1e25567d5f0a3aec62ed07732fac260557f1cd7eea91e50cea6643", func := "cleaver/cleaverlaw14.LatticeShort", spec := "latticeShort", inPlace := ["math/bits.Add64", "math/bits.Sub64", "internal/abi.NoEscape", "internal/bytealg.MakeNoZero"], unfollowed := true, recurses := true, named := ["math/bits.divideError", "math/bits.overflowError"], apart := false }
def LatticeShortSaid : Prop := latticeShortRow.holds Tryz.pinned (OpenSpec.ofChange latticeShortSpec)

/-- ITS FALSE NEIGHBOUR: 'it returns false'. Refute it at one input. -/
def latticeShortWrong : ChangeSpec := { name := "latticeShort", fn := fun _ => fun
  | [d] => { results := [.lit (.bool false)], args := [d] }
  | _ => none }
def LatticeShortWrongFalsely : Prop := latticeShortRow.holds Tryz.pinned (OpenSpec.ofChange latticeShortWrong)

/- THE SECOND FORM. 'bulk': how many values and letters a reading holds, each counted each time it is reached (what is shared counts as often as it is met; a slice's spare places count too). A statement '..UptoSaid' is the law's where the arguments, and the package variables that the reading takes, are together of bulk at most 1048576: NARROWER than '..Said'. Prove '..Said' where nothing that the law and all that it calls make is longer than what came in: it says more and counts as full. Else prove '..UptoSaid'. A law counts once. -/
mutual
def uptoBulk {H : Type} : DataW H → Nat
  | .lit (.string bytes) => bytes.length + 1
  | .lit _ => 1
  | .nil => 1
  | .ptr d => uptoBulk d + 1
  | .slice elems spare => uptoBulkAll elems + uptoBulkAll spare + 1
  | .agg parts => uptoBulkAll parts + 1
  | .iface _ d => uptoBulk d + 1
  | .map entries => uptoBulkEntries entries + 1
  | .held _ => 1
def uptoBulkAll {H : Type} : List (DataW H) → Nat
  | [] => 0
  | d :: r => uptoBulk d + uptoBulkAll r
def uptoBulkEntries {H : Type} : List (Lit × DataW H) → Nat
  | [] => 0
  | x :: r => uptoBulkEntry x + uptoBulkEntries r
def uptoBulkEntry {H : Type} : Lit × DataW H → Nat
  | (.string bytes, d) => bytes.length + uptoBulk d + 1
  | (_, d) => uptoBulk d + 1
 end
def uptoSmall : (H : Type) → List (DataW H) → Bool := fun _ ds => decide (uptoBulkAll ds ≤ 1048576)
def OpenSpec.upto (s : _root_.Go.ChangeSpec) : _root_.Go.OpenSpec := { _root_.Go.OpenSpec.ofChange s with cond := some uptoSmall }

/-- 'cleaverlaw11.ZgcdResultants', WHERE WHAT IT READS IS OF BULK AT MOST 1048576: true; the input reads as it did. -/
def zgcdResultantsUptoRow : OpenClaim := { program := "ytfdjbmamidmgfaagreat", sum := "01ffe0811f1e25567d5f0a3aec62ed07732fac260557f1cd7eea91e50cea6643", func := "cleaver/cleaverlaw11.ZgcdResultants", spec := "zgcdResultants", inPlace := ["math/bits.Add64", "math/bits.Sub64", "internal/abi.NoEscape", "internal/bytealg.MakeNoZero"], unfollowed := true, recurses := true, named := ["math/bits.divideError", "math/bits.overflowError"], apart := false, narrowed := true }
def ZgcdResultantsUptoSaid : Prop := zgcdResultantsUptoRow.holds Tryz.pinned (OpenSpec.upto zgcdResultantsSpec)

/-- 'cleaverlaw12.ZsqfApart', WHERE WHAT IT READS IS OF BULK AT MOST 1048576: true; the input reads as it did. -/
def zsqfApartUptoRow : OpenClaim := { program := "ytfdjbmamidmgfaagreat", sum := "01ffe0811f1e25567d5f0a3aec62ed07732fac260557f1cd7eea91e50cea6643", func := "cleaver/cleaverlaw12.ZsqfApart", spec := "zsqfApart", inPlace := ["math/bits.Add64", "math/bits.Sub64", "internal/abi.NoEscape", "internal/bytealg.MakeNoZero"], unfollowed := true, recurses := true, named := ["math/bits.divideError", "math/bits.overflowError"], apart := false, narrowed := true }
def ZsqfApartUptoSaid : Prop := zsqfApartUptoRow.holds Tryz.pinned (OpenSpec.upto zsqfApartSpec)

/-- 'cleaverlaw12.ZsqfProduct', WHERE WHAT IT READS IS OF BULK AT MOST 1048576: true; the input reads as it did. -/
def zsqfProductUptoRow : OpenClaim := { program := "ytfdjbmamidmgfaagreat", sum := "01ffe0811f1e25567d5f0a3aec62ed07732fac260557f1cd7eea91e50cea6643", func := "cleaver/cleaverlaw12.ZsqfProduct", spec := "zsqfProduct", inPlace := ["math/bits.Add64", "math/bits.Sub64", "internal/abi.NoEscape", "internal/bytealg.MakeNoZero"], unfollowed := true, recurses := true, named := ["math/bits.divideError", "math/bits.overflowError"], apart := false, narrowed := true }
def ZsqfProductUptoSaid : Prop := zsqfProductUptoRow.holds Tryz.pinned (OpenSpec.upto zsqfProductSpec)

/-- 'cleaverlaw12.ZsqfBound', WHERE WHAT IT READS IS OF BULK AT MOST 1048576: true; the input reads as it did. -/
def zsqfBoundUptoRow : OpenClaim := { program := "ytfdjbmamidmgfaagreat", sum := "01ffe0811f1e25567d5f0a3aec62ed07732fac260557f1cd7eea91e50cea6643", func := "cleaver/cleaverlaw12.ZsqfBound", spec := "zsqfBound", inPlace := ["math/bits.Add64", "math/bits.Sub64", "internal/abi.NoEscape", "internal/bytealg.MakeNoZero"], unfollowed := true, recurses := true, named := ["math/bits.divideError", "math/bits.overflowError"], apart := false, narrowed := true }
def ZsqfBoundUptoSaid : Prop := zsqfBoundUptoRow.holds Tryz.pinned (OpenSpec.upto zsqfBoundSpec)

/-- 'cleaverlaw12.ZsqfParts', WHERE WHAT IT READS IS OF BULK AT MOST 1048576: true; the input reads as it did. -/
def zsqfPartsUptoRow : OpenClaim := { program := "ytfdjbmamidmgfaagreat", sum := "01ffe0811f1e25567d5f0a3aec62ed07732fac260557f1cd7eea91e50cea6643", func := "cleaver/cleaverlaw12.ZsqfParts", spec := "zsqfParts", inPlace := ["math/bits.Add64", "math/bits.Sub64", "internal/abi.NoEscape", "internal/bytealg.MakeNoZero"], unfollowed := true, recurses := true, named := ["math/bits.divideError", "math/bits.overflowError"], apart := false, narrowed := true }
def ZsqfPartsUptoSaid : Prop := zsqfPartsUptoRow.holds Tryz.pinned (OpenSpec.upto zsqfPartsSpec)

/-- 'cleaverlaw12.ZsqfPowers', WHERE WHAT IT READS IS OF BULK AT MOST 1048576: true; the input reads as it did. -/
def zsqfPowersUptoRow : OpenClaim := { program := "ytfdjbmamidmgfaagreat", sum := "01ffe0811f1e25567d5f0a3aec62ed07732fac260557f1cd7eea91e50cea6643", func := "cleaver/cleaverlaw12.ZsqfPowers", spec := "zsqfPowers", inPlace := ["math/bits.Add64", "math/bits.Sub64", "internal/abi.NoEscape", "internal/bytealg.MakeNoZero"], unfollowed := true, recurses := true, named := ["math/bits.divideError", "math/bits.overflowError"], apart := false, narrowed := true }
def ZsqfPowersUptoSaid : Prop := zsqfPowersUptoRow.holds Tryz.pinned (OpenSpec.upto zsqfPowersSpec)

/-- 'cleaverlaw14.LatticeReduces', WHERE WHAT IT READS IS OF BULK AT MOST 1048576: true; the input reads as it did. -/
def latticeReducesUptoRow : OpenClaim := { program := "ytfdjbmamidmgfaagreat", sum := "01ffe0811f1e25567d5f0a3aec62ed07732fac260557f1cd7eea91e50cea6643", func := "cleaver/cleaverlaw14.LatticeReduces", spec := "latticeReduces", inPlace := ["math/bits.Add64", "math/bits.Sub64", "internal/abi.NoEscape", "internal/bytealg.MakeNoZero"], unfollowed := true, recurses := true, named := ["math/bits.divideError", "math/bits.overflowError"], apart := false, narrowed := true }
def LatticeReducesUptoSaid : Prop := latticeReducesUptoRow.holds Tryz.pinned (OpenSpec.upto latticeReducesSpec)

/-- 'cleaverlaw14.LatticeDots', WHERE WHAT IT READS IS OF BULK AT MOST 1048576: true; the input reads as it did. -/
def latticeDotsUptoRow : OpenClaim := { program := "ytfdjbmamidmgfaagreat", sum := "01ffe0811f1e25567d5f0a3aec62ed07732fac260557f1cd7eea91e50cea6643", func := "cleaver/cleaverlaw14.LatticeDots", spec := "latticeDots", inPlace := ["math/bits.Add64", "math/bits.Sub64", "internal/abi.NoEscape", "internal/bytealg.MakeNoZero"], unfollowed := true, recurses := true, named := ["math/bits.divideError", "math/bits.overflowError"], apart := false, narrowed := true }
def LatticeDotsUptoSaid : Prop := latticeDotsUptoRow.holds Tryz.pinned (OpenSpec.upto latticeDotsSpec)

/-- 'cleaverlaw14.LatticeIn', WHERE WHAT IT READS IS OF BULK AT MOST 1048576: true; the input reads as it did. -/
def latticeInUptoRow : OpenClaim := { program := "ytfdjbmamidmgfaagreat", sum := "01ffe0811f1e25567d5f0a3aec62ed07732fac260557f1cd7eea91e50cea6643", func := "cleaver/cleaverlaw14.LatticeIn", spec := "latticeIn", inPlace := ["math/bits.Add64", "math/bits.Sub64", "internal/abi.NoEscape", "internal/bytealg.MakeNoZero"], unfollowed := true, recurses := true, named := ["math/bits.divideError", "math/bits.overflowError"], apart := false, narrowed := true }
def LatticeInUptoSaid : Prop := latticeInUptoRow.holds Tryz.pinned (OpenSpec.upto latticeInSpec)

/-- 'cleaverlaw14.LatticeShort', WHERE WHAT IT READS IS OF BULK AT MOST 1048576: true; the input reads as it did. -/
def latticeShortUptoRow : OpenClaim := { program := "ytfdjbmamidmgfaagreat", sum := "01ffe0811f1e25567d5f0a3aec62ed07732fac260557f1cd7eea91e50cea6643", func := "cleaver/cleaverlaw14.LatticeShort", spec := "latticeShort", inPlace := ["math/bits.Add64", "math/bits.Sub64", "internal/abi.NoEscape", "internal/bytealg.MakeNoZero"], unfollowed := true, recurses := true, named := ["math/bits.divideError", "math/bits.overflowError"], apart := false, narrowed := true }
def LatticeShortUptoSaid : Prop := latticeShortUptoRow.holds Tryz.pinned (OpenSpec.upto latticeShortSpec)

end Rows
end Go.Proofs.YtfdjbmamidmgfaaGreat
