/-
  No cell of these rows narrows 'for every input' (looked for: loops, veiled, ifaces, maps, wideKeys, modest, calm, conditions, laid).
  DERIVED. THE GIVEN ROWS OF THIS SEAT. 4 by the template 'for every input the law returns true; each argument reads behind the call as it read before'; 0 by the template 'total and deterministic' (their statements: YtfdjbmamidmgfaaTotals.lean).
  GIVEN WITH THE SEED: the statements are not yours to turn. If you find one false, say at which input.
  Laid BY PROGRAM, IN A SANDBOX (cutbox-rows.mjs): the forced cells as the released guide's own fill.sh prints them over the translation 9f5cc6ef3a044691… (all of the seat's roots in one cut). By AI agents, Wed Nov 11 2026. No macro, syntax, notation, axiom, sorry.
-/
import Derived.Test.YtfdjbmamidmgfaaChecked
import GoSem.Claim
import GoSem.ClaimJoined
import GoSem.ClaimMapViews
import Derived.JoinedTies
import Derived.KernelRfl
namespace Go.Proofs.Ytfdjbmamidmgfaa
/- THE CELL 'sum', in the pinned program and in every row, IS THE sha256 OF THE DUMP (.gsa) THAT YtfdjbmamidmgfaaProg.lean LOADS. Nothing in Lean hashes anything: it is a label: what it is worth is what the hold of that sum in a sandbox is worth. -/
noncomputable def Try.pinned : Pinned := { name := "ytfdjbmamidmgfaa", sum := "9f5cc6ef3a044691b25a10bf41293b24522e5bcdf0b6e2b91a02105f2b643863", checked := Try.checked }
namespace Rows
def none {H : Type} : Left H := { results := [], args := [] }

/-- 'cleaverlaw11.ZgcdCommon': WHATEVER THE INPUT: true; the input reads as it did. -/
def zgcdCommonSpec : ChangeSpec := { name := "zgcdCommon", fn := fun _ => fun
  | [d1, d2] => { results := [.lit (.bool true)], args := [d1, d2] }
  | _ => none }
def zgcdCommonRow : OpenClaim := { program := "ytfdjbmamidmgfaa", sum := "9f5cc6ef3a044691b25a10bf41293b24522e5bcdf0b6e2b91a02105f2b643863", func := "cleaver/cleaverlaw11.ZgcdCommon", spec := "zgcdCommon", inPlace := ["math/bits.Add64", "math/bits.Sub64", "internal/abi.NoEscape", "internal/bytealg.MakeNoZero"], unfollowed := true, recurses := true, named := ["math/bits.divideError", "math/bits.overflowError"], apart := false }
def ZgcdCommonSaid : Prop := zgcdCommonRow.holds Try.pinned (OpenSpec.ofChange zgcdCommonSpec)

/-- ITS FALSE NEIGHBOUR: 'it returns false'. Refute it at one input. -/
def zgcdCommonWrong : ChangeSpec := { name := "zgcdCommon", fn := fun _ => fun
  | [d1, d2] => { results := [.lit (.bool false)], args := [d1, d2] }
  | _ => none }
def ZgcdCommonWrongFalsely : Prop := zgcdCommonRow.holds Try.pinned (OpenSpec.ofChange zgcdCommonWrong)

/-- 'cleaverlaw11.ZgcdProducts': WHATEVER THE INPUT: true; the input reads as it did. -/
def zgcdProductsSpec : ChangeSpec := { name := "zgcdProducts", fn := fun _ => fun
  | [d1, d2, d3, d4] => { results := [.lit (.bool true)], args := [d1, d2, d3, d4] }
  | _ => none }
def zgcdProductsRow : OpenClaim := { program := "ytfdjbmamidmgfaa", sum := "9f5cc6ef3a044691b25a10bf41293b24522e5bcdf0b6e2b91a02105f2b643863", func := "cleaver/cleaverlaw11.ZgcdProducts", spec := "zgcdProducts", inPlace := ["math/bits.Add64", "math/bits.Sub64", "internal/abi.NoEscape", "internal/bytealg.MakeNoZero"], unfollowed := true, recurses := true, named := ["math/bits.divideError", "math/bits.overflowError"], apart := false }
def ZgcdProductsSaid : Prop := zgcdProductsRow.holds Try.pinned (OpenSpec.ofChange zgcdProductsSpec)

/-- ITS FALSE NEIGHBOUR: 'it returns false'. Refute it at one input. -/
def zgcdProductsWrong : ChangeSpec := { name := "zgcdProducts", fn := fun _ => fun
  | [d1, d2, d3, d4] => { results := [.lit (.bool false)], args := [d1, d2, d3, d4] }
  | _ => none }
def ZgcdProductsWrongFalsely : Prop := zgcdProductsRow.holds Try.pinned (OpenSpec.ofChange zgcdProductsWrong)

/-- 'cleaverlaw14.LatticeFirst': WHATEVER THE INPUT: true; the input reads as it did. -/
def latticeFirstSpec : ChangeSpec := { name := "latticeFirst", fn := fun _ => fun
  | [d1, d2] => { results := [.lit (.bool true)], args := [d1, d2] }
  | _ => none }
def latticeFirstRow : OpenClaim := { program := "ytfdjbmamidmgfaa", sum := "9f5cc6ef3a044691b25a10bf41293b24522e5bcdf0b6e2b91a02105f2b643863", func := "cleaver/cleaverlaw14.LatticeFirst", spec := "latticeFirst", inPlace := ["math/bits.Add64", "math/bits.Sub64", "internal/abi.NoEscape", "internal/bytealg.MakeNoZero"], unfollowed := true, recurses := true, named := ["math/bits.divideError", "math/bits.overflowError"], apart := false }
def LatticeFirstSaid : Prop := latticeFirstRow.holds Try.pinned (OpenSpec.ofChange latticeFirstSpec)

/-- ITS FALSE NEIGHBOUR: 'it returns false'. Refute it at one input. -/
def latticeFirstWrong : ChangeSpec := { name := "latticeFirst", fn := fun _ => fun
  | [d1, d2] => { results := [.lit (.bool false)], args := [d1, d2] }
  | _ => none }
def LatticeFirstWrongFalsely : Prop := latticeFirstRow.holds Try.pinned (OpenSpec.ofChange latticeFirstWrong)

/-- 'cleaverlaw14.LatticeMakes': WHATEVER THE INPUT: true; the input reads as it did. -/
def latticeMakesSpec : ChangeSpec := { name := "latticeMakes", fn := fun _ => fun
  | [d1, d2] => { results := [.lit (.bool true)], args := [d1, d2] }
  | _ => none }
def latticeMakesRow : OpenClaim := { program := "ytfdjbmamidmgfaa", sum := "9f5cc6ef3a044691b25a10bf41293b24522e5bcdf0b6e2b91a02105f2b643863", func := "cleaver/cleaverlaw14.LatticeMakes", spec := "latticeMakes", inPlace := ["math/bits.Add64", "math/bits.Sub64", "internal/abi.NoEscape", "internal/bytealg.MakeNoZero"], unfollowed := true, recurses := true, named := ["math/bits.divideError", "math/bits.overflowError"], apart := false }
def LatticeMakesSaid : Prop := latticeMakesRow.holds Try.pinned (OpenSpec.ofChange latticeMakesSpec)

/-- ITS FALSE NEIGHBOUR: 'it returns false'. Refute it at one input. -/
def latticeMakesWrong : ChangeSpec := { name := "latticeMakes", fn := fun _ => fun
  | [d1, d2] => { results := [.lit (.bool false)], args := [d1, d2] }
  | _ => none }
def LatticeMakesWrongFalsely : Prop := latticeMakesRow.holds Try.pinned (OpenSpec.ofChange latticeMakesWrong)

/- THE SECOND FORM. 'bulk': how many values and letters a reading holds, each counted each time it is reached (what is shared counts as often as it is met; a slice's spare places count too). A statement '..UptoSaid' is the law's where the arguments, and the package variables that the reading takes, are together of bulk at most 1048576: NARROWER than '..Said'. Prove '..Said' where nothing that the law and all that it calls make is longer than what came in: it says more and counts as full. Else prove '..UptoSaid'. A law counts once. -/
mutual
def uptoBulk {H : Type} : DataW H → Nat
  | .lit (.string bytes) => bytes.length + 1
  | .lit _ => 1
  | .nil => 1
  | .ptr d => uptoBulk d + 1
  | .slice elems spare => uptoBulkAll elems + uptoBulkAll spare + 1
  | .agg parts => uptoBulkAll parts + 1
  | .iface _ d => uptoBulk d + 1
  | .map entries => uptoBulkEntries entries + 1
  | .held _ => 1
def uptoBulkAll {H : Type} : List (DataW H) → Nat
  | [] => 0
  | d :: r => uptoBulk d + uptoBulkAll r
def uptoBulkEntries {H : Type} : List (Lit × DataW H) → Nat
  | [] => 0
  | x :: r => uptoBulkEntry x + uptoBulkEntries r
def uptoBulkEntry {H : Type} : Lit × DataW H → Nat
  | (.string bytes, d) => bytes.length + uptoBulk d + 1
  | (_, d) => uptoBulk d + 1
 end
def uptoSmall : (H : Type) → List (DataW H) → Bool := fun _ ds => decide (uptoBulkAll ds ≤ 1048576)
def OpenSpec.upto (s : _root_.Go.ChangeSpec) : _root_.Go.OpenSpec := { _root_.Go.OpenSpec.ofChange s with cond := some uptoSmall }

/-- 'cleaverlaw11.ZgcdCommon', WHERE WHAT IT READS IS OF BULK AT MOST 1048576: true; the input reads as it did. -/
def zgcdCommonUptoRow : OpenClaim := { program := "ytfdjbmamidmgfaa", sum := "9f5cc6ef3a044691b25a10bf41293b24522e5bcdf0b6e2b91a02105f2b643863", func := "cleaver/cleaverlaw11.ZgcdCommon", spec := "zgcdCommon", inPlace := ["math/bits.Add64", "math/bits.Sub64", "internal/abi.NoEscape", "internal/bytealg.MakeNoZero"], unfollowed := true, recurses := true, named := ["math/bits.divideError", "math/bits.overflowError"], apart := false, narrowed := true }
def ZgcdCommonUptoSaid : Prop := zgcdCommonUptoRow.holds Try.pinned (OpenSpec.upto zgcdCommonSpec)

/-- 'cleaverlaw11.ZgcdProducts', WHERE WHAT IT READS IS OF BULK AT MOST 1048576: true; the input reads as it did. -/
def zgcdProductsUptoRow : OpenClaim := { program := "ytfdjbmamidmgfaa", sum := "9f5cc6ef3a044691b25a10bf41293b24522e5bcdf0b6e2b91a02105f2b643863", func := "cleaver/cleaverlaw11.ZgcdProducts", spec := "zgcdProducts", inPlace := ["math/bits.Add64", "math/bits.Sub64", "internal/abi.NoEscape", "internal/bytealg.MakeNoZero"], unfollowed := true, recurses := true, named := ["math/bits.divideError", "math/bits.overflowError"], apart := false, narrowed := true }
def ZgcdProductsUptoSaid : Prop := zgcdProductsUptoRow.holds Try.pinned (OpenSpec.upto zgcdProductsSpec)

/-- 'cleaverlaw14.LatticeFirst', WHERE WHAT IT READS IS OF BULK AT MOST 1048576: true; the input reads as it did. -/
def latticeFirstUptoRow : OpenClaim := { program := "ytfdjbmamidmgfaa", sum := "9f5cc6ef3a044691b25a10bf41293b24522e5bcdf0b6e2b91a02105f2b643863", func := "cleaver/cleaverlaw14.LatticeFirst", spec := "latticeFirst", inPlace := ["math/bits.Add64", "math/bits.Sub64", "internal/abi.NoEscape", "internal/bytealg.MakeNoZero"], unfollowed := true, recurses := true, named := ["math/bits.divideError", "math/bits.overflowError"], apart := false, narrowed := true }
def LatticeFirstUptoSaid : Prop := latticeFirstUptoRow.holds Try.pinned (OpenSpec.upto latticeFirstSpec)

/-- 'cleaverlaw14.LatticeMakes', WHERE WHAT IT READS IS OF BULK AT MOST 1048576: true; the input reads as it did. -/
def latticeMakesUptoRow : OpenClaim := { program := "ytfdjbmamidmgfaa", sum := "9f5cc6ef3a044691b25a10bf41293b24522e5bcdf0b6e2b91a02105f2b643863", func := "cleaver/cleaverlaw14.LatticeMakes", spec := "latticeMakes", inPlace := ["math/bits.Add64", "math/bits.Sub64", "internal/abi.NoEscape", "internal/bytealg.MakeNoZero"], unfollowed := true, recurses := true, named := ["math/bits.divideError", "math/bits.overflowError"], apart := false, narrowed := true }
def LatticeMakesUptoSaid : Prop := latticeMakesUptoRow.holds Try.pinned (OpenSpec.upto latticeMakesSpec)

end Rows
end Go.Proofs.Ytfdjbmamidmgfaa
