/-
  No cell of these rows narrows 'for every input' (looked for: loops, veiled, ifaces, maps, wideKeys, modest, calm, conditions, laid).
  DERIVED. THE GIVEN ROWS OF THIS SEAT. 4 by the template 'for every input the law returns true; each argument reads behind the call as it read before'; 0 by the template 'total and deterministic' (their statements: YtelkndcchjhgcaaGreatTotals.lean).
  GIVEN WITH THE SEED: the statements are not yours to turn. If you find one false, say at which input.
  Laid BY PROGRAM, IN A SANDBOX (cutbox-rows.mjs): the forced cells as the released guide's own fill.sh prints them over the translation 25bb36ccd33911b0… (all of the seat's roots in one cut). By AI agents, Wed Nov 11 2026. No macro, syntax, notation, axiom, sorry.
-/
import Derived.Test.YtelkndcchjhgcaaGreatChecked
import GoSem.Claim
import GoSem.ClaimJoined
import GoSem.ClaimMapViews
import Derived.JoinedTies
import Derived.KernelRfl
namespace Go.Proofs.YtelkndcchjhgcaaGreat
/- THE CELL 'sum', in the pinned program and in every row, IS THE sha256 OF THE DUMP (.gsa) THAT YtelkndcchjhgcaaGreatProg.lean LOADS. Nothing in Lean hashes anything: it is a label: what it is worth is what the hold of that sum in a sandbox is worth. -/
noncomputable def Tryz.pinned : Pinned := { name := "ytelkndcchjhgcaagreat", sum := "25bb36ccd33911b0b86d8b9f2928aaa3221f344ee35d2aebab89ec5e840f18b6", checked := Tryz.checked }
namespace Rows
def none {H : Type} : Left H := { results := [], args := [] }

/-- 'cleaverlaw10.ZpolyAdds': WHATEVER THE INPUT: true; the input reads as it did. -/
def zpolyAddsSpec : ChangeSpec := { name := "zpolyAdds", fn := fun _ => fun
  | [d1, d2, d3, d4] => { results := [.lit (.bool true)], args := [d1, d2, d3, d4] }
  | _ => none }
def zpolyAddsRow : OpenClaim := { program := "ytelkndcchjhgcaagreat", sum := "25bb36ccd33911b0b86d8b9f2928aaa3221f344ee35d2aebab89ec5e840f18b6", func := "cleaver/cleaverlaw10.ZpolyAdds", spec := "zpolyAdds", inPlace := ["math/bits.Add64", "math/bits.Sub64", "internal/abi.NoEscape", "internal/bytealg.MakeNoZero"], unfollowed := true, recurses := true, named := ["math/bits.divideError", "math/bits.overflowError"], apart := false }
def ZpolyAddsSaid : Prop := zpolyAddsRow.holds Tryz.pinned (OpenSpec.ofChange zpolyAddsSpec)

/-- ITS FALSE NEIGHBOUR: 'it returns false'. Refute it at one input. -/
def zpolyAddsWrong : ChangeSpec := { name := "zpolyAdds", fn := fun _ => fun
  | [d1, d2, d3, d4] => { results := [.lit (.bool false)], args := [d1, d2, d3, d4] }
  | _ => none }
def ZpolyAddsWrongFalsely : Prop := zpolyAddsRow.holds Tryz.pinned (OpenSpec.ofChange zpolyAddsWrong)

/-- 'cleaverlaw10.ZpolyTurns': WHATEVER THE INPUT: true; the input reads as it did. -/
def zpolyTurnsSpec : ChangeSpec := { name := "zpolyTurns", fn := fun _ => fun
  | [d1, d2, d3] => { results := [.lit (.bool true)], args := [d1, d2, d3] }
  | _ => none }
def zpolyTurnsRow : OpenClaim := { program := "ytelkndcchjhgcaagreat", sum := "25bb36ccd33911b0b86d8b9f2928aaa3221f344ee35d2aebab89ec5e840f18b6", func := "cleaver/cleaverlaw10.ZpolyTurns", spec := "zpolyTurns", inPlace := ["math/bits.Add64", "math/bits.Sub64", "internal/abi.NoEscape", "internal/bytealg.MakeNoZero"], unfollowed := true, recurses := true, named := ["math/bits.divideError", "math/bits.overflowError"], apart := false }
def ZpolyTurnsSaid : Prop := zpolyTurnsRow.holds Tryz.pinned (OpenSpec.ofChange zpolyTurnsSpec)

/-- ITS FALSE NEIGHBOUR: 'it returns false'. Refute it at one input. -/
def zpolyTurnsWrong : ChangeSpec := { name := "zpolyTurns", fn := fun _ => fun
  | [d1, d2, d3] => { results := [.lit (.bool false)], args := [d1, d2, d3] }
  | _ => none }
def ZpolyTurnsWrongFalsely : Prop := zpolyTurnsRow.holds Tryz.pinned (OpenSpec.ofChange zpolyTurnsWrong)

/-- 'cleaverlaw11.ZgcdPseudo': WHATEVER THE INPUT: true; the input reads as it did. -/
def zgcdPseudoSpec : ChangeSpec := { name := "zgcdPseudo", fn := fun _ => fun
  | [d1, d2] => { results := [.lit (.bool true)], args := [d1, d2] }
  | _ => none }
def zgcdPseudoRow : OpenClaim := { program := "ytelkndcchjhgcaagreat", sum := "25bb36ccd33911b0b86d8b9f2928aaa3221f344ee35d2aebab89ec5e840f18b6", func := "cleaver/cleaverlaw11.ZgcdPseudo", spec := "zgcdPseudo", inPlace := ["math/bits.Add64", "math/bits.Sub64", "internal/abi.NoEscape", "internal/bytealg.MakeNoZero"], unfollowed := true, recurses := true, named := ["math/bits.divideError", "math/bits.overflowError"], apart := false }
def ZgcdPseudoSaid : Prop := zgcdPseudoRow.holds Tryz.pinned (OpenSpec.ofChange zgcdPseudoSpec)

/-- ITS FALSE NEIGHBOUR: 'it returns false'. Refute it at one input. -/
def zgcdPseudoWrong : ChangeSpec := { name := "zgcdPseudo", fn := fun _ => fun
  | [d1, d2] => { results := [.lit (.bool false)], args := [d1, d2] }
  | _ => none }
def ZgcdPseudoWrongFalsely : Prop := zgcdPseudoRow.holds Tryz.pinned (OpenSpec.ofChange zgcdPseudoWrong)

/-- 'cleaverlaw11.ZgcdGcds': WHATEVER THE INPUT: true; the input reads as it did. -/
def zgcdGcdsSpec : ChangeSpec := { name := "zgcdGcds", fn := fun _ => fun
  | [d1, d2] => { results := [.lit (.bool true)], args := [d1, d2] }
  | _ => none }
def zgcdGcdsRow : OpenClaim := { program := "ytelkndcchjhgcaagreat", sum := "25bb36ccd33911b0b86d8b9f2928aaa3221f344ee35d2aebab89ec5e840f18b6", func := "cleaver/cleaverlaw11.ZgcdGcds", spec := "zgcdGcds", inPlace := ["math/bits.Add64", "math/bits.Sub64", "internal/abi.NoEscape", "internal/bytealg.MakeNoZero"], unfollowed := true, recurses := true, named := ["math/bits.divideError", "math/bits.overflowError"], apart := false }
def ZgcdGcdsSaid : Prop := zgcdGcdsRow.holds Tryz.pinned (OpenSpec.ofChange zgcdGcdsSpec)

/-- ITS FALSE NEIGHBOUR: 'it returns false'. Refute it at one input. -/
def zgcdGcdsWrong : ChangeSpec := { name := "zgcdGcds", fn := fun _ => fun
  | [d1, d2] => { results := [.lit (.bool false)], args := [d1, d2] }
  | _ => none }
def ZgcdGcdsWrongFalsely : Prop := zgcdGcdsRow.holds Tryz.pinned (OpenSpec.ofChange zgcdGcdsWrong)

/- THE SECOND FORM. 'bulk': how many values and letters a reading holds, each counted each time it is reached (what is shared counts as often as it is met; a slice's spare places count too). A statement '..UptoSaid' is the law's where the arguments, and the package variables that the reading takes, are together of bulk at most 1048576: NARROWER than '..Said'. Prove '..Said' where nothing that the law and all that it calls make is longer than what came in: it says more and counts as full. Else prove '..UptoSaid'. A law counts once. -/
mutual
def uptoBulk {H : Type} : DataW H → Nat
  | .lit (.string bytes) => bytes.length + 1
  | .lit _ => 1
  | .nil => 1
  | .ptr d => uptoBulk d + 1
  | .slice elems spare => uptoBulkAll elems + uptoBulkAll spare + 1
  | .agg parts => uptoBulkAll parts + 1
  | .iface _ d => uptoBulk d + 1
  | .map entries => uptoBulkEntries entries + 1
  | .held _ => 1
def uptoBulkAll {H : Type} : List (DataW H) → Nat
  | [] => 0
  | d :: r => uptoBulk d + uptoBulkAll r
def uptoBulkEntries {H : Type} : List (Lit × DataW H) → Nat
  | [] => 0
  | x :: r => uptoBulkEntry x + uptoBulkEntries r
def uptoBulkEntry {H : Type} : Lit × DataW H → Nat
  | (.string bytes, d) => bytes.length + uptoBulk d + 1
  | (_, d) => uptoBulk d + 1
 end
def uptoSmall : (H : Type) → List (DataW H) → Bool := fun _ ds => decide (uptoBulkAll ds ≤ 1048576)
def OpenSpec.upto (s : _root_.Go.ChangeSpec) : _root_.Go.OpenSpec := { _root_.Go.OpenSpec.ofChange s with cond := some uptoSmall }

/-- 'cleaverlaw10.ZpolyAdds', WHERE WHAT IT READS IS OF BULK AT MOST 1048576: true; the input reads as it did. -/
def zpolyAddsUptoRow : OpenClaim := { program := "ytelkndcchjhgcaagreat", sum := "25bb36ccd33911b0b86d8b9f2928aaa3221f344ee35d2aebab89ec5e840f18b6", func := "cleaver/cleaverlaw10.ZpolyAdds", spec := "zpolyAdds", inPlace := ["math/bits.Add64", "math/bits.Sub64", "internal/abi.NoEscape", "internal/bytealg.MakeNoZero"], unfollowed := true, recurses := true, named := ["math/bits.divideError", "math/bits.overflowError"], apart := false, narrowed := true }
def ZpolyAddsUptoSaid : Prop := zpolyAddsUptoRow.holds Tryz.pinned (OpenSpec.upto zpolyAddsSpec)

/-- 'cleaverlaw10.ZpolyTurns', WHERE WHAT IT READS IS OF BULK AT MOST 1048576: true; the input reads as it did. -/
def zpolyTurnsUptoRow : OpenClaim := { program := "ytelkndcchjhgcaagreat", sum := "25bb36ccd33911b0b86d8b9f2928aaa3221f344ee35d2aebab89ec5e840f18b6", func := "cleaver/cleaverlaw10.ZpolyTurns", spec := "zpolyTurns", inPlace := ["math/bits.Add64", "math/bits.Sub64", "internal/abi.NoEscape", "internal/bytealg.MakeNoZero"], unfollowed := true, recurses := true, named := ["math/bits.divideError", "math/bits.overflowError"], apart := false, narrowed := true }
def ZpolyTurnsUptoSaid : Prop := zpolyTurnsUptoRow.holds Tryz.pinned (OpenSpec.upto zpolyTurnsSpec)

/-- 'cleaverlaw11.ZgcdPseudo', WHERE WHAT IT READS IS OF BULK AT MOST 1048576: true; the input reads as it did. -/
def zgcdPseudoUptoRow : OpenClaim := { program := "ytelkndcchjhgcaagreat", sum := "25bb36ccd33911b0b86d8b9f2928aaa3221f344ee35d2aebab89ec5e840f18b6", func := "cleaver/cleaverlaw11.ZgcdPseudo", spec := "zgcdPseudo", inPlace := ["math/bits.Add64", "math/bits.Sub64", "internal/abi.NoEscape", "internal/bytealg.MakeNoZero"], unfollowed := true, recurses := true, named := ["math/bits.divideError", "math/bits.overflowError"], apart := false, narrowed := true }
def ZgcdPseudoUptoSaid : Prop := zgcdPseudoUptoRow.holds Tryz.pinned (OpenSpec.upto zgcdPseudoSpec)

/-- 'cleaverlaw11.ZgcdGcds', WHERE WHAT IT READS IS OF BULK AT MOST 1048576: true; the input reads as it did. -/
def zgcdGcdsUptoRow : OpenClaim := { program := "ytelkndcchjhgcaagreat", sum := "25bb36ccd33911b0b86d8b9f2928aaa3221f344ee35d2aebab89ec5e840f18b6", func := "cleaver/cleaverlaw11.ZgcdGcds", spec := "zgcdGcds", inPlace := ["math/bits.Add64", "math/bits.Sub64", "internal/abi.NoEscape", "internal/bytealg.MakeNoZero"], unfollowed := true, recurses := true, named := ["math/bits.divideError", "math/bits.overflowError"], apart := false, narrowed := true }
def ZgcdGcdsUptoSaid : Prop := zgcdGcdsUptoRow.holds Tryz.pinned (OpenSpec.upto zgcdGcdsSpec)

end Rows
end Go.Proofs.YtelkndcchjhgcaaGreat
