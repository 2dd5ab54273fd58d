/-
  No cell of these rows narrows 'for every input' (looked for: loops, veiled, ifaces, maps, wideKeys, modest, calm, conditions, laid).
  DERIVED. THE GIVEN ROWS OF THIS SEAT. 30 by the template 'for every input the law returns true; each argument reads behind the call as it read before'; 0 by the template 'total and deterministic' (their statements: YtphcdigmgbhjcaaTotals.lean).
  GIVEN WITH THE SEED: the statements are not yours to turn. If you find one false, say at which input.
  Laid BY PROGRAM, IN A SANDBOX (cutbox-rows.mjs): the forced cells as the released guide's own fill.sh prints them over the translation bcdf3845f9d3a59c… (all of the seat's roots in one cut). By AI agents, Wed Nov 11 2026. No macro, syntax, notation, axiom, sorry.
-/
import Derived.Test.YtphcdigmgbhjcaaChecked
import GoSem.Claim
import GoSem.ClaimJoined
import GoSem.ClaimMapViews
import Derived.JoinedTies
import Derived.KernelRfl
namespace Go.Proofs.Ytphcdigmgbhjcaa
/- THE CELL 'sum', in the pinned program and in every row, IS THE sha256 OF THE DUMP (.gsa) THAT YtphcdigmgbhjcaaProg.lean LOADS. Nothing in Lean hashes anything: it is a label: what it is worth is what the hold of that sum in a sandbox is worth. -/
noncomputable def Try.pinned : Pinned := { name := "ytphcdigmgbhjcaa", sum := "bcdf3845f9d3a59c8c971399354ad06727a99bc4d3e7489e1b3c129332341ed6", checked := Try.checked }
namespace Rows
def none {H : Type} : Left H := { results := [], args := [] }

/-- 'cleaverlaw01.NatShifts': WHATEVER THE INPUT: true; the input reads as it did. -/
def natShiftsSpec : ChangeSpec := { name := "natShifts", fn := fun _ => fun
  | [d1, d2] => { results := [.lit (.bool true)], args := [d1, d2] }
  | _ => none }
def natShiftsRow : OpenClaim := { program := "ytphcdigmgbhjcaa", sum := "bcdf3845f9d3a59c8c971399354ad06727a99bc4d3e7489e1b3c129332341ed6", func := "cleaver/cleaverlaw01.NatShifts", spec := "natShifts", unfollowed := true, recurses := true, apart := false }
def NatShiftsSaid : Prop := natShiftsRow.holds Try.pinned (OpenSpec.ofChange natShiftsSpec)

/-- ITS FALSE NEIGHBOUR: 'it returns false'. Refute it at one input. -/
def natShiftsWrong : ChangeSpec := { name := "natShifts", fn := fun _ => fun
  | [d1, d2] => { results := [.lit (.bool false)], args := [d1, d2] }
  | _ => none }
def NatShiftsWrongFalsely : Prop := natShiftsRow.holds Try.pinned (OpenSpec.ofChange natShiftsWrong)

/-- 'cleaverlaw01.NatMultiplies': WHATEVER THE INPUT: true; the input reads as it did. -/
def natMultipliesSpec : ChangeSpec := { name := "natMultiplies", fn := fun _ => fun
  | [d1, d2] => { results := [.lit (.bool true)], args := [d1, d2] }
  | _ => none }
def natMultipliesRow : OpenClaim := { program := "ytphcdigmgbhjcaa", sum := "bcdf3845f9d3a59c8c971399354ad06727a99bc4d3e7489e1b3c129332341ed6", func := "cleaver/cleaverlaw01.NatMultiplies", spec := "natMultiplies", inPlace := ["math/bits.Add64", "math/bits.Sub64"], unfollowed := true, recurses := true, apart := false }
def NatMultipliesSaid : Prop := natMultipliesRow.holds Try.pinned (OpenSpec.ofChange natMultipliesSpec)

/-- ITS FALSE NEIGHBOUR: 'it returns false'. Refute it at one input. -/
def natMultipliesWrong : ChangeSpec := { name := "natMultiplies", fn := fun _ => fun
  | [d1, d2] => { results := [.lit (.bool false)], args := [d1, d2] }
  | _ => none }
def NatMultipliesWrongFalsely : Prop := natMultipliesRow.holds Try.pinned (OpenSpec.ofChange natMultipliesWrong)

/-- 'cleaverlaw01.NatAdds': WHATEVER THE INPUT: true; the input reads as it did. -/
def natAddsSpec : ChangeSpec := { name := "natAdds", fn := fun _ => fun
  | [d1, d2] => { results := [.lit (.bool true)], args := [d1, d2] }
  | _ => none }
def natAddsRow : OpenClaim := { program := "ytphcdigmgbhjcaa", sum := "bcdf3845f9d3a59c8c971399354ad06727a99bc4d3e7489e1b3c129332341ed6", func := "cleaver/cleaverlaw01.NatAdds", spec := "natAdds", inPlace := ["math/bits.Sub64", "math/bits.Add64"], unfollowed := true, recurses := true, apart := false }
def NatAddsSaid : Prop := natAddsRow.holds Try.pinned (OpenSpec.ofChange natAddsSpec)

/-- ITS FALSE NEIGHBOUR: 'it returns false'. Refute it at one input. -/
def natAddsWrong : ChangeSpec := { name := "natAdds", fn := fun _ => fun
  | [d1, d2] => { results := [.lit (.bool false)], args := [d1, d2] }
  | _ => none }
def NatAddsWrongFalsely : Prop := natAddsRow.holds Try.pinned (OpenSpec.ofChange natAddsWrong)

/-- 'cleaverlaw01.NatOrder': WHATEVER THE INPUT: true; the input reads as it did. -/
def natOrderSpec : ChangeSpec := { name := "natOrder", fn := fun _ => fun
  | [d1, d2, d3] => { results := [.lit (.bool true)], args := [d1, d2, d3] }
  | _ => none }
def natOrderRow : OpenClaim := { program := "ytphcdigmgbhjcaa", sum := "bcdf3845f9d3a59c8c971399354ad06727a99bc4d3e7489e1b3c129332341ed6", func := "cleaver/cleaverlaw01.NatOrder", spec := "natOrder", inPlace := ["math/bits.Sub64"], unfollowed := true, recurses := true, apart := false }
def NatOrderSaid : Prop := natOrderRow.holds Try.pinned (OpenSpec.ofChange natOrderSpec)

/-- ITS FALSE NEIGHBOUR: 'it returns false'. Refute it at one input. -/
def natOrderWrong : ChangeSpec := { name := "natOrder", fn := fun _ => fun
  | [d1, d2, d3] => { results := [.lit (.bool false)], args := [d1, d2, d3] }
  | _ => none }
def NatOrderWrongFalsely : Prop := natOrderRow.holds Try.pinned (OpenSpec.ofChange natOrderWrong)

/-- 'cleaverlaw01.NatRing': WHATEVER THE INPUT: true; the input reads as it did. -/
def natRingSpec : ChangeSpec := { name := "natRing", fn := fun _ => fun
  | [d1, d2, d3] => { results := [.lit (.bool true)], args := [d1, d2, d3] }
  | _ => none }
def natRingRow : OpenClaim := { program := "ytphcdigmgbhjcaa", sum := "bcdf3845f9d3a59c8c971399354ad06727a99bc4d3e7489e1b3c129332341ed6", func := "cleaver/cleaverlaw01.NatRing", spec := "natRing", inPlace := ["math/bits.Add64", "math/bits.Sub64"], unfollowed := true, recurses := true, apart := false }
def NatRingSaid : Prop := natRingRow.holds Try.pinned (OpenSpec.ofChange natRingSpec)

/-- ITS FALSE NEIGHBOUR: 'it returns false'. Refute it at one input. -/
def natRingWrong : ChangeSpec := { name := "natRing", fn := fun _ => fun
  | [d1, d2, d3] => { results := [.lit (.bool false)], args := [d1, d2, d3] }
  | _ => none }
def NatRingWrongFalsely : Prop := natRingRow.holds Try.pinned (OpenSpec.ofChange natRingWrong)

/-- 'cleaverlaw01.NatTexts': WHATEVER THE INPUT: true; the input reads as it did. -/
def natTextsSpec : ChangeSpec := { name := "natTexts", fn := fun _ => fun
  | [d1, d2] => { results := [.lit (.bool true)], args := [d1, d2] }
  | _ => none }
def natTextsRow : OpenClaim := { program := "ytphcdigmgbhjcaa", sum := "bcdf3845f9d3a59c8c971399354ad06727a99bc4d3e7489e1b3c129332341ed6", func := "cleaver/cleaverlaw01.NatTexts", spec := "natTexts", inPlace := ["math/bits.Add64", "internal/abi.NoEscape", "internal/bytealg.MakeNoZero"], unfollowed := true, recurses := true, named := ["math/bits.divideError", "math/bits.overflowError"], apart := false }
def NatTextsSaid : Prop := natTextsRow.holds Try.pinned (OpenSpec.ofChange natTextsSpec)

/-- ITS FALSE NEIGHBOUR: 'it returns false'. Refute it at one input. -/
def natTextsWrong : ChangeSpec := { name := "natTexts", fn := fun _ => fun
  | [d1, d2] => { results := [.lit (.bool false)], args := [d1, d2] }
  | _ => none }
def NatTextsWrongFalsely : Prop := natTextsRow.holds Try.pinned (OpenSpec.ofChange natTextsWrong)

/-- 'cleaverlaw01.NatBack': WHATEVER THE INPUT: true; the input reads as it did. -/
def natBackSpec : ChangeSpec := { name := "natBack", fn := fun _ => fun
  | [d1, d2] => { results := [.lit (.bool true)], args := [d1, d2] }
  | _ => none }
def natBackRow : OpenClaim := { program := "ytphcdigmgbhjcaa", sum := "bcdf3845f9d3a59c8c971399354ad06727a99bc4d3e7489e1b3c129332341ed6", func := "cleaver/cleaverlaw01.NatBack", spec := "natBack", inPlace := ["math/bits.Add64", "internal/abi.NoEscape", "internal/bytealg.MakeNoZero"], unfollowed := true, recurses := true, named := ["math/bits.divideError", "math/bits.overflowError"], apart := false }
def NatBackSaid : Prop := natBackRow.holds Try.pinned (OpenSpec.ofChange natBackSpec)

/-- ITS FALSE NEIGHBOUR: 'it returns false'. Refute it at one input. -/
def natBackWrong : ChangeSpec := { name := "natBack", fn := fun _ => fun
  | [d1, d2] => { results := [.lit (.bool false)], args := [d1, d2] }
  | _ => none }
def NatBackWrongFalsely : Prop := natBackRow.holds Try.pinned (OpenSpec.ofChange natBackWrong)

/-- 'cleaverlaw01.NatDivides': WHATEVER THE INPUT: true; the input reads as it did. -/
def natDividesSpec : ChangeSpec := { name := "natDivides", fn := fun _ => fun
  | [d1, d2] => { results := [.lit (.bool true)], args := [d1, d2] }
  | _ => none }
def natDividesRow : OpenClaim := { program := "ytphcdigmgbhjcaa", sum := "bcdf3845f9d3a59c8c971399354ad06727a99bc4d3e7489e1b3c129332341ed6", func := "cleaver/cleaverlaw01.NatDivides", spec := "natDivides", inPlace := ["math/bits.Add64", "math/bits.Sub64"], unfollowed := true, recurses := true, named := ["math/bits.divideError", "math/bits.overflowError"], apart := false }
def NatDividesSaid : Prop := natDividesRow.holds Try.pinned (OpenSpec.ofChange natDividesSpec)

/-- ITS FALSE NEIGHBOUR: 'it returns false'. Refute it at one input. -/
def natDividesWrong : ChangeSpec := { name := "natDivides", fn := fun _ => fun
  | [d1, d2] => { results := [.lit (.bool false)], args := [d1, d2] }
  | _ => none }
def NatDividesWrongFalsely : Prop := natDividesRow.holds Try.pinned (OpenSpec.ofChange natDividesWrong)

/-- 'cleaverlaw01.NatRest': WHATEVER THE INPUT: true; the input reads as it did. -/
def natRestSpec : ChangeSpec := { name := "natRest", fn := fun _ => fun
  | [d1, d2] => { results := [.lit (.bool true)], args := [d1, d2] }
  | _ => none }
def natRestRow : OpenClaim := { program := "ytphcdigmgbhjcaa", sum := "bcdf3845f9d3a59c8c971399354ad06727a99bc4d3e7489e1b3c129332341ed6", func := "cleaver/cleaverlaw01.NatRest", spec := "natRest", inPlace := ["math/bits.Add64", "math/bits.Sub64"], unfollowed := true, recurses := true, named := ["math/bits.divideError", "math/bits.overflowError"], apart := false }
def NatRestSaid : Prop := natRestRow.holds Try.pinned (OpenSpec.ofChange natRestSpec)

/-- ITS FALSE NEIGHBOUR: 'it returns false'. Refute it at one input. -/
def natRestWrong : ChangeSpec := { name := "natRest", fn := fun _ => fun
  | [d1, d2] => { results := [.lit (.bool false)], args := [d1, d2] }
  | _ => none }
def NatRestWrongFalsely : Prop := natRestRow.holds Try.pinned (OpenSpec.ofChange natRestWrong)

/-- 'cleaverlaw02.ZintDivides': WHATEVER THE INPUT: true; the input reads as it did. -/
def zintDividesSpec : ChangeSpec := { name := "zintDivides", fn := fun _ => fun
  | [d1, d2] => { results := [.lit (.bool true)], args := [d1, d2] }
  | _ => none }
def zintDividesRow : OpenClaim := { program := "ytphcdigmgbhjcaa", sum := "bcdf3845f9d3a59c8c971399354ad06727a99bc4d3e7489e1b3c129332341ed6", func := "cleaver/cleaverlaw02.ZintDivides", spec := "zintDivides", inPlace := ["math/bits.Add64", "math/bits.Sub64", "internal/abi.NoEscape", "internal/bytealg.MakeNoZero"], unfollowed := true, recurses := true, named := ["math/bits.divideError", "math/bits.overflowError"], apart := false }
def ZintDividesSaid : Prop := zintDividesRow.holds Try.pinned (OpenSpec.ofChange zintDividesSpec)

/-- ITS FALSE NEIGHBOUR: 'it returns false'. Refute it at one input. -/
def zintDividesWrong : ChangeSpec := { name := "zintDivides", fn := fun _ => fun
  | [d1, d2] => { results := [.lit (.bool false)], args := [d1, d2] }
  | _ => none }
def ZintDividesWrongFalsely : Prop := zintDividesRow.holds Try.pinned (OpenSpec.ofChange zintDividesWrong)

/-- 'cleaverlaw02.ZintTexts': WHATEVER THE INPUT: true; the input reads as it did. -/
def zintTextsSpec : ChangeSpec := { name := "zintTexts", fn := fun _ => fun
  | [d1, d2] => { results := [.lit (.bool true)], args := [d1, d2] }
  | _ => none }
def zintTextsRow : OpenClaim := { program := "ytphcdigmgbhjcaa", sum := "bcdf3845f9d3a59c8c971399354ad06727a99bc4d3e7489e1b3c129332341ed6", func := "cleaver/cleaverlaw02.ZintTexts", spec := "zintTexts", inPlace := ["math/bits.Add64", "math/bits.Sub64", "internal/abi.NoEscape", "internal/bytealg.MakeNoZero"], unfollowed := true, recurses := true, named := ["math/bits.divideError", "math/bits.overflowError"], apart := false }
def ZintTextsSaid : Prop := zintTextsRow.holds Try.pinned (OpenSpec.ofChange zintTextsSpec)

/-- ITS FALSE NEIGHBOUR: 'it returns false'. Refute it at one input. -/
def zintTextsWrong : ChangeSpec := { name := "zintTexts", fn := fun _ => fun
  | [d1, d2] => { results := [.lit (.bool false)], args := [d1, d2] }
  | _ => none }
def ZintTextsWrongFalsely : Prop := zintTextsRow.holds Try.pinned (OpenSpec.ofChange zintTextsWrong)

/-- 'cleaverlaw02.ZintBack': WHATEVER THE INPUT: true; the input reads as it did. -/
def zintBackSpec : ChangeSpec := { name := "zintBack", fn := fun _ => fun
  | [d1, d2, d3] => { results := [.lit (.bool true)], args := [d1, d2, d3] }
  | _ => none }
def zintBackRow : OpenClaim := { program := "ytphcdigmgbhjcaa", sum := "bcdf3845f9d3a59c8c971399354ad06727a99bc4d3e7489e1b3c129332341ed6", func := "cleaver/cleaverlaw02.ZintBack", spec := "zintBack", inPlace := ["math/bits.Add64", "math/bits.Sub64", "internal/abi.NoEscape", "internal/bytealg.MakeNoZero"], unfollowed := true, recurses := true, named := ["math/bits.divideError", "math/bits.overflowError"], apart := false }
def ZintBackSaid : Prop := zintBackRow.holds Try.pinned (OpenSpec.ofChange zintBackSpec)

/-- ITS FALSE NEIGHBOUR: 'it returns false'. Refute it at one input. -/
def zintBackWrong : ChangeSpec := { name := "zintBack", fn := fun _ => fun
  | [d1, d2, d3] => { results := [.lit (.bool false)], args := [d1, d2, d3] }
  | _ => none }
def ZintBackWrongFalsely : Prop := zintBackRow.holds Try.pinned (OpenSpec.ofChange zintBackWrong)

/-- 'cleaverlaw02.ZintRing': WHATEVER THE INPUT: true; the input reads as it did. -/
def zintRingSpec : ChangeSpec := { name := "zintRing", fn := fun _ => fun
  | [d1, d2, d3] => { results := [.lit (.bool true)], args := [d1, d2, d3] }
  | _ => none }
def zintRingRow : OpenClaim := { program := "ytphcdigmgbhjcaa", sum := "bcdf3845f9d3a59c8c971399354ad06727a99bc4d3e7489e1b3c129332341ed6", func := "cleaver/cleaverlaw02.ZintRing", spec := "zintRing", inPlace := ["math/bits.Add64", "math/bits.Sub64", "internal/abi.NoEscape", "internal/bytealg.MakeNoZero"], unfollowed := true, recurses := true, named := ["math/bits.divideError", "math/bits.overflowError"], apart := false }
def ZintRingSaid : Prop := zintRingRow.holds Try.pinned (OpenSpec.ofChange zintRingSpec)

/-- ITS FALSE NEIGHBOUR: 'it returns false'. Refute it at one input. -/
def zintRingWrong : ChangeSpec := { name := "zintRing", fn := fun _ => fun
  | [d1, d2, d3] => { results := [.lit (.bool false)], args := [d1, d2, d3] }
  | _ => none }
def ZintRingWrongFalsely : Prop := zintRingRow.holds Try.pinned (OpenSpec.ofChange zintRingWrong)

/-- 'cleaverlaw02.ZintAdds': WHATEVER THE INPUT: true; the input reads as it did. -/
def zintAddsSpec : ChangeSpec := { name := "zintAdds", fn := fun _ => fun
  | [d1, d2, d3] => { results := [.lit (.bool true)], args := [d1, d2, d3] }
  | _ => none }
def zintAddsRow : OpenClaim := { program := "ytphcdigmgbhjcaa", sum := "bcdf3845f9d3a59c8c971399354ad06727a99bc4d3e7489e1b3c129332341ed6", func := "cleaver/cleaverlaw02.ZintAdds", spec := "zintAdds", inPlace := ["math/bits.Add64", "math/bits.Sub64", "internal/abi.NoEscape", "internal/bytealg.MakeNoZero"], unfollowed := true, recurses := true, named := ["math/bits.divideError", "math/bits.overflowError"], apart := false }
def ZintAddsSaid : Prop := zintAddsRow.holds Try.pinned (OpenSpec.ofChange zintAddsSpec)

/-- ITS FALSE NEIGHBOUR: 'it returns false'. Refute it at one input. -/
def zintAddsWrong : ChangeSpec := { name := "zintAdds", fn := fun _ => fun
  | [d1, d2, d3] => { results := [.lit (.bool false)], args := [d1, d2, d3] }
  | _ => none }
def ZintAddsWrongFalsely : Prop := zintAddsRow.holds Try.pinned (OpenSpec.ofChange zintAddsWrong)

/-- 'cleaverlaw02.ZintRest': WHATEVER THE INPUT: true; the input reads as it did. -/
def zintRestSpec : ChangeSpec := { name := "zintRest", fn := fun _ => fun
  | [d1, d2] => { results := [.lit (.bool true)], args := [d1, d2] }
  | _ => none }
def zintRestRow : OpenClaim := { program := "ytphcdigmgbhjcaa", sum := "bcdf3845f9d3a59c8c971399354ad06727a99bc4d3e7489e1b3c129332341ed6", func := "cleaver/cleaverlaw02.ZintRest", spec := "zintRest", inPlace := ["math/bits.Add64", "math/bits.Sub64", "internal/abi.NoEscape", "internal/bytealg.MakeNoZero"], unfollowed := true, recurses := true, named := ["math/bits.divideError", "math/bits.overflowError"], apart := false }
def ZintRestSaid : Prop := zintRestRow.holds Try.pinned (OpenSpec.ofChange zintRestSpec)

/-- ITS FALSE NEIGHBOUR: 'it returns false'. Refute it at one input. -/
def zintRestWrong : ChangeSpec := { name := "zintRest", fn := fun _ => fun
  | [d1, d2] => { results := [.lit (.bool false)], args := [d1, d2] }
  | _ => none }
def ZintRestWrongFalsely : Prop := zintRestRow.holds Try.pinned (OpenSpec.ofChange zintRestWrong)

/-- 'cleaverlaw02.ZintGcds': WHATEVER THE INPUT: true; the input reads as it did. -/
def zintGcdsSpec : ChangeSpec := { name := "zintGcds", fn := fun _ => fun
  | [d1, d2] => { results := [.lit (.bool true)], args := [d1, d2] }
  | _ => none }
def zintGcdsRow : OpenClaim := { program := "ytphcdigmgbhjcaa", sum := "bcdf3845f9d3a59c8c971399354ad06727a99bc4d3e7489e1b3c129332341ed6", func := "cleaver/cleaverlaw02.ZintGcds", spec := "zintGcds", inPlace := ["math/bits.Add64", "math/bits.Sub64", "internal/abi.NoEscape", "internal/bytealg.MakeNoZero"], unfollowed := true, recurses := true, named := ["math/bits.divideError", "math/bits.overflowError"], apart := false }
def ZintGcdsSaid : Prop := zintGcdsRow.holds Try.pinned (OpenSpec.ofChange zintGcdsSpec)

/-- ITS FALSE NEIGHBOUR: 'it returns false'. Refute it at one input. -/
def zintGcdsWrong : ChangeSpec := { name := "zintGcds", fn := fun _ => fun
  | [d1, d2] => { results := [.lit (.bool false)], args := [d1, d2] }
  | _ => none }
def ZintGcdsWrongFalsely : Prop := zintGcdsRow.holds Try.pinned (OpenSpec.ofChange zintGcdsWrong)

/-- 'cleaverlaw02.ZintDivisor': WHATEVER THE INPUT: true; the input reads as it did. -/
def zintDivisorSpec : ChangeSpec := { name := "zintDivisor", fn := fun _ => fun
  | [d1, d2, d3] => { results := [.lit (.bool true)], args := [d1, d2, d3] }
  | _ => none }
def zintDivisorRow : OpenClaim := { program := "ytphcdigmgbhjcaa", sum := "bcdf3845f9d3a59c8c971399354ad06727a99bc4d3e7489e1b3c129332341ed6", func := "cleaver/cleaverlaw02.ZintDivisor", spec := "zintDivisor", inPlace := ["math/bits.Add64", "math/bits.Sub64", "internal/abi.NoEscape", "internal/bytealg.MakeNoZero"], unfollowed := true, recurses := true, named := ["math/bits.divideError", "math/bits.overflowError"], apart := false }
def ZintDivisorSaid : Prop := zintDivisorRow.holds Try.pinned (OpenSpec.ofChange zintDivisorSpec)

/-- ITS FALSE NEIGHBOUR: 'it returns false'. Refute it at one input. -/
def zintDivisorWrong : ChangeSpec := { name := "zintDivisor", fn := fun _ => fun
  | [d1, d2, d3] => { results := [.lit (.bool false)], args := [d1, d2, d3] }
  | _ => none }
def ZintDivisorWrongFalsely : Prop := zintDivisorRow.holds Try.pinned (OpenSpec.ofChange zintDivisorWrong)

/-- 'cleaverlaw02.ZintPowers': WHATEVER THE INPUT: true; the input reads as it did. -/
def zintPowersSpec : ChangeSpec := { name := "zintPowers", fn := fun _ => fun
  | [d1, d2, d3] => { results := [.lit (.bool true)], args := [d1, d2, d3] }
  | _ => none }
def zintPowersRow : OpenClaim := { program := "ytphcdigmgbhjcaa", sum := "bcdf3845f9d3a59c8c971399354ad06727a99bc4d3e7489e1b3c129332341ed6", func := "cleaver/cleaverlaw02.ZintPowers", spec := "zintPowers", inPlace := ["math/bits.Add64", "math/bits.Sub64", "internal/abi.NoEscape", "internal/bytealg.MakeNoZero"], unfollowed := true, recurses := true, named := ["math/bits.divideError", "math/bits.overflowError"], apart := false }
def ZintPowersSaid : Prop := zintPowersRow.holds Try.pinned (OpenSpec.ofChange zintPowersSpec)

/-- ITS FALSE NEIGHBOUR: 'it returns false'. Refute it at one input. -/
def zintPowersWrong : ChangeSpec := { name := "zintPowers", fn := fun _ => fun
  | [d1, d2, d3] => { results := [.lit (.bool false)], args := [d1, d2, d3] }
  | _ => none }
def ZintPowersWrongFalsely : Prop := zintPowersRow.holds Try.pinned (OpenSpec.ofChange zintPowersWrong)

/-- 'cleaverlaw02.ZintRoots': WHATEVER THE INPUT: true; the input reads as it did. -/
def zintRootsSpec : ChangeSpec := { name := "zintRoots", fn := fun _ => fun
  | [d1, d2, d3, d4] => { results := [.lit (.bool true)], args := [d1, d2, d3, d4] }
  | _ => none }
def zintRootsRow : OpenClaim := { program := "ytphcdigmgbhjcaa", sum := "bcdf3845f9d3a59c8c971399354ad06727a99bc4d3e7489e1b3c129332341ed6", func := "cleaver/cleaverlaw02.ZintRoots", spec := "zintRoots", inPlace := ["math/bits.Add64", "math/bits.Sub64", "internal/abi.NoEscape", "internal/bytealg.MakeNoZero"], unfollowed := true, recurses := true, named := ["math/bits.divideError", "math/bits.overflowError"], apart := false }
def ZintRootsSaid : Prop := zintRootsRow.holds Try.pinned (OpenSpec.ofChange zintRootsSpec)

/-- ITS FALSE NEIGHBOUR: 'it returns false'. Refute it at one input. -/
def zintRootsWrong : ChangeSpec := { name := "zintRoots", fn := fun _ => fun
  | [d1, d2, d3, d4] => { results := [.lit (.bool false)], args := [d1, d2, d3, d4] }
  | _ => none }
def ZintRootsWrongFalsely : Prop := zintRootsRow.holds Try.pinned (OpenSpec.ofChange zintRootsWrong)

/-- 'cleaverlaw04.PrimeIs': WHATEVER THE INPUT: true; the input reads as it did. -/
def primeIsSpec : ChangeSpec := { name := "primeIs", fn := fun _ => fun
  | [d] => { results := [.lit (.bool true)], args := [d] }
  | _ => none }
def primeIsRow : OpenClaim := { program := "ytphcdigmgbhjcaa", sum := "bcdf3845f9d3a59c8c971399354ad06727a99bc4d3e7489e1b3c129332341ed6", func := "cleaver/cleaverlaw04.PrimeIs", spec := "primeIs", inPlace := ["math/bits.Add64", "math/bits.Sub64", "internal/abi.NoEscape", "internal/bytealg.MakeNoZero"], unfollowed := true, recurses := true, named := ["math/bits.divideError", "math/bits.overflowError"], apart := false }
def PrimeIsSaid : Prop := primeIsRow.holds Try.pinned (OpenSpec.ofChange primeIsSpec)

/-- ITS FALSE NEIGHBOUR: 'it returns false'. Refute it at one input. -/
def primeIsWrong : ChangeSpec := { name := "primeIs", fn := fun _ => fun
  | [d] => { results := [.lit (.bool false)], args := [d] }
  | _ => none }
def PrimeIsWrongFalsely : Prop := primeIsRow.holds Try.pinned (OpenSpec.ofChange primeIsWrong)

/-- 'cleaverlaw04.PrimeGaps': WHATEVER THE INPUT: true; the input reads as it did. -/
def primeGapsSpec : ChangeSpec := { name := "primeGaps", fn := fun _ => fun
  | [d1, d2, d3] => { results := [.lit (.bool true)], args := [d1, d2, d3] }
  | _ => none }
def primeGapsRow : OpenClaim := { program := "ytphcdigmgbhjcaa", sum := "bcdf3845f9d3a59c8c971399354ad06727a99bc4d3e7489e1b3c129332341ed6", func := "cleaver/cleaverlaw04.PrimeGaps", spec := "primeGaps", inPlace := ["math/bits.Add64", "math/bits.Sub64", "internal/abi.NoEscape", "internal/bytealg.MakeNoZero"], unfollowed := true, recurses := true, named := ["math/bits.divideError", "math/bits.overflowError"], apart := false }
def PrimeGapsSaid : Prop := primeGapsRow.holds Try.pinned (OpenSpec.ofChange primeGapsSpec)

/-- ITS FALSE NEIGHBOUR: 'it returns false'. Refute it at one input. -/
def primeGapsWrong : ChangeSpec := { name := "primeGaps", fn := fun _ => fun
  | [d1, d2, d3] => { results := [.lit (.bool false)], args := [d1, d2, d3] }
  | _ => none }
def PrimeGapsWrongFalsely : Prop := primeGapsRow.holds Try.pinned (OpenSpec.ofChange primeGapsWrong)

/-- 'cleaverlaw04.PrimeBoth': WHATEVER THE INPUT: true; the input reads as it did. -/
def primeBothSpec : ChangeSpec := { name := "primeBoth", fn := fun _ => fun
  | [d1, d2, d3, d4, d5] => { results := [.lit (.bool true)], args := [d1, d2, d3, d4, d5] }
  | _ => none }
def primeBothRow : OpenClaim := { program := "ytphcdigmgbhjcaa", sum := "bcdf3845f9d3a59c8c971399354ad06727a99bc4d3e7489e1b3c129332341ed6", func := "cleaver/cleaverlaw04.PrimeBoth", spec := "primeBoth", inPlace := ["math/bits.Add64", "math/bits.Sub64", "internal/abi.NoEscape", "internal/bytealg.MakeNoZero"], unfollowed := true, recurses := true, named := ["math/bits.divideError", "math/bits.overflowError"], apart := false }
def PrimeBothSaid : Prop := primeBothRow.holds Try.pinned (OpenSpec.ofChange primeBothSpec)

/-- ITS FALSE NEIGHBOUR: 'it returns false'. Refute it at one input. -/
def primeBothWrong : ChangeSpec := { name := "primeBoth", fn := fun _ => fun
  | [d1, d2, d3, d4, d5] => { results := [.lit (.bool false)], args := [d1, d2, d3, d4, d5] }
  | _ => none }
def PrimeBothWrongFalsely : Prop := primeBothRow.holds Try.pinned (OpenSpec.ofChange primeBothWrong)

/-- 'cleaverlaw04.PrimeFinds': WHATEVER THE INPUT: true; the input reads as it did. -/
def primeFindsSpec : ChangeSpec := { name := "primeFinds", fn := fun _ => fun
  | [d1, d2, d3] => { results := [.lit (.bool true)], args := [d1, d2, d3] }
  | _ => none }
def primeFindsRow : OpenClaim := { program := "ytphcdigmgbhjcaa", sum := "bcdf3845f9d3a59c8c971399354ad06727a99bc4d3e7489e1b3c129332341ed6", func := "cleaver/cleaverlaw04.PrimeFinds", spec := "primeFinds", inPlace := ["math/bits.Add64", "math/bits.Sub64", "internal/abi.NoEscape", "internal/bytealg.MakeNoZero"], unfollowed := true, recurses := true, named := ["math/bits.divideError", "math/bits.overflowError"], apart := false }
def PrimeFindsSaid : Prop := primeFindsRow.holds Try.pinned (OpenSpec.ofChange primeFindsSpec)

/-- ITS FALSE NEIGHBOUR: 'it returns false'. Refute it at one input. -/
def primeFindsWrong : ChangeSpec := { name := "primeFinds", fn := fun _ => fun
  | [d1, d2, d3] => { results := [.lit (.bool false)], args := [d1, d2, d3] }
  | _ => none }
def PrimeFindsWrongFalsely : Prop := primeFindsRow.holds Try.pinned (OpenSpec.ofChange primeFindsWrong)

/-- 'cleaverlaw04.PrimeKeeps': WHATEVER THE INPUT: true; the input reads as it did. -/
def primeKeepsSpec : ChangeSpec := { name := "primeKeeps", fn := fun _ => fun
  | [d1, d2] => { results := [.lit (.bool true)], args := [d1, d2] }
  | _ => none }
def primeKeepsRow : OpenClaim := { program := "ytphcdigmgbhjcaa", sum := "bcdf3845f9d3a59c8c971399354ad06727a99bc4d3e7489e1b3c129332341ed6", func := "cleaver/cleaverlaw04.PrimeKeeps", spec := "primeKeeps", inPlace := ["math/bits.Add64", "math/bits.Sub64", "internal/abi.NoEscape", "internal/bytealg.MakeNoZero"], unfollowed := true, recurses := true, named := ["math/bits.divideError", "math/bits.overflowError"], apart := false }
def PrimeKeepsSaid : Prop := primeKeepsRow.holds Try.pinned (OpenSpec.ofChange primeKeepsSpec)

/-- ITS FALSE NEIGHBOUR: 'it returns false'. Refute it at one input. -/
def primeKeepsWrong : ChangeSpec := { name := "primeKeeps", fn := fun _ => fun
  | [d1, d2] => { results := [.lit (.bool false)], args := [d1, d2] }
  | _ => none }
def PrimeKeepsWrongFalsely : Prop := primeKeepsRow.holds Try.pinned (OpenSpec.ofChange primeKeepsWrong)

/-- 'cleaverlaw04.PrimeNear': WHATEVER THE INPUT: true; the input reads as it did. -/
def primeNearSpec : ChangeSpec := { name := "primeNear", fn := fun _ => fun
  | [d1, d2] => { results := [.lit (.bool true)], args := [d1, d2] }
  | _ => none }
def primeNearRow : OpenClaim := { program := "ytphcdigmgbhjcaa", sum := "bcdf3845f9d3a59c8c971399354ad06727a99bc4d3e7489e1b3c129332341ed6", func := "cleaver/cleaverlaw04.PrimeNear", spec := "primeNear", inPlace := ["math/bits.Add64", "math/bits.Sub64", "internal/abi.NoEscape", "internal/bytealg.MakeNoZero"], unfollowed := true, recurses := true, named := ["math/bits.divideError", "math/bits.overflowError"], apart := false }
def PrimeNearSaid : Prop := primeNearRow.holds Try.pinned (OpenSpec.ofChange primeNearSpec)

/-- ITS FALSE NEIGHBOUR: 'it returns false'. Refute it at one input. -/
def primeNearWrong : ChangeSpec := { name := "primeNear", fn := fun _ => fun
  | [d1, d2] => { results := [.lit (.bool false)], args := [d1, d2] }
  | _ => none }
def PrimeNearWrongFalsely : Prop := primeNearRow.holds Try.pinned (OpenSpec.ofChange primeNearWrong)

/-- 'cleaverlaw03.RatMakes': WHATEVER THE INPUT: true; the input reads as it did. -/
def ratMakesSpec : ChangeSpec := { name := "ratMakes", fn := fun _ => fun
  | [d1, d2, d3] => { results := [.lit (.bool true)], args := [d1, d2, d3] }
  | _ => none }
def ratMakesRow : OpenClaim := { program := "ytphcdigmgbhjcaa", sum := "bcdf3845f9d3a59c8c971399354ad06727a99bc4d3e7489e1b3c129332341ed6", func := "cleaver/cleaverlaw03.RatMakes", spec := "ratMakes", inPlace := ["math/bits.Add64", "math/bits.Sub64", "internal/bytealg.IndexByteString", "internal/bytealg.IndexString", "internal/abi.NoEscape", "internal/bytealg.MakeNoZero"], unfollowed := true, recurses := true, named := ["math/bits.divideError", "math/bits.overflowError", "internal/bytealg.MaxLen"], apart := false }
def RatMakesSaid : Prop := ratMakesRow.holds Try.pinned (OpenSpec.ofChange ratMakesSpec)

/-- ITS FALSE NEIGHBOUR: 'it returns false'. Refute it at one input. -/
def ratMakesWrong : ChangeSpec := { name := "ratMakes", fn := fun _ => fun
  | [d1, d2, d3] => { results := [.lit (.bool false)], args := [d1, d2, d3] }
  | _ => none }
def RatMakesWrongFalsely : Prop := ratMakesRow.holds Try.pinned (OpenSpec.ofChange ratMakesWrong)

/-- 'cleaverlaw03.RatBack': WHATEVER THE INPUT: true; the input reads as it did. -/
def ratBackSpec : ChangeSpec := { name := "ratBack", fn := fun _ => fun
  | [d1, d2] => { results := [.lit (.bool true)], args := [d1, d2] }
  | _ => none }
def ratBackRow : OpenClaim := { program := "ytphcdigmgbhjcaa", sum := "bcdf3845f9d3a59c8c971399354ad06727a99bc4d3e7489e1b3c129332341ed6", func := "cleaver/cleaverlaw03.RatBack", spec := "ratBack", inPlace := ["math/bits.Add64", "math/bits.Sub64", "internal/bytealg.IndexByteString", "internal/bytealg.IndexString", "internal/abi.NoEscape", "internal/bytealg.MakeNoZero"], unfollowed := true, recurses := true, named := ["math/bits.divideError", "math/bits.overflowError", "internal/bytealg.MaxLen"], apart := false }
def RatBackSaid : Prop := ratBackRow.holds Try.pinned (OpenSpec.ofChange ratBackSpec)

/-- ITS FALSE NEIGHBOUR: 'it returns false'. Refute it at one input. -/
def ratBackWrong : ChangeSpec := { name := "ratBack", fn := fun _ => fun
  | [d1, d2] => { results := [.lit (.bool false)], args := [d1, d2] }
  | _ => none }
def RatBackWrongFalsely : Prop := ratBackRow.holds Try.pinned (OpenSpec.ofChange ratBackWrong)

/-- 'cleaverlaw03.RatPlain': WHATEVER THE INPUT: true; the input reads as it did. -/
def ratPlainSpec : ChangeSpec := { name := "ratPlain", fn := fun _ => fun
  | [d1, d2, d3] => { results := [.lit (.bool true)], args := [d1, d2, d3] }
  | _ => none }
def ratPlainRow : OpenClaim := { program := "ytphcdigmgbhjcaa", sum := "bcdf3845f9d3a59c8c971399354ad06727a99bc4d3e7489e1b3c129332341ed6", func := "cleaver/cleaverlaw03.RatPlain", spec := "ratPlain", inPlace := ["math/bits.Add64", "math/bits.Sub64", "internal/bytealg.IndexByteString", "internal/bytealg.IndexString", "internal/abi.NoEscape", "internal/bytealg.MakeNoZero"], unfollowed := true, recurses := true, named := ["math/bits.divideError", "math/bits.overflowError", "internal/bytealg.MaxLen"], apart := false }
def RatPlainSaid : Prop := ratPlainRow.holds Try.pinned (OpenSpec.ofChange ratPlainSpec)

/-- ITS FALSE NEIGHBOUR: 'it returns false'. Refute it at one input. -/
def ratPlainWrong : ChangeSpec := { name := "ratPlain", fn := fun _ => fun
  | [d1, d2, d3] => { results := [.lit (.bool false)], args := [d1, d2, d3] }
  | _ => none }
def RatPlainWrongFalsely : Prop := ratPlainRow.holds Try.pinned (OpenSpec.ofChange ratPlainWrong)

/-- 'cleaverlaw03.RatOrder': WHATEVER THE INPUT: true; the input reads as it did. -/
def ratOrderSpec : ChangeSpec := { name := "ratOrder", fn := fun _ => fun
  | [d1, d2, d3] => { results := [.lit (.bool true)], args := [d1, d2, d3] }
  | _ => none }
def ratOrderRow : OpenClaim := { program := "ytphcdigmgbhjcaa", sum := "bcdf3845f9d3a59c8c971399354ad06727a99bc4d3e7489e1b3c129332341ed6", func := "cleaver/cleaverlaw03.RatOrder", spec := "ratOrder", inPlace := ["math/bits.Add64", "math/bits.Sub64", "internal/bytealg.IndexByteString", "internal/bytealg.IndexString", "internal/abi.NoEscape", "internal/bytealg.MakeNoZero"], unfollowed := true, recurses := true, named := ["math/bits.divideError", "math/bits.overflowError", "internal/bytealg.MaxLen"], apart := false }
def RatOrderSaid : Prop := ratOrderRow.holds Try.pinned (OpenSpec.ofChange ratOrderSpec)

/-- ITS FALSE NEIGHBOUR: 'it returns false'. Refute it at one input. -/
def ratOrderWrong : ChangeSpec := { name := "ratOrder", fn := fun _ => fun
  | [d1, d2, d3] => { results := [.lit (.bool false)], args := [d1, d2, d3] }
  | _ => none }
def RatOrderWrongFalsely : Prop := ratOrderRow.holds Try.pinned (OpenSpec.ofChange ratOrderWrong)

/-- 'cleaverlaw03.RatField': WHATEVER THE INPUT: true; the input reads as it did. -/
def ratFieldSpec : ChangeSpec := { name := "ratField", fn := fun _ => fun
  | [d1, d2, d3] => { results := [.lit (.bool true)], args := [d1, d2, d3] }
  | _ => none }
def ratFieldRow : OpenClaim := { program := "ytphcdigmgbhjcaa", sum := "bcdf3845f9d3a59c8c971399354ad06727a99bc4d3e7489e1b3c129332341ed6", func := "cleaver/cleaverlaw03.RatField", spec := "ratField", inPlace := ["math/bits.Add64", "math/bits.Sub64", "internal/bytealg.IndexByteString", "internal/bytealg.IndexString", "internal/abi.NoEscape", "internal/bytealg.MakeNoZero"], unfollowed := true, recurses := true, named := ["math/bits.divideError", "math/bits.overflowError", "internal/bytealg.MaxLen"], apart := false }
def RatFieldSaid : Prop := ratFieldRow.holds Try.pinned (OpenSpec.ofChange ratFieldSpec)

/-- ITS FALSE NEIGHBOUR: 'it returns false'. Refute it at one input. -/
def ratFieldWrong : ChangeSpec := { name := "ratField", fn := fun _ => fun
  | [d1, d2, d3] => { results := [.lit (.bool false)], args := [d1, d2, d3] }
  | _ => none }
def RatFieldWrongFalsely : Prop := ratFieldRow.holds Try.pinned (OpenSpec.ofChange ratFieldWrong)

/- THE SECOND FORM. 'bulk': how many values and letters a reading holds, each counted each time it is reached (what is shared counts as often as it is met; a slice's spare places count too). A statement '..UptoSaid' is the law's where the arguments, and the package variables that the reading takes, are together of bulk at most 1048576: NARROWER than '..Said'. Prove '..Said' where nothing that the law and all that it calls make is longer than what came in: it says more and counts as full. Else prove '..UptoSaid'. A law counts once. -/
mutual
def uptoBulk {H : Type} : DataW H → Nat
  | .lit (.string bytes) => bytes.length + 1
  | .lit _ => 1
  | .nil => 1
  | .ptr d => uptoBulk d + 1
  | .slice elems spare => uptoBulkAll elems + uptoBulkAll spare + 1
  | .agg parts => uptoBulkAll parts + 1
  | .iface _ d => uptoBulk d + 1
  | .map entries => uptoBulkEntries entries + 1
  | .held _ => 1
def uptoBulkAll {H : Type} : List (DataW H) → Nat
  | [] => 0
  | d :: r => uptoBulk d + uptoBulkAll r
def uptoBulkEntries {H : Type} : List (Lit × DataW H) → Nat
  | [] => 0
  | x :: r => uptoBulkEntry x + uptoBulkEntries r
def uptoBulkEntry {H : Type} : Lit × DataW H → Nat
  | (.string bytes, d) => bytes.length + uptoBulk d + 1
  | (_, d) => uptoBulk d + 1
 end
def uptoSmall : (H : Type) → List (DataW H) → Bool := fun _ ds => decide (uptoBulkAll ds ≤ 1048576)
def OpenSpec.upto (s : _root_.Go.ChangeSpec) : _root_.Go.OpenSpec := { _root_.Go.OpenSpec.ofChange s with cond := some uptoSmall }

/-- 'cleaverlaw01.NatShifts', WHERE WHAT IT READS IS OF BULK AT MOST 1048576: true; the input reads as it did. -/
def natShiftsUptoRow : OpenClaim := { program := "ytphcdigmgbhjcaa", sum := "bcdf3845f9d3a59c8c971399354ad06727a99bc4d3e7489e1b3c129332341ed6", func := "cleaver/cleaverlaw01.NatShifts", spec := "natShifts", unfollowed := true, recurses := true, apart := false, narrowed := true }
def NatShiftsUptoSaid : Prop := natShiftsUptoRow.holds Try.pinned (OpenSpec.upto natShiftsSpec)

/-- 'cleaverlaw01.NatMultiplies', WHERE WHAT IT READS IS OF BULK AT MOST 1048576: true; the input reads as it did. -/
def natMultipliesUptoRow : OpenClaim := { program := "ytphcdigmgbhjcaa", sum := "bcdf3845f9d3a59c8c971399354ad06727a99bc4d3e7489e1b3c129332341ed6", func := "cleaver/cleaverlaw01.NatMultiplies", spec := "natMultiplies", inPlace := ["math/bits.Add64", "math/bits.Sub64"], unfollowed := true, recurses := true, apart := false, narrowed := true }
def NatMultipliesUptoSaid : Prop := natMultipliesUptoRow.holds Try.pinned (OpenSpec.upto natMultipliesSpec)

/-- 'cleaverlaw01.NatAdds', WHERE WHAT IT READS IS OF BULK AT MOST 1048576: true; the input reads as it did. -/
def natAddsUptoRow : OpenClaim := { program := "ytphcdigmgbhjcaa", sum := "bcdf3845f9d3a59c8c971399354ad06727a99bc4d3e7489e1b3c129332341ed6", func := "cleaver/cleaverlaw01.NatAdds", spec := "natAdds", inPlace := ["math/bits.Sub64", "math/bits.Add64"], unfollowed := true, recurses := true, apart := false, narrowed := true }
def NatAddsUptoSaid : Prop := natAddsUptoRow.holds Try.pinned (OpenSpec.upto natAddsSpec)

/-- 'cleaverlaw01.NatOrder', WHERE WHAT IT READS IS OF BULK AT MOST 1048576: true; the input reads as it did. -/
def natOrderUptoRow : OpenClaim := { program := "ytphcdigmgbhjcaa", sum := "bcdf3845f9d3a59c8c971399354ad06727a99bc4d3e7489e1b3c129332341ed6", func := "cleaver/cleaverlaw01.NatOrder", spec := "natOrder", inPlace := ["math/bits.Sub64"], unfollowed := true, recurses := true, apart := false, narrowed := true }
def NatOrderUptoSaid : Prop := natOrderUptoRow.holds Try.pinned (OpenSpec.upto natOrderSpec)

/-- 'cleaverlaw01.NatRing', WHERE WHAT IT READS IS OF BULK AT MOST 1048576: true; the input reads as it did. -/
def natRingUptoRow : OpenClaim := { program := "ytphcdigmgbhjcaa", sum := "bcdf3845f9d3a59c8c971399354ad06727a99bc4d3e7489e1b3c129332341ed6", func := "cleaver/cleaverlaw01.NatRing", spec := "natRing", inPlace := ["math/bits.Add64", "math/bits.Sub64"], unfollowed := true, recurses := true, apart := false, narrowed := true }
def NatRingUptoSaid : Prop := natRingUptoRow.holds Try.pinned (OpenSpec.upto natRingSpec)

/-- 'cleaverlaw01.NatTexts', WHERE WHAT IT READS IS OF BULK AT MOST 1048576: true; the input reads as it did. -/
def natTextsUptoRow : OpenClaim := { program := "ytphcdigmgbhjcaa", sum := "bcdf3845f9d3a59c8c971399354ad06727a99bc4d3e7489e1b3c129332341ed6", func := "cleaver/cleaverlaw01.NatTexts", spec := "natTexts", inPlace := ["math/bits.Add64", "internal/abi.NoEscape", "internal/bytealg.MakeNoZero"], unfollowed := true, recurses := true, named := ["math/bits.divideError", "math/bits.overflowError"], apart := false, narrowed := true }
def NatTextsUptoSaid : Prop := natTextsUptoRow.holds Try.pinned (OpenSpec.upto natTextsSpec)

/-- 'cleaverlaw01.NatBack', WHERE WHAT IT READS IS OF BULK AT MOST 1048576: true; the input reads as it did. -/
def natBackUptoRow : OpenClaim := { program := "ytphcdigmgbhjcaa", sum := "bcdf3845f9d3a59c8c971399354ad06727a99bc4d3e7489e1b3c129332341ed6", func := "cleaver/cleaverlaw01.NatBack", spec := "natBack", inPlace := ["math/bits.Add64", "internal/abi.NoEscape", "internal/bytealg.MakeNoZero"], unfollowed := true, recurses := true, named := ["math/bits.divideError", "math/bits.overflowError"], apart := false, narrowed := true }
def NatBackUptoSaid : Prop := natBackUptoRow.holds Try.pinned (OpenSpec.upto natBackSpec)

/-- 'cleaverlaw01.NatDivides', WHERE WHAT IT READS IS OF BULK AT MOST 1048576: true; the input reads as it did. -/
def natDividesUptoRow : OpenClaim := { program := "ytphcdigmgbhjcaa", sum := "bcdf3845f9d3a59c8c971399354ad06727a99bc4d3e7489e1b3c129332341ed6", func := "cleaver/cleaverlaw01.NatDivides", spec := "natDivides", inPlace := ["math/bits.Add64", "math/bits.Sub64"], unfollowed := true, recurses := true, named := ["math/bits.divideError", "math/bits.overflowError"], apart := false, narrowed := true }
def NatDividesUptoSaid : Prop := natDividesUptoRow.holds Try.pinned (OpenSpec.upto natDividesSpec)

/-- 'cleaverlaw01.NatRest', WHERE WHAT IT READS IS OF BULK AT MOST 1048576: true; the input reads as it did. -/
def natRestUptoRow : OpenClaim := { program := "ytphcdigmgbhjcaa", sum := "bcdf3845f9d3a59c8c971399354ad06727a99bc4d3e7489e1b3c129332341ed6", func := "cleaver/cleaverlaw01.NatRest", spec := "natRest", inPlace := ["math/bits.Add64", "math/bits.Sub64"], unfollowed := true, recurses := true, named := ["math/bits.divideError", "math/bits.overflowError"], apart := false, narrowed := true }
def NatRestUptoSaid : Prop := natRestUptoRow.holds Try.pinned (OpenSpec.upto natRestSpec)

/-- 'cleaverlaw02.ZintDivides', WHERE WHAT IT READS IS OF BULK AT MOST 1048576: true; the input reads as it did. -/
def zintDividesUptoRow : OpenClaim := { program := "ytphcdigmgbhjcaa", sum := "bcdf3845f9d3a59c8c971399354ad06727a99bc4d3e7489e1b3c129332341ed6", func := "cleaver/cleaverlaw02.ZintDivides", spec := "zintDivides", inPlace := ["math/bits.Add64", "math/bits.Sub64", "internal/abi.NoEscape", "internal/bytealg.MakeNoZero"], unfollowed := true, recurses := true, named := ["math/bits.divideError", "math/bits.overflowError"], apart := false, narrowed := true }
def ZintDividesUptoSaid : Prop := zintDividesUptoRow.holds Try.pinned (OpenSpec.upto zintDividesSpec)

/-- 'cleaverlaw02.ZintTexts', WHERE WHAT IT READS IS OF BULK AT MOST 1048576: true; the input reads as it did. -/
def zintTextsUptoRow : OpenClaim := { program := "ytphcdigmgbhjcaa", sum := "bcdf3845f9d3a59c8c971399354ad06727a99bc4d3e7489e1b3c129332341ed6", func := "cleaver/cleaverlaw02.ZintTexts", spec := "zintTexts", inPlace := ["math/bits.Add64", "math/bits.Sub64", "internal/abi.NoEscape", "internal/bytealg.MakeNoZero"], unfollowed := true, recurses := true, named := ["math/bits.divideError", "math/bits.overflowError"], apart := false, narrowed := true }
def ZintTextsUptoSaid : Prop := zintTextsUptoRow.holds Try.pinned (OpenSpec.upto zintTextsSpec)

/-- 'cleaverlaw02.ZintBack', WHERE WHAT IT READS IS OF BULK AT MOST 1048576: true; the input reads as it did. -/
def zintBackUptoRow : OpenClaim := { program := "ytphcdigmgbhjcaa", sum := "bcdf3845f9d3a59c8c971399354ad06727a99bc4d3e7489e1b3c129332341ed6", func := "cleaver/cleaverlaw02.ZintBack", spec := "zintBack", inPlace := ["math/bits.Add64", "math/bits.Sub64", "internal/abi.NoEscape", "internal/bytealg.MakeNoZero"], unfollowed := true, recurses := true, named := ["math/bits.divideError", "math/bits.overflowError"], apart := false, narrowed := true }
def ZintBackUptoSaid : Prop := zintBackUptoRow.holds Try.pinned (OpenSpec.upto zintBackSpec)

/-- 'cleaverlaw02.ZintRing', WHERE WHAT IT READS IS OF BULK AT MOST 1048576: true; the input reads as it did. -/
def zintRingUptoRow : OpenClaim := { program := "ytphcdigmgbhjcaa", sum := "bcdf3845f9d3a59c8c971399354ad06727a99bc4d3e7489e1b3c129332341ed6", func := "cleaver/cleaverlaw02.ZintRing", spec := "zintRing", inPlace := ["math/bits.Add64", "math/bits.Sub64", "internal/abi.NoEscape", "internal/bytealg.MakeNoZero"], unfollowed := true, recurses := true, named := ["math/bits.divideError", "math/bits.overflowError"], apart := false, narrowed := true }
def ZintRingUptoSaid : Prop := zintRingUptoRow.holds Try.pinned (OpenSpec.upto zintRingSpec)

/-- 'cleaverlaw02.ZintAdds', WHERE WHAT IT READS IS OF BULK AT MOST 1048576: true; the input reads as it did. -/
def zintAddsUptoRow : OpenClaim := { program := "ytphcdigmgbhjcaa", sum := "bcdf3845f9d3a59c8c971399354ad06727a99bc4d3e7489e1b3c129332341ed6", func := "cleaver/cleaverlaw02.ZintAdds", spec := "zintAdds", inPlace := ["math/bits.Add64", "math/bits.Sub64", "internal/abi.NoEscape", "internal/bytealg.MakeNoZero"], unfollowed := true, recurses := true, named := ["math/bits.divideError", "math/bits.overflowError"], apart := false, narrowed := true }
def ZintAddsUptoSaid : Prop := zintAddsUptoRow.holds Try.pinned (OpenSpec.upto zintAddsSpec)

/-- 'cleaverlaw02.ZintRest', WHERE WHAT IT READS IS OF BULK AT MOST 1048576: true; the input reads as it did. -/
def zintRestUptoRow : OpenClaim := { program := "ytphcdigmgbhjcaa", sum := "bcdf3845f9d3a59c8c971399354ad06727a99bc4d3e7489e1b3c129332341ed6", func := "cleaver/cleaverlaw02.ZintRest", spec := "zintRest", inPlace := ["math/bits.Add64", "math/bits.Sub64", "internal/abi.NoEscape", "internal/bytealg.MakeNoZero"], unfollowed := true, recurses := true, named := ["math/bits.divideError", "math/bits.overflowError"], apart := false, narrowed := true }
def ZintRestUptoSaid : Prop := zintRestUptoRow.holds Try.pinned (OpenSpec.upto zintRestSpec)

/-- 'cleaverlaw02.ZintGcds', WHERE WHAT IT READS IS OF BULK AT MOST 1048576: true; the input reads as it did. -/
def zintGcdsUptoRow : OpenClaim := { program := "ytphcdigmgbhjcaa", sum := "bcdf3845f9d3a59c8c971399354ad06727a99bc4d3e7489e1b3c129332341ed6", func := "cleaver/cleaverlaw02.ZintGcds", spec := "zintGcds", inPlace := ["math/bits.Add64", "math/bits.Sub64", "internal/abi.NoEscape", "internal/bytealg.MakeNoZero"], unfollowed := true, recurses := true, named := ["math/bits.divideError", "math/bits.overflowError"], apart := false, narrowed := true }
def ZintGcdsUptoSaid : Prop := zintGcdsUptoRow.holds Try.pinned (OpenSpec.upto zintGcdsSpec)

/-- 'cleaverlaw02.ZintDivisor', WHERE WHAT IT READS IS OF BULK AT MOST 1048576: true; the input reads as it did. -/
def zintDivisorUptoRow : OpenClaim := { program := "ytphcdigmgbhjcaa", sum := "bcdf3845f9d3a59c8c971399354ad06727a99bc4d3e7489e1b3c129332341ed6", func := "cleaver/cleaverlaw02.ZintDivisor", spec := "zintDivisor", inPlace := ["math/bits.Add64", "math/bits.Sub64", "internal/abi.NoEscape", "internal/bytealg.MakeNoZero"], unfollowed := true, recurses := true, named := ["math/bits.divideError", "math/bits.overflowError"], apart := false, narrowed := true }
def ZintDivisorUptoSaid : Prop := zintDivisorUptoRow.holds Try.pinned (OpenSpec.upto zintDivisorSpec)

/-- 'cleaverlaw02.ZintPowers', WHERE WHAT IT READS IS OF BULK AT MOST 1048576: true; the input reads as it did. -/
def zintPowersUptoRow : OpenClaim := { program := "ytphcdigmgbhjcaa", sum := "bcdf3845f9d3a59c8c971399354ad06727a99bc4d3e7489e1b3c129332341ed6", func := "cleaver/cleaverlaw02.ZintPowers", spec := "zintPowers", inPlace := ["math/bits.Add64", "math/bits.Sub64", "internal/abi.NoEscape", "internal/bytealg.MakeNoZero"], unfollowed := true, recurses := true, named := ["math/bits.divideError", "math/bits.overflowError"], apart := false, narrowed := true }
def ZintPowersUptoSaid : Prop := zintPowersUptoRow.holds Try.pinned (OpenSpec.upto zintPowersSpec)

/-- 'cleaverlaw02.ZintRoots', WHERE WHAT IT READS IS OF BULK AT MOST 1048576: true; the input reads as it did. -/
def zintRootsUptoRow : OpenClaim := { program := "ytphcdigmgbhjcaa", sum := "bcdf3845f9d3a59c8c971399354ad06727a99bc4d3e7489e1b3c129332341ed6", func := "cleaver/cleaverlaw02.ZintRoots", spec := "zintRoots", inPlace := ["math/bits.Add64", "math/bits.Sub64", "internal/abi.NoEscape", "internal/bytealg.MakeNoZero"], unfollowed := true, recurses := true, named := ["math/bits.divideError", "math/bits.overflowError"], apart := false, narrowed := true }
def ZintRootsUptoSaid : Prop := zintRootsUptoRow.holds Try.pinned (OpenSpec.upto zintRootsSpec)

/-- 'cleaverlaw04.PrimeIs', WHERE WHAT IT READS IS OF BULK AT MOST 1048576: true; the input reads as it did. -/
def primeIsUptoRow : OpenClaim := { program := "ytphcdigmgbhjcaa", sum := "bcdf3845f9d3a59c8c971399354ad06727a99bc4d3e7489e1b3c129332341ed6", func := "cleaver/cleaverlaw04.PrimeIs", spec := "primeIs", inPlace := ["math/bits.Add64", "math/bits.Sub64", "internal/abi.NoEscape", "internal/bytealg.MakeNoZero"], unfollowed := true, recurses := true, named := ["math/bits.divideError", "math/bits.overflowError"], apart := false, narrowed := true }
def PrimeIsUptoSaid : Prop := primeIsUptoRow.holds Try.pinned (OpenSpec.upto primeIsSpec)

/-- 'cleaverlaw04.PrimeGaps', WHERE WHAT IT READS IS OF BULK AT MOST 1048576: true; the input reads as it did. -/
def primeGapsUptoRow : OpenClaim := { program := "ytphcdigmgbhjcaa", sum := "bcdf3845f9d3a59c8c971399354ad06727a99bc4d3e7489e1b3c129332341ed6", func := "cleaver/cleaverlaw04.PrimeGaps", spec := "primeGaps", inPlace := ["math/bits.Add64", "math/bits.Sub64", "internal/abi.NoEscape", "internal/bytealg.MakeNoZero"], unfollowed := true, recurses := true, named := ["math/bits.divideError", "math/bits.overflowError"], apart := false, narrowed := true }
def PrimeGapsUptoSaid : Prop := primeGapsUptoRow.holds Try.pinned (OpenSpec.upto primeGapsSpec)

/-- 'cleaverlaw04.PrimeBoth', WHERE WHAT IT READS IS OF BULK AT MOST 1048576: true; the input reads as it did. -/
def primeBothUptoRow : OpenClaim := { program := "ytphcdigmgbhjcaa", sum := "bcdf3845f9d3a59c8c971399354ad06727a99bc4d3e7489e1b3c129332341ed6", func := "cleaver/cleaverlaw04.PrimeBoth", spec := "primeBoth", inPlace := ["math/bits.Add64", "math/bits.Sub64", "internal/abi.NoEscape", "internal/bytealg.MakeNoZero"], unfollowed := true, recurses := true, named := ["math/bits.divideError", "math/bits.overflowError"], apart := false, narrowed := true }
def PrimeBothUptoSaid : Prop := primeBothUptoRow.holds Try.pinned (OpenSpec.upto primeBothSpec)

/-- 'cleaverlaw04.PrimeFinds', WHERE WHAT IT READS IS OF BULK AT MOST 1048576: true; the input reads as it did. -/
def primeFindsUptoRow : OpenClaim := { program := "ytphcdigmgbhjcaa", sum := "bcdf3845f9d3a59c8c971399354ad06727a99bc4d3e7489e1b3c129332341ed6", func := "cleaver/cleaverlaw04.PrimeFinds", spec := "primeFinds", inPlace := ["math/bits.Add64", "math/bits.Sub64", "internal/abi.NoEscape", "internal/bytealg.MakeNoZero"], unfollowed := true, recurses := true, named := ["math/bits.divideError", "math/bits.overflowError"], apart := false, narrowed := true }
def PrimeFindsUptoSaid : Prop := primeFindsUptoRow.holds Try.pinned (OpenSpec.upto primeFindsSpec)

/-- 'cleaverlaw04.PrimeKeeps', WHERE WHAT IT READS IS OF BULK AT MOST 1048576: true; the input reads as it did. -/
def primeKeepsUptoRow : OpenClaim := { program := "ytphcdigmgbhjcaa", sum := "bcdf3845f9d3a59c8c971399354ad06727a99bc4d3e7489e1b3c129332341ed6", func := "cleaver/cleaverlaw04.PrimeKeeps", spec := "primeKeeps", inPlace := ["math/bits.Add64", "math/bits.Sub64", "internal/abi.NoEscape", "internal/bytealg.MakeNoZero"], unfollowed := true, recurses := true, named := ["math/bits.divideError", "math/bits.overflowError"], apart := false, narrowed := true }
def PrimeKeepsUptoSaid : Prop := primeKeepsUptoRow.holds Try.pinned (OpenSpec.upto primeKeepsSpec)

/-- 'cleaverlaw04.PrimeNear', WHERE WHAT IT READS IS OF BULK AT MOST 1048576: true; the input reads as it did. -/
def primeNearUptoRow : OpenClaim := { program := "ytphcdigmgbhjcaa", sum := "bcdf3845f9d3a59c8c971399354ad06727a99bc4d3e7489e1b3c129332341ed6", func := "cleaver/cleaverlaw04.PrimeNear", spec := "primeNear", inPlace := ["math/bits.Add64", "math/bits.Sub64", "internal/abi.NoEscape", "internal/bytealg.MakeNoZero"], unfollowed := true, recurses := true, named := ["math/bits.divideError", "math/bits.overflowError"], apart := false, narrowed := true }
def PrimeNearUptoSaid : Prop := primeNearUptoRow.holds Try.pinned (OpenSpec.upto primeNearSpec)

/-- 'cleaverlaw03.RatMakes', WHERE WHAT IT READS IS OF BULK AT MOST 1048576: true; the input reads as it did. -/
def ratMakesUptoRow : OpenClaim := { program := "ytphcdigmgbhjcaa", sum := "bcdf3845f9d3a59c8c971399354ad06727a99bc4d3e7489e1b3c129332341ed6", func := "cleaver/cleaverlaw03.RatMakes", spec := "ratMakes", inPlace := ["math/bits.Add64", "math/bits.Sub64", "internal/bytealg.IndexByteString", "internal/bytealg.IndexString", "internal/abi.NoEscape", "internal/bytealg.MakeNoZero"], unfollowed := true, recurses := true, named := ["math/bits.divideError", "math/bits.overflowError", "internal/bytealg.MaxLen"], apart := false, narrowed := true }
def RatMakesUptoSaid : Prop := ratMakesUptoRow.holds Try.pinned (OpenSpec.upto ratMakesSpec)

/-- 'cleaverlaw03.RatBack', WHERE WHAT IT READS IS OF BULK AT MOST 1048576: true; the input reads as it did. -/
def ratBackUptoRow : OpenClaim := { program := "ytphcdigmgbhjcaa", sum := "bcdf3845f9d3a59c8c971399354ad06727a99bc4d3e7489e1b3c129332341ed6", func := "cleaver/cleaverlaw03.RatBack", spec := "ratBack", inPlace := ["math/bits.Add64", "math/bits.Sub64", "internal/bytealg.IndexByteString", "internal/bytealg.IndexString", "internal/abi.NoEscape", "internal/bytealg.MakeNoZero"], unfollowed := true, recurses := true, named := ["math/bits.divideError", "math/bits.overflowError", "internal/bytealg.MaxLen"], apart := false, narrowed := true }
def RatBackUptoSaid : Prop := ratBackUptoRow.holds Try.pinned (OpenSpec.upto ratBackSpec)

/-- 'cleaverlaw03.RatPlain', WHERE WHAT IT READS IS OF BULK AT MOST 1048576: true; the input reads as it did. -/
def ratPlainUptoRow : OpenClaim := { program := "ytphcdigmgbhjcaa", sum := "bcdf3845f9d3a59c8c971399354ad06727a99bc4d3e7489e1b3c129332341ed6", func := "cleaver/cleaverlaw03.RatPlain", spec := "ratPlain", inPlace := ["math/bits.Add64", "math/bits.Sub64", "internal/bytealg.IndexByteString", "internal/bytealg.IndexString", "internal/abi.NoEscape", "internal/bytealg.MakeNoZero"], unfollowed := true, recurses := true, named := ["math/bits.divideError", "math/bits.overflowError", "internal/bytealg.MaxLen"], apart := false, narrowed := true }
def RatPlainUptoSaid : Prop := ratPlainUptoRow.holds Try.pinned (OpenSpec.upto ratPlainSpec)

/-- 'cleaverlaw03.RatOrder', WHERE WHAT IT READS IS OF BULK AT MOST 1048576: true; the input reads as it did. -/
def ratOrderUptoRow : OpenClaim := { program := "ytphcdigmgbhjcaa", sum := "bcdf3845f9d3a59c8c971399354ad06727a99bc4d3e7489e1b3c129332341ed6", func := "cleaver/cleaverlaw03.RatOrder", spec := "ratOrder", inPlace := ["math/bits.Add64", "math/bits.Sub64", "internal/bytealg.IndexByteString", "internal/bytealg.IndexString", "internal/abi.NoEscape", "internal/bytealg.MakeNoZero"], unfollowed := true, recurses := true, named := ["math/bits.divideError", "math/bits.overflowError", "internal/bytealg.MaxLen"], apart := false, narrowed := true }
def RatOrderUptoSaid : Prop := ratOrderUptoRow.holds Try.pinned (OpenSpec.upto ratOrderSpec)

/-- 'cleaverlaw03.RatField', WHERE WHAT IT READS IS OF BULK AT MOST 1048576: true; the input reads as it did. -/
def ratFieldUptoRow : OpenClaim := { program := "ytphcdigmgbhjcaa", sum := "bcdf3845f9d3a59c8c971399354ad06727a99bc4d3e7489e1b3c129332341ed6", func := "cleaver/cleaverlaw03.RatField", spec := "ratField", inPlace := ["math/bits.Add64", "math/bits.Sub64", "internal/bytealg.IndexByteString", "internal/bytealg.IndexString", "internal/abi.NoEscape", "internal/bytealg.MakeNoZero"], unfollowed := true, recurses := true, named := ["math/bits.divideError", "math/bits.overflowError", "internal/bytealg.MaxLen"], apart := false, narrowed := true }
def RatFieldUptoSaid : Prop := ratFieldUptoRow.holds Try.pinned (OpenSpec.upto ratFieldSpec)

end Rows
end Go.Proofs.Ytphcdigmgbhjcaa
