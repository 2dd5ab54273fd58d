/-
  DERIVED. GIVEN WITH THE SEED: THE CARDS: each row of YtimgjgookgenoaaGreatDoorRows.lean that lists a variable, with what it lists TIED to the program's text (the seventh form; the later family's looks); each row that meets fmt, with fmt's text TOLD by the authors' own Lean function (tested against real Go, not proved from fmt's source: count such statements apart). THE CARD IS WHAT COUNTS. Prove the row's statement (the work); the ties are given (YtimgjgookgenoaaGreatDoorTie.lean); close each card by the builder's one call (the guide's Derived/Test/ToyasCard.lean, 'card_holds'). Laid BY PROGRAM, IN A SANDBOX (cutbox-door.mjs). By AI agents, Wed Nov 11 2026. No macro, syntax, notation, axiom, sorry.
-/
import Derived.Test.YtimgjgookgenoaaGreatDoorRows
import GoSem.ClaimSeven
namespace Go.Proofs.YtimgjgookgenoaaGreatDoor
namespace Rows

/-- THE TIED CARD OF 'cleavertop.TopDepth'. -/
def topDepthCard : Claim7 := { stood := { row := topDepthRow, standIns := [], harness := (true, "f092945b04418d127ce26088c341af6ed267fb17b49a548a5539c528659f1989"), looks := true }, kinds := [], alts := [], laidByText := true, laidKinds := [.sentinel, .pinned, .data, .sentinel, .sentinel, .data, .data, .data, .sentinel, .sentinel, .sentinel, .handle], laidTests := true, laidLooks := .later }
def TopDepthCardSaid : Prop := Claim7.holds Tryz.pinned (.plain (OpenSpec.ofChange topDepthSpec)) topDepthCard

/-- THE TIED CARD OF 'cleavertop.TopPowers'. -/
def topPowersCard : Claim7 := { stood := { row := topPowersRow, standIns := [], harness := (true, "f092945b04418d127ce26088c341af6ed267fb17b49a548a5539c528659f1989"), looks := true }, kinds := [], alts := [], laidByText := true, laidKinds := [.sentinel, .pinned, .data, .sentinel, .sentinel, .data, .data, .data, .sentinel, .sentinel, .sentinel, .handle], laidTests := true, laidLooks := .later }
def TopPowersCardSaid : Prop := Claim7.holds Tryz.pinned (.plain (OpenSpec.ofChange topPowersSpec)) topPowersCard

/-- THE TIED CARD OF 'cleavertop.TopEisenstein'. -/
def topEisensteinCard : Claim7 := { stood := { row := topEisensteinRow, standIns := [], harness := (true, "f092945b04418d127ce26088c341af6ed267fb17b49a548a5539c528659f1989"), looks := true }, kinds := [], alts := [], laidByText := true, laidKinds := [.sentinel, .pinned, .data, .sentinel, .sentinel, .data, .data, .data, .sentinel, .sentinel, .sentinel, .handle], laidTests := true, laidLooks := .later }
def TopEisensteinCardSaid : Prop := Claim7.holds Tryz.pinned (.plain (OpenSpec.ofChange topEisensteinSpec)) topEisensteinCard

/-- THE SECOND FORM's CARD OF 'cleavertop.TopDepth'. -/
def topDepthUptoCard : Claim7 := { stood := { row := topDepthUptoRow, standIns := [], harness := (true, "f092945b04418d127ce26088c341af6ed267fb17b49a548a5539c528659f1989"), looks := true }, kinds := [], alts := [], laidByText := true, laidKinds := [.sentinel, .pinned, .data, .sentinel, .sentinel, .data, .data, .data, .sentinel, .sentinel, .sentinel, .handle], laidTests := true, laidLooks := .later }
def TopDepthUptoCardSaid : Prop := Claim7.holds Tryz.pinned (.plain (OpenSpec.upto topDepthSpec)) topDepthUptoCard

/-- THE SECOND FORM's CARD OF 'cleavertop.TopPowers'. -/
def topPowersUptoCard : Claim7 := { stood := { row := topPowersUptoRow, standIns := [], harness := (true, "f092945b04418d127ce26088c341af6ed267fb17b49a548a5539c528659f1989"), looks := true }, kinds := [], alts := [], laidByText := true, laidKinds := [.sentinel, .pinned, .data, .sentinel, .sentinel, .data, .data, .data, .sentinel, .sentinel, .sentinel, .handle], laidTests := true, laidLooks := .later }
def TopPowersUptoCardSaid : Prop := Claim7.holds Tryz.pinned (.plain (OpenSpec.upto topPowersSpec)) topPowersUptoCard

/-- THE SECOND FORM's CARD OF 'cleavertop.TopEisenstein'. -/
def topEisensteinUptoCard : Claim7 := { stood := { row := topEisensteinUptoRow, standIns := [], harness := (true, "f092945b04418d127ce26088c341af6ed267fb17b49a548a5539c528659f1989"), looks := true }, kinds := [], alts := [], laidByText := true, laidKinds := [.sentinel, .pinned, .data, .sentinel, .sentinel, .data, .data, .data, .sentinel, .sentinel, .sentinel, .handle], laidTests := true, laidLooks := .later }
def TopEisensteinUptoCardSaid : Prop := Claim7.holds Tryz.pinned (.plain (OpenSpec.upto topEisensteinSpec)) topEisensteinUptoCard
end Rows
end Go.Proofs.YtimgjgookgenoaaGreatDoor
