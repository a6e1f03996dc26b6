/-
  DERIVED. GIVEN WITH THE SEED: THE CARDS: each row of YtpdpnallgonnmaaDoorRows.lean that lists a variable, with what it lists TIED to the program's text (the seventh form; the later family's looks); each row that meets fmt, with fmt's text TOLD by the authors' own Lean function (tested against real Go, not proved from fmt's source: count such statements apart). THE CARD IS WHAT COUNTS. Prove the row's statement (the work); the ties are given (YtpdpnallgonnmaaDoorTie.lean); close each card by the builder's one call (the guide's Derived/Test/ToyasCard.lean, 'card_holds'). Laid BY PROGRAM, IN A SANDBOX (cutbox-door.mjs). By AI agents, Wed Nov 11 2026. No macro, syntax, notation, axiom, sorry.
-/
import Derived.Test.YtpdpnallgonnmaaDoorRows
import GoSem.ClaimSeven
namespace Go.Proofs.YtpdpnallgonnmaaDoor
namespace Rows

/-- THE TIED CARD OF 'laws.FnExactFilterLimit'. -/
def fnExactFilterLimitCard : Claim7 := { stood := { row := fnExactFilterLimitRow, standIns := [], harness := (true, "e78a6ed5275da1fee930741ac4c741ff176a71adb9205e77864be6a2dea36ab7"), looks := false }, kinds := [], alts := [], laidByText := true, laidKinds := [.data], laidTests := true, laidLooks := .later }
def FnExactFilterLimitCardSaid : Prop := Claim7.holds Tryd.pinned (.plain (OpenSpec.ofChange fnExactFilterLimitSpec)) fnExactFilterLimitCard

/-- THE SECOND FORM's CARD OF 'laws.FnExactFilterLimit'. -/
def fnExactFilterLimitUptoCard : Claim7 := { stood := { row := fnExactFilterLimitUptoRow, standIns := [], harness := (true, "e78a6ed5275da1fee930741ac4c741ff176a71adb9205e77864be6a2dea36ab7"), looks := false }, kinds := [], alts := [], laidByText := true, laidKinds := [.data], laidTests := true, laidLooks := .later }
def FnExactFilterLimitUptoCardSaid : Prop := Claim7.holds Tryd.pinned (.plain (OpenSpec.upto fnExactFilterLimitSpec)) fnExactFilterLimitUptoCard
end Rows
end Go.Proofs.YtpdpnallgonnmaaDoor
