/-
  DERIVED. GIVEN WITH THE SEED: THE CARDS: each row of YtmockpkddcnmiaaDoorRows.lean that lists a variable, with what it lists TIED to the program's text (the seventh form; the later family's looks); each row that meets fmt, with fmt's text TOLD by the authors' own Lean function (tested against real Go, not proved from fmt's source: count such statements apart). THE CARD IS WHAT COUNTS. Prove the row's statement (the work); the ties are given (YtmockpkddcnmiaaDoorTie.lean); close each card by the builder's one call (the guide's Derived/Test/ToyasCard.lean, 'card_holds'). Laid BY PROGRAM, IN A SANDBOX (cutbox-door.mjs). By AI agents, Wed Nov 11 2026. No macro, syntax, notation, axiom, sorry.
-/
import Derived.Test.YtmockpkddcnmiaaDoorRows
import GoSem.ClaimSeven
namespace Go.Proofs.YtmockpkddcnmiaaDoor
namespace Rows

/-- THE TIED CARD OF 'laws.FnFilterLimit'. -/
def fnFilterLimitCard : Claim7 := { stood := { row := fnFilterLimitRow, standIns := [], harness := (true, "3160732fbcf41ec59bece1d55fdd641a548a2552f5118287f2daf409d7aff777"), looks := false }, kinds := [], alts := [], laidByText := true, laidKinds := [.data], laidTests := true, laidLooks := .later }
def FnFilterLimitCardSaid : Prop := Claim7.holds Tryd.pinned (.plain (OpenSpec.ofChange fnFilterLimitSpec)) fnFilterLimitCard

/-- THE SECOND FORM's CARD OF 'laws.FnFilterLimit'. -/
def fnFilterLimitUptoCard : Claim7 := { stood := { row := fnFilterLimitUptoRow, standIns := [], harness := (true, "3160732fbcf41ec59bece1d55fdd641a548a2552f5118287f2daf409d7aff777"), looks := false }, kinds := [], alts := [], laidByText := true, laidKinds := [.data], laidTests := true, laidLooks := .later }
def FnFilterLimitUptoCardSaid : Prop := Claim7.holds Tryd.pinned (.plain (OpenSpec.upto fnFilterLimitSpec)) fnFilterLimitUptoCard
end Rows
end Go.Proofs.YtmockpkddcnmiaaDoor
