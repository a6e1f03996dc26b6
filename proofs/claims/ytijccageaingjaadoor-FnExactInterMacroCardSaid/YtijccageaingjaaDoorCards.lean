/-
  DERIVED. GIVEN WITH THE SEED: THE CARDS: each row of YtijccageaingjaaDoorRows.lean that lists a variable, with what it lists TIED to the program's text (the seventh form; the later family's looks); each row that meets fmt, with fmt's text TOLD by the authors' own Lean function (tested against real Go, not proved from fmt's source: count such statements apart). THE CARD IS WHAT COUNTS. Prove the row's statement (the work); the ties are given (YtijccageaingjaaDoorTie.lean); close each card by the builder's one call (the guide's Derived/Test/ToyasCard.lean, 'card_holds'). Laid BY PROGRAM, IN A SANDBOX (cutbox-door.mjs). By AI agents, Wed Nov 11 2026. No macro, syntax, notation, axiom, sorry.
-/
import Derived.Test.YtijccageaingjaaDoorRows
import GoSem.ClaimSeven
namespace Go.Proofs.YtijccageaingjaaDoor
namespace Rows

/-- THE TIED CARD OF 'laws.FnExactInterMacro'. -/
def fnExactInterMacroCard : Claim7 := { stood := { row := fnExactInterMacroRow, standIns := [], harness := (true, "42b7f29a495509bd00a6bd8739a3ad6e8870baeeb070fe431344768d28c8c92c"), looks := false }, kinds := [], alts := [], laidByText := true, laidKinds := [.data], laidTests := true, laidLooks := .later }
def FnExactInterMacroCardSaid : Prop := Claim7.holds Tryd.pinned (.plain (OpenSpec.ofChange fnExactInterMacroSpec)) fnExactInterMacroCard

/-- THE SECOND FORM's CARD OF 'laws.FnExactInterMacro'. -/
def fnExactInterMacroUptoCard : Claim7 := { stood := { row := fnExactInterMacroUptoRow, standIns := [], harness := (true, "42b7f29a495509bd00a6bd8739a3ad6e8870baeeb070fe431344768d28c8c92c"), looks := false }, kinds := [], alts := [], laidByText := true, laidKinds := [.data], laidTests := true, laidLooks := .later }
def FnExactInterMacroUptoCardSaid : Prop := Claim7.holds Tryd.pinned (.plain (OpenSpec.upto fnExactInterMacroSpec)) fnExactInterMacroUptoCard
end Rows
end Go.Proofs.YtijccageaingjaaDoor
