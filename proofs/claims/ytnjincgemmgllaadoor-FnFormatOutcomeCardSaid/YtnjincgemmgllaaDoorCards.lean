/-
  DERIVED. GIVEN WITH THE SEED: THE CARDS: each row of YtnjincgemmgllaaDoorRows.lean that lists a variable, with what it lists TIED to the program's text (the seventh form; the later family's looks); each row that meets fmt, with fmt's text TOLD by the authors' own Lean function (tested against real Go, not proved from fmt's source: count such statements apart). THE CARD IS WHAT COUNTS. Prove the row's statement (the work); the ties are given (YtnjincgemmgllaaDoorTie.lean); close each card by the builder's one call (the guide's Derived/Test/ToyasCard.lean, 'card_holds'). Laid BY PROGRAM, IN A SANDBOX (cutbox-door.mjs). By AI agents, Wed Nov 11 2026. No macro, syntax, notation, axiom, sorry.
-/
import Derived.Test.YtnjincgemmgllaaDoorRows
import GoSem.ClaimSeven
namespace Go.Proofs.YtnjincgemmgllaaDoor
namespace Rows

/-- THE TIED CARD OF 'laws.FnExactFormatOutcome'. -/
def fnExactFormatOutcomeCard : Claim7 := { stood := { row := fnExactFormatOutcomeRow, standIns := [], harness := (true, "77e23259cf305064a1f31e6790a8a46484f8312edf93a9c2dca95015ce587aec"), looks := false }, kinds := [], alts := [], laidByText := true, laidKinds := [.data, .data, .data], laidTests := true, laidLooks := .later }
def FnExactFormatOutcomeCardSaid : Prop := Claim7.holds Tryd.pinned (.plain (OpenSpec.ofChange fnExactFormatOutcomeSpec)) fnExactFormatOutcomeCard

/-- THE TIED CARD OF 'laws.FnFormatOutcome'. -/
def fnFormatOutcomeCard : Claim7 := { stood := { row := fnFormatOutcomeRow, standIns := [], harness := (true, "77e23259cf305064a1f31e6790a8a46484f8312edf93a9c2dca95015ce587aec"), looks := false }, kinds := [], alts := [], laidByText := true, laidKinds := [.data, .data, .data], laidTests := true, laidLooks := .later }
def FnFormatOutcomeCardSaid : Prop := Claim7.holds Tryd.pinned (.plain (OpenSpec.ofChange fnFormatOutcomeSpec)) fnFormatOutcomeCard

/-- THE SECOND FORM's CARD OF 'laws.FnExactFormatOutcome'. -/
def fnExactFormatOutcomeUptoCard : Claim7 := { stood := { row := fnExactFormatOutcomeUptoRow, standIns := [], harness := (true, "77e23259cf305064a1f31e6790a8a46484f8312edf93a9c2dca95015ce587aec"), looks := false }, kinds := [], alts := [], laidByText := true, laidKinds := [.data, .data, .data], laidTests := true, laidLooks := .later }
def FnExactFormatOutcomeUptoCardSaid : Prop := Claim7.holds Tryd.pinned (.plain (OpenSpec.upto fnExactFormatOutcomeSpec)) fnExactFormatOutcomeUptoCard

/-- THE SECOND FORM's CARD OF 'laws.FnFormatOutcome'. -/
def fnFormatOutcomeUptoCard : Claim7 := { stood := { row := fnFormatOutcomeUptoRow, standIns := [], harness := (true, "77e23259cf305064a1f31e6790a8a46484f8312edf93a9c2dca95015ce587aec"), looks := false }, kinds := [], alts := [], laidByText := true, laidKinds := [.data, .data, .data], laidTests := true, laidLooks := .later }
def FnFormatOutcomeUptoCardSaid : Prop := Claim7.holds Tryd.pinned (.plain (OpenSpec.upto fnFormatOutcomeSpec)) fnFormatOutcomeUptoCard
end Rows
end Go.Proofs.YtnjincgemmgllaaDoor
