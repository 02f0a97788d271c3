/-
  DERIVED. GIVEN WITH THE SEED: THE CARDS: each row of YtkohjiajbdkcbaaDoorRows.lean that lists a variable, with what it lists TIED to the program's text (the seventh form; the later family's looks); each row that meets fmt, with fmt's text TOLD by the authors' own Lean function (tested against real Go, not proved from fmt's source: count such statements apart). THE CARD IS WHAT COUNTS. Prove the row's statement (the work); the ties are given (YtkohjiajbdkcbaaDoorTie.lean); close each card by the builder's one call (the guide's Derived/Test/ToyasCard.lean, 'card_holds'). Laid BY PROGRAM, IN A SANDBOX (cutbox-door.mjs). By AI agents, Wed Nov 11 2026. No macro, syntax, notation, axiom, sorry.
-/
import Derived.Test.YtkohjiajbdkcbaaDoorRows
import GoSem.ClaimSeven
namespace Go.Proofs.YtkohjiajbdkcbaaDoor
namespace Rows

/-- THE TIED CARD OF 'laws.FnExactFormatOutcome'. -/
def fnExactFormatOutcomeCard : Claim7 := { stood := { row := fnExactFormatOutcomeRow, standIns := [], harness := (true, "5fdc544a219b714a6246c563f5e2292a56f9960806c66abc57771177adf4279f"), looks := true }, kinds := [], alts := [], laidByText := true, laidKinds := [.data, .data, .data], laidTests := true, laidLooks := .later }
def FnExactFormatOutcomeCardSaid : Prop := Claim7.holds Tryd.pinned (.plain (OpenSpec.ofChange fnExactFormatOutcomeSpec)) fnExactFormatOutcomeCard

/-- THE TIED CARD OF 'laws.FnExactParseWord'. -/
def fnExactParseWordCard : Claim7 := { stood := { row := fnExactParseWordRow, standIns := [], harness := (true, "5fdc544a219b714a6246c563f5e2292a56f9960806c66abc57771177adf4279f"), looks := true }, kinds := [], alts := [], laidByText := true, laidKinds := [.data, .data, .data, .sentinel, .sentinel], laidTests := true, laidLooks := .later }
def FnExactParseWordCardSaid : Prop := Claim7.holds Tryd.pinned (.plain (OpenSpec.ofChange fnExactParseWordSpec)) fnExactParseWordCard

/-- THE TIED CARD OF 'laws.FnCasts'. -/
def fnCastsCard : Claim7 := { stood := { row := fnCastsRow, standIns := [], harness := (true, "5fdc544a219b714a6246c563f5e2292a56f9960806c66abc57771177adf4279f"), looks := true }, kinds := [], alts := [], laidByText := true, laidKinds := [.data, .data, .data, .sentinel, .sentinel], laidTests := true, laidLooks := .later }
def FnCastsCardSaid : Prop := Claim7.holds Tryd.pinned (.plain (OpenSpec.ofChange fnCastsSpec)) fnCastsCard

/-- THE TIED CARD OF 'laws.FnExactDisassemble'. -/
def fnExactDisassembleCard : Claim7 := { stood := { row := fnExactDisassembleRow, standIns := [], harness := (true, "5fdc544a219b714a6246c563f5e2292a56f9960806c66abc57771177adf4279f"), looks := true }, kinds := [], alts := [], laidByText := true, laidKinds := [.data, .data, .data], laidTests := true, laidLooks := .later }
def FnExactDisassembleCardSaid : Prop := Claim7.holds Tryd.pinned (.plain (OpenSpec.ofChange fnExactDisassembleSpec)) fnExactDisassembleCard

/-- THE TIED CARD OF 'laws.FnExactFormatOperand'. -/
def fnExactFormatOperandCard : Claim7 := { stood := { row := fnExactFormatOperandRow, standIns := [], harness := (true, "5fdc544a219b714a6246c563f5e2292a56f9960806c66abc57771177adf4279f"), looks := true }, kinds := [], alts := [], laidByText := true, laidKinds := [.data, .data, .data], laidTests := true, laidLooks := .later }
def FnExactFormatOperandCardSaid : Prop := Claim7.holds Tryd.pinned (.plain (OpenSpec.ofChange fnExactFormatOperandSpec)) fnExactFormatOperandCard

/-- THE SECOND FORM's CARD OF 'laws.FnExactFormatOutcome'. -/
def fnExactFormatOutcomeUptoCard : Claim7 := { stood := { row := fnExactFormatOutcomeUptoRow, standIns := [], harness := (true, "5fdc544a219b714a6246c563f5e2292a56f9960806c66abc57771177adf4279f"), looks := true }, kinds := [], alts := [], laidByText := true, laidKinds := [.data, .data, .data], laidTests := true, laidLooks := .later }
def FnExactFormatOutcomeUptoCardSaid : Prop := Claim7.holds Tryd.pinned (.plain (OpenSpec.upto fnExactFormatOutcomeSpec)) fnExactFormatOutcomeUptoCard

/-- THE SECOND FORM's CARD OF 'laws.FnExactParseWord'. -/
def fnExactParseWordUptoCard : Claim7 := { stood := { row := fnExactParseWordUptoRow, standIns := [], harness := (true, "5fdc544a219b714a6246c563f5e2292a56f9960806c66abc57771177adf4279f"), looks := true }, kinds := [], alts := [], laidByText := true, laidKinds := [.data, .data, .data, .sentinel, .sentinel], laidTests := true, laidLooks := .later }
def FnExactParseWordUptoCardSaid : Prop := Claim7.holds Tryd.pinned (.plain (OpenSpec.upto fnExactParseWordSpec)) fnExactParseWordUptoCard

/-- THE SECOND FORM's CARD OF 'laws.FnCasts'. -/
def fnCastsUptoCard : Claim7 := { stood := { row := fnCastsUptoRow, standIns := [], harness := (true, "5fdc544a219b714a6246c563f5e2292a56f9960806c66abc57771177adf4279f"), looks := true }, kinds := [], alts := [], laidByText := true, laidKinds := [.data, .data, .data, .sentinel, .sentinel], laidTests := true, laidLooks := .later }
def FnCastsUptoCardSaid : Prop := Claim7.holds Tryd.pinned (.plain (OpenSpec.upto fnCastsSpec)) fnCastsUptoCard

/-- THE SECOND FORM's CARD OF 'laws.FnExactDisassemble'. -/
def fnExactDisassembleUptoCard : Claim7 := { stood := { row := fnExactDisassembleUptoRow, standIns := [], harness := (true, "5fdc544a219b714a6246c563f5e2292a56f9960806c66abc57771177adf4279f"), looks := true }, kinds := [], alts := [], laidByText := true, laidKinds := [.data, .data, .data], laidTests := true, laidLooks := .later }
def FnExactDisassembleUptoCardSaid : Prop := Claim7.holds Tryd.pinned (.plain (OpenSpec.upto fnExactDisassembleSpec)) fnExactDisassembleUptoCard

/-- THE SECOND FORM's CARD OF 'laws.FnExactFormatOperand'. -/
def fnExactFormatOperandUptoCard : Claim7 := { stood := { row := fnExactFormatOperandUptoRow, standIns := [], harness := (true, "5fdc544a219b714a6246c563f5e2292a56f9960806c66abc57771177adf4279f"), looks := true }, kinds := [], alts := [], laidByText := true, laidKinds := [.data, .data, .data], laidTests := true, laidLooks := .later }
def FnExactFormatOperandUptoCardSaid : Prop := Claim7.holds Tryd.pinned (.plain (OpenSpec.upto fnExactFormatOperandSpec)) fnExactFormatOperandUptoCard
end Rows
end Go.Proofs.YtkohjiajbdkcbaaDoor
