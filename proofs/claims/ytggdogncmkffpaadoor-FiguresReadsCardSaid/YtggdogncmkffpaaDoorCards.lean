/-
  DERIVED. GIVEN WITH THE SEED: THE CARDS: each row of YtggdogncmkffpaaDoorRows.lean that lists a variable, with what it lists TIED to the program's text (the seventh form; the later family's looks); each row that meets fmt, with fmt's text TOLD by the authors' own Lean function (tested against real Go, not proved from fmt's source: count such statements apart). THE CARD IS WHAT COUNTS. Prove the row's statement (the work); the ties are given (YtggdogncmkffpaaDoorTie.lean); close each card by the builder's one call (the guide's Derived/Test/ToyasCard.lean, 'card_holds'). Laid BY PROGRAM, IN A SANDBOX (cutbox-door.mjs). By AI agents, Wed Nov 11 2026. No macro, syntax, notation, axiom, sorry.
-/
import Derived.Test.YtggdogncmkffpaaDoorRows
import GoSem.ClaimSeven
namespace Go.Proofs.YtggdogncmkffpaaDoor
namespace Rows

/-- THE TIED CARD OF 'stintlaw13.FiguresReads'. -/
def figuresReadsCard : Claim7 := { stood := { row := figuresReadsRow, standIns := [], harness := (true, "a590b04b38cf70000d2f3931b03d9e730dfc60a8e64ee6e27f429e06ade0f8ab"), looks := false }, kinds := [], alts := [], laidByText := true, laidKinds := [.data, .data, .data, .sentinel], laidTests := true, laidLooks := .later }
def FiguresReadsCardSaid : Prop := Claim7.holds Tryd.pinned (.plain (OpenSpec.ofChange figuresReadsSpec)) figuresReadsCard

/-- THE SECOND FORM's CARD OF 'stintlaw13.FiguresReads'. -/
def figuresReadsUptoCard : Claim7 := { stood := { row := figuresReadsUptoRow, standIns := [], harness := (true, "a590b04b38cf70000d2f3931b03d9e730dfc60a8e64ee6e27f429e06ade0f8ab"), looks := false }, kinds := [], alts := [], laidByText := true, laidKinds := [.data, .data, .data, .sentinel], laidTests := true, laidLooks := .later }
def FiguresReadsUptoCardSaid : Prop := Claim7.holds Tryd.pinned (.plain (OpenSpec.upto figuresReadsSpec)) figuresReadsUptoCard
end Rows
end Go.Proofs.YtggdogncmkffpaaDoor
