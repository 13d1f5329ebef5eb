/-
  DERIVED. GIVEN WITH THE SEED: THE CARDS: each row of YtnkpcnnbeaomnaaDoorRows.lean that lists a variable, with what it lists TIED to the program's text (the seventh form; the later family's looks); each row that meets fmt, with fmt's text TOLD by the authors' own Lean function (tested against real Go, not proved from fmt's source: count such statements apart). THE CARD IS WHAT COUNTS. Prove the row's statement (the work); the ties are given (YtnkpcnnbeaomnaaDoorTie.lean); close each card by the builder's one call (the guide's Derived/Test/ToyasCard.lean, 'card_holds'). Laid BY PROGRAM, IN A SANDBOX (cutbox-door.mjs). By AI agents, Wed Nov 11 2026. No macro, syntax, notation, axiom, sorry.
-/
import Derived.Test.YtnkpcnnbeaomnaaDoorRows
import GoSem.ClaimSeven
namespace Go.Proofs.YtnkpcnnbeaomnaaDoor
namespace Rows

/-- THE TIED CARD OF 'aumbrylaw06.RuleChecks'. -/
def ruleChecksCard : Claim7 := { stood := { row := ruleChecksRow, standIns := [], harness := (true, "d7d3729d2d58240f662ab746c0667e5a7bf5c879bdf9c037e04c36a243ffaedc"), looks := true }, kinds := [], alts := [], laidByText := true, laidKinds := [.data, .data, .data], laidTests := true, laidLooks := .later }
def RuleChecksCardSaid : Prop := Claim7.holds Tryd.pinned (.plain (OpenSpec.ofChange ruleChecksSpec)) ruleChecksCard

/-- THE TIED CARD OF 'aumbrylaw06.RuleReads'. -/
def ruleReadsCard : Claim7 := { stood := { row := ruleReadsRow, standIns := [], harness := (true, "d7d3729d2d58240f662ab746c0667e5a7bf5c879bdf9c037e04c36a243ffaedc"), looks := true }, kinds := [], alts := [], laidByText := true, laidKinds := [.data, .data, .data], laidTests := true, laidLooks := .later }
def RuleReadsCardSaid : Prop := Claim7.holds Tryd.pinned (.plain (OpenSpec.ofChange ruleReadsSpec)) ruleReadsCard

/-- THE TIED CARD OF 'aumbrylaw06.RulePrints'. -/
def rulePrintsCard : Claim7 := { stood := { row := rulePrintsRow, standIns := [], harness := (true, "d7d3729d2d58240f662ab746c0667e5a7bf5c879bdf9c037e04c36a243ffaedc"), looks := true }, kinds := [], alts := [], laidByText := true, laidKinds := [.data, .data, .data], laidTests := true, laidLooks := .later }
def RulePrintsCardSaid : Prop := Claim7.holds Tryd.pinned (.plain (OpenSpec.ofChange rulePrintsSpec)) rulePrintsCard

/-- THE TIED CARD OF 'aumbrylaw06.RuleBack'. -/
def ruleBackCard : Claim7 := { stood := { row := ruleBackRow, standIns := [], harness := (true, "d7d3729d2d58240f662ab746c0667e5a7bf5c879bdf9c037e04c36a243ffaedc"), looks := true }, kinds := [], alts := [], laidByText := true, laidKinds := [.data, .data, .data], laidTests := true, laidLooks := .later }
def RuleBackCardSaid : Prop := Claim7.holds Tryd.pinned (.plain (OpenSpec.ofChange ruleBackSpec)) ruleBackCard

/-- THE TIED CARD OF 'aumbrylaw03.NameWords'. -/
def nameWordsCard : Claim7 := { stood := { row := nameWordsRow, standIns := [], harness := (true, "d7d3729d2d58240f662ab746c0667e5a7bf5c879bdf9c037e04c36a243ffaedc"), looks := true }, kinds := [], alts := [], laidByText := true, laidKinds := [.data, .data, .data, .sentinel, .sentinel], laidTests := true, laidLooks := .later }
def NameWordsCardSaid : Prop := Claim7.holds Tryd.pinned (.plain (OpenSpec.ofChange nameWordsSpec)) nameWordsCard

/-- THE SECOND FORM's CARD OF 'aumbrylaw06.RuleChecks'. -/
def ruleChecksUptoCard : Claim7 := { stood := { row := ruleChecksUptoRow, standIns := [], harness := (true, "d7d3729d2d58240f662ab746c0667e5a7bf5c879bdf9c037e04c36a243ffaedc"), looks := true }, kinds := [], alts := [], laidByText := true, laidKinds := [.data, .data, .data], laidTests := true, laidLooks := .later }
def RuleChecksUptoCardSaid : Prop := Claim7.holds Tryd.pinned (.plain (OpenSpec.upto ruleChecksSpec)) ruleChecksUptoCard

/-- THE SECOND FORM's CARD OF 'aumbrylaw06.RuleReads'. -/
def ruleReadsUptoCard : Claim7 := { stood := { row := ruleReadsUptoRow, standIns := [], harness := (true, "d7d3729d2d58240f662ab746c0667e5a7bf5c879bdf9c037e04c36a243ffaedc"), looks := true }, kinds := [], alts := [], laidByText := true, laidKinds := [.data, .data, .data], laidTests := true, laidLooks := .later }
def RuleReadsUptoCardSaid : Prop := Claim7.holds Tryd.pinned (.plain (OpenSpec.upto ruleReadsSpec)) ruleReadsUptoCard

/-- THE SECOND FORM's CARD OF 'aumbrylaw06.RulePrints'. -/
def rulePrintsUptoCard : Claim7 := { stood := { row := rulePrintsUptoRow, standIns := [], harness := (true, "d7d3729d2d58240f662ab746c0667e5a7bf5c879bdf9c037e04c36a243ffaedc"), looks := true }, kinds := [], alts := [], laidByText := true, laidKinds := [.data, .data, .data], laidTests := true, laidLooks := .later }
def RulePrintsUptoCardSaid : Prop := Claim7.holds Tryd.pinned (.plain (OpenSpec.upto rulePrintsSpec)) rulePrintsUptoCard

/-- THE SECOND FORM's CARD OF 'aumbrylaw06.RuleBack'. -/
def ruleBackUptoCard : Claim7 := { stood := { row := ruleBackUptoRow, standIns := [], harness := (true, "d7d3729d2d58240f662ab746c0667e5a7bf5c879bdf9c037e04c36a243ffaedc"), looks := true }, kinds := [], alts := [], laidByText := true, laidKinds := [.data, .data, .data], laidTests := true, laidLooks := .later }
def RuleBackUptoCardSaid : Prop := Claim7.holds Tryd.pinned (.plain (OpenSpec.upto ruleBackSpec)) ruleBackUptoCard

/-- THE SECOND FORM's CARD OF 'aumbrylaw03.NameWords'. -/
def nameWordsUptoCard : Claim7 := { stood := { row := nameWordsUptoRow, standIns := [], harness := (true, "d7d3729d2d58240f662ab746c0667e5a7bf5c879bdf9c037e04c36a243ffaedc"), looks := true }, kinds := [], alts := [], laidByText := true, laidKinds := [.data, .data, .data, .sentinel, .sentinel], laidTests := true, laidLooks := .later }
def NameWordsUptoCardSaid : Prop := Claim7.holds Tryd.pinned (.plain (OpenSpec.upto nameWordsSpec)) nameWordsUptoCard
end Rows
end Go.Proofs.YtnkpcnnbeaomnaaDoor
