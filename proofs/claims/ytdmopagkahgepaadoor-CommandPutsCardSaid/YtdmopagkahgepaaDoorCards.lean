/-
  DERIVED. GIVEN WITH THE SEED: THE CARDS: each row of YtdmopagkahgepaaDoorRows.lean that lists a variable, with what it lists TIED to the program's text (the seventh form; the later family's looks); each row that meets fmt, with fmt's text TOLD by the authors' own Lean function (tested against real Go, not proved from fmt's source: count such statements apart). THE CARD IS WHAT COUNTS. Prove the row's statement (the work); the ties are given (YtdmopagkahgepaaDoorTie.lean); close each card by the builder's one call (the guide's Derived/Test/ToyasCard.lean, 'card_holds'). Laid BY PROGRAM, IN A SANDBOX (cutbox-door.mjs). By AI agents, Wed Nov 11 2026. No macro, syntax, notation, axiom, sorry.
-/
import Derived.Test.YtdmopagkahgepaaDoorRows
import GoSem.ClaimSeven
namespace Go.Proofs.YtdmopagkahgepaaDoor
namespace Rows

/-- THE TIED CARD OF 'lombardlaw21.TrialNets'. -/
def trialNetsCard : Claim7 := { stood := { row := trialNetsRow, standIns := [], harness := (true, "b1b5e92bba3915d120b03108bbb907c9bd2b3ddefee3089ae514c3228576b82b"), looks := true }, kinds := [], alts := [], laidByText := true, laidKinds := [.data, .data, .data], laidTests := true, laidLooks := .later }
def TrialNetsCardSaid : Prop := Claim7.holds Tryd.pinned (.plain (OpenSpec.ofChange trialNetsSpec)) trialNetsCard

/-- THE TIED CARD OF 'lombardlaw24.CommandParses'. -/
def commandParsesCard : Claim7 := { stood := { row := commandParsesRow, standIns := [], harness := (true, "b1b5e92bba3915d120b03108bbb907c9bd2b3ddefee3089ae514c3228576b82b"), looks := true }, kinds := [], alts := [], laidByText := true, laidKinds := [.data, .data, .data, .data, .sentinel, .sentinel, .pinned], laidTests := true, laidLooks := .later }
def CommandParsesCardSaid : Prop := Claim7.holds Tryd.pinned (.plain (OpenSpec.ofChange commandParsesSpec)) commandParsesCard

/-- THE TIED CARD OF 'lombardlaw24.CommandPuts'. -/
def commandPutsCard : Claim7 := { stood := { row := commandPutsRow, standIns := [], harness := (true, "b1b5e92bba3915d120b03108bbb907c9bd2b3ddefee3089ae514c3228576b82b"), looks := true }, kinds := [], alts := [], laidByText := true, laidKinds := [.data, .data, .data, .data, .sentinel, .sentinel, .pinned], laidTests := true, laidLooks := .later }
def CommandPutsCardSaid : Prop := Claim7.holds Tryd.pinned (.plain (OpenSpec.ofChange commandPutsSpec)) commandPutsCard

/-- THE TIED CARD OF 'lombardlaw24.CommandBack'. -/
def commandBackCard : Claim7 := { stood := { row := commandBackRow, standIns := [], harness := (true, "b1b5e92bba3915d120b03108bbb907c9bd2b3ddefee3089ae514c3228576b82b"), looks := true }, kinds := [], alts := [], laidByText := true, laidKinds := [.data, .data, .data, .data, .sentinel, .sentinel, .pinned], laidTests := true, laidLooks := .later }
def CommandBackCardSaid : Prop := Claim7.holds Tryd.pinned (.plain (OpenSpec.ofChange commandBackSpec)) commandBackCard

/-- THE TIED CARD OF 'lombardlaw24.CommandWords'. -/
def commandWordsCard : Claim7 := { stood := { row := commandWordsRow, standIns := [], harness := (true, "b1b5e92bba3915d120b03108bbb907c9bd2b3ddefee3089ae514c3228576b82b"), looks := true }, kinds := [], alts := [], laidByText := true, laidKinds := [.data, .data, .data, .data, .sentinel, .sentinel, .pinned, .pinned], laidTests := true, laidLooks := .later }
def CommandWordsCardSaid : Prop := Claim7.holds Tryd.pinned (.plain (OpenSpec.ofChange commandWordsSpec)) commandWordsCard

/-- THE SECOND FORM's CARD OF 'lombardlaw21.TrialNets'. -/
def trialNetsUptoCard : Claim7 := { stood := { row := trialNetsUptoRow, standIns := [], harness := (true, "b1b5e92bba3915d120b03108bbb907c9bd2b3ddefee3089ae514c3228576b82b"), looks := true }, kinds := [], alts := [], laidByText := true, laidKinds := [.data, .data, .data], laidTests := true, laidLooks := .later }
def TrialNetsUptoCardSaid : Prop := Claim7.holds Tryd.pinned (.plain (OpenSpec.upto trialNetsSpec)) trialNetsUptoCard

/-- THE SECOND FORM's CARD OF 'lombardlaw24.CommandParses'. -/
def commandParsesUptoCard : Claim7 := { stood := { row := commandParsesUptoRow, standIns := [], harness := (true, "b1b5e92bba3915d120b03108bbb907c9bd2b3ddefee3089ae514c3228576b82b"), looks := true }, kinds := [], alts := [], laidByText := true, laidKinds := [.data, .data, .data, .data, .sentinel, .sentinel, .pinned], laidTests := true, laidLooks := .later }
def CommandParsesUptoCardSaid : Prop := Claim7.holds Tryd.pinned (.plain (OpenSpec.upto commandParsesSpec)) commandParsesUptoCard

/-- THE SECOND FORM's CARD OF 'lombardlaw24.CommandPuts'. -/
def commandPutsUptoCard : Claim7 := { stood := { row := commandPutsUptoRow, standIns := [], harness := (true, "b1b5e92bba3915d120b03108bbb907c9bd2b3ddefee3089ae514c3228576b82b"), looks := true }, kinds := [], alts := [], laidByText := true, laidKinds := [.data, .data, .data, .data, .sentinel, .sentinel, .pinned], laidTests := true, laidLooks := .later }
def CommandPutsUptoCardSaid : Prop := Claim7.holds Tryd.pinned (.plain (OpenSpec.upto commandPutsSpec)) commandPutsUptoCard

/-- THE SECOND FORM's CARD OF 'lombardlaw24.CommandBack'. -/
def commandBackUptoCard : Claim7 := { stood := { row := commandBackUptoRow, standIns := [], harness := (true, "b1b5e92bba3915d120b03108bbb907c9bd2b3ddefee3089ae514c3228576b82b"), looks := true }, kinds := [], alts := [], laidByText := true, laidKinds := [.data, .data, .data, .data, .sentinel, .sentinel, .pinned], laidTests := true, laidLooks := .later }
def CommandBackUptoCardSaid : Prop := Claim7.holds Tryd.pinned (.plain (OpenSpec.upto commandBackSpec)) commandBackUptoCard

/-- THE SECOND FORM's CARD OF 'lombardlaw24.CommandWords'. -/
def commandWordsUptoCard : Claim7 := { stood := { row := commandWordsUptoRow, standIns := [], harness := (true, "b1b5e92bba3915d120b03108bbb907c9bd2b3ddefee3089ae514c3228576b82b"), looks := true }, kinds := [], alts := [], laidByText := true, laidKinds := [.data, .data, .data, .data, .sentinel, .sentinel, .pinned, .pinned], laidTests := true, laidLooks := .later }
def CommandWordsUptoCardSaid : Prop := Claim7.holds Tryd.pinned (.plain (OpenSpec.upto commandWordsSpec)) commandWordsUptoCard
end Rows
end Go.Proofs.YtdmopagkahgepaaDoor
