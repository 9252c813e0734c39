/-
  DERIVED. GIVEN WITH THE SEED: THE CARDS: each row of YtfgdeogphflimaaGreatDoorRows.lean that lists a variable, with what it lists TIED to the program's text (the seventh form; the later family's looks); each row that meets fmt, with fmt's text TOLD by the authors' own Lean function (tested against real Go, not proved from fmt's source: count such statements apart). THE CARD IS WHAT COUNTS. Prove the row's statement (the work); the ties are given (YtfgdeogphflimaaGreatDoorTie.lean); close each card by the builder's one call (the guide's Derived/Test/ToyasCard.lean, 'card_holds'). Laid BY PROGRAM, IN A SANDBOX (cutbox-door.mjs). By AI agents, Wed Nov 11 2026. No macro, syntax, notation, axiom, sorry.
-/
import Derived.Test.YtfgdeogphflimaaGreatDoorRows
import GoSem.ClaimSeven
namespace Go.Proofs.YtfgdeogphflimaaGreatDoor
namespace Rows

/-- THE TIED CARD OF 'tribunallaw21.ReplayTells'. -/
def replayTellsCard : Claim7 := { stood := { row := replayTellsRow, standIns := [], harness := (true, "33b41d7249a2bf102427fb195f130c09afac2c1e87549b882705d3fc13990274"), looks := false }, kinds := [], alts := [], laidByText := true, laidKinds := [.data, .data], laidTests := true, laidLooks := .later }
def ReplayTellsCardSaid : Prop := Claim7.holds Tryz.pinned (.plain (OpenSpec.ofChange replayTellsSpec)) replayTellsCard

/-- THE TIED CARD OF 'tribunallaw21.ReplayBegins'. -/
def replayBeginsCard : Claim7 := { stood := { row := replayBeginsRow, standIns := [], harness := (true, "33b41d7249a2bf102427fb195f130c09afac2c1e87549b882705d3fc13990274"), looks := false }, kinds := [], alts := [], laidByText := true, laidKinds := [.data, .data], laidTests := true, laidLooks := .later }
def ReplayBeginsCardSaid : Prop := Claim7.holds Tryz.pinned (.plain (OpenSpec.ofChange replayBeginsSpec)) replayBeginsCard

/-- THE TIED CARD OF 'tribunallaw21.ReplayIs'. -/
def replayIsCard : Claim7 := { stood := { row := replayIsRow, standIns := [], harness := (true, "33b41d7249a2bf102427fb195f130c09afac2c1e87549b882705d3fc13990274"), looks := false }, kinds := [], alts := [], laidByText := true, laidKinds := [.data, .data], laidTests := true, laidLooks := .later }
def ReplayIsCardSaid : Prop := Claim7.holds Tryz.pinned (.plain (OpenSpec.ofChange replayIsSpec)) replayIsCard

/-- THE TIED CARD OF 'tribunallaw22.ProofBoth'. -/
def proofBothCard : Claim7 := { stood := { row := proofBothRow, standIns := [], harness := (true, "33b41d7249a2bf102427fb195f130c09afac2c1e87549b882705d3fc13990274"), looks := false }, kinds := [], alts := [], laidByText := true, laidKinds := [.data, .data], laidTests := true, laidLooks := .later }
def ProofBothCardSaid : Prop := Claim7.holds Tryz.pinned (.plain (OpenSpec.ofChange proofBothSpec)) proofBothCard

/-- THE TIED CARD OF 'tribunallaw21.ReplayHonest'. -/
def replayHonestCard : Claim7 := { stood := { row := replayHonestRow, standIns := [], harness := (true, "33b41d7249a2bf102427fb195f130c09afac2c1e87549b882705d3fc13990274"), looks := false }, kinds := [], alts := [], laidByText := true, laidKinds := [.data, .data], laidTests := true, laidLooks := .later }
def ReplayHonestCardSaid : Prop := Claim7.holds Tryz.pinned (.plain (OpenSpec.ofChange replayHonestSpec)) replayHonestCard

/-- THE TIED CARD OF 'tribunallaw22.ProofHonest'. -/
def proofHonestCard : Claim7 := { stood := { row := proofHonestRow, standIns := [], harness := (true, "33b41d7249a2bf102427fb195f130c09afac2c1e87549b882705d3fc13990274"), looks := false }, kinds := [], alts := [], laidByText := true, laidKinds := [.data, .data], laidTests := true, laidLooks := .later }
def ProofHonestCardSaid : Prop := Claim7.holds Tryz.pinned (.plain (OpenSpec.ofChange proofHonestSpec)) proofHonestCard

/-- THE TIED CARD OF 'tribunallaw22.ProofTells'. -/
def proofTellsCard : Claim7 := { stood := { row := proofTellsRow, standIns := [], harness := (true, "33b41d7249a2bf102427fb195f130c09afac2c1e87549b882705d3fc13990274"), looks := false }, kinds := [], alts := [], laidByText := true, laidKinds := [.data, .data], laidTests := true, laidLooks := .later }
def ProofTellsCardSaid : Prop := Claim7.holds Tryz.pinned (.plain (OpenSpec.ofChange proofTellsSpec)) proofTellsCard

/-- THE TIED CARD OF 'tribunallaw22.ProofChecks'. -/
def proofChecksCard : Claim7 := { stood := { row := proofChecksRow, standIns := [], harness := (true, "33b41d7249a2bf102427fb195f130c09afac2c1e87549b882705d3fc13990274"), looks := false }, kinds := [], alts := [], laidByText := true, laidKinds := [.data, .data], laidTests := true, laidLooks := .later }
def ProofChecksCardSaid : Prop := Claim7.holds Tryz.pinned (.plain (OpenSpec.ofChange proofChecksSpec)) proofChecksCard

/-- THE SECOND FORM's CARD OF 'tribunallaw21.ReplayTells'. -/
def replayTellsUptoCard : Claim7 := { stood := { row := replayTellsUptoRow, standIns := [], harness := (true, "33b41d7249a2bf102427fb195f130c09afac2c1e87549b882705d3fc13990274"), looks := false }, kinds := [], alts := [], laidByText := true, laidKinds := [.data, .data], laidTests := true, laidLooks := .later }
def ReplayTellsUptoCardSaid : Prop := Claim7.holds Tryz.pinned (.plain (OpenSpec.upto replayTellsSpec)) replayTellsUptoCard

/-- THE SECOND FORM's CARD OF 'tribunallaw21.ReplayBegins'. -/
def replayBeginsUptoCard : Claim7 := { stood := { row := replayBeginsUptoRow, standIns := [], harness := (true, "33b41d7249a2bf102427fb195f130c09afac2c1e87549b882705d3fc13990274"), looks := false }, kinds := [], alts := [], laidByText := true, laidKinds := [.data, .data], laidTests := true, laidLooks := .later }
def ReplayBeginsUptoCardSaid : Prop := Claim7.holds Tryz.pinned (.plain (OpenSpec.upto replayBeginsSpec)) replayBeginsUptoCard

/-- THE SECOND FORM's CARD OF 'tribunallaw21.ReplayIs'. -/
def replayIsUptoCard : Claim7 := { stood := { row := replayIsUptoRow, standIns := [], harness := (true, "33b41d7249a2bf102427fb195f130c09afac2c1e87549b882705d3fc13990274"), looks := false }, kinds := [], alts := [], laidByText := true, laidKinds := [.data, .data], laidTests := true, laidLooks := .later }
def ReplayIsUptoCardSaid : Prop := Claim7.holds Tryz.pinned (.plain (OpenSpec.upto replayIsSpec)) replayIsUptoCard

/-- THE SECOND FORM's CARD OF 'tribunallaw22.ProofBoth'. -/
def proofBothUptoCard : Claim7 := { stood := { row := proofBothUptoRow, standIns := [], harness := (true, "33b41d7249a2bf102427fb195f130c09afac2c1e87549b882705d3fc13990274"), looks := false }, kinds := [], alts := [], laidByText := true, laidKinds := [.data, .data], laidTests := true, laidLooks := .later }
def ProofBothUptoCardSaid : Prop := Claim7.holds Tryz.pinned (.plain (OpenSpec.upto proofBothSpec)) proofBothUptoCard

/-- THE SECOND FORM's CARD OF 'tribunallaw21.ReplayHonest'. -/
def replayHonestUptoCard : Claim7 := { stood := { row := replayHonestUptoRow, standIns := [], harness := (true, "33b41d7249a2bf102427fb195f130c09afac2c1e87549b882705d3fc13990274"), looks := false }, kinds := [], alts := [], laidByText := true, laidKinds := [.data, .data], laidTests := true, laidLooks := .later }
def ReplayHonestUptoCardSaid : Prop := Claim7.holds Tryz.pinned (.plain (OpenSpec.upto replayHonestSpec)) replayHonestUptoCard

/-- THE SECOND FORM's CARD OF 'tribunallaw22.ProofHonest'. -/
def proofHonestUptoCard : Claim7 := { stood := { row := proofHonestUptoRow, standIns := [], harness := (true, "33b41d7249a2bf102427fb195f130c09afac2c1e87549b882705d3fc13990274"), looks := false }, kinds := [], alts := [], laidByText := true, laidKinds := [.data, .data], laidTests := true, laidLooks := .later }
def ProofHonestUptoCardSaid : Prop := Claim7.holds Tryz.pinned (.plain (OpenSpec.upto proofHonestSpec)) proofHonestUptoCard

/-- THE SECOND FORM's CARD OF 'tribunallaw22.ProofTells'. -/
def proofTellsUptoCard : Claim7 := { stood := { row := proofTellsUptoRow, standIns := [], harness := (true, "33b41d7249a2bf102427fb195f130c09afac2c1e87549b882705d3fc13990274"), looks := false }, kinds := [], alts := [], laidByText := true, laidKinds := [.data, .data], laidTests := true, laidLooks := .later }
def ProofTellsUptoCardSaid : Prop := Claim7.holds Tryz.pinned (.plain (OpenSpec.upto proofTellsSpec)) proofTellsUptoCard

/-- THE SECOND FORM's CARD OF 'tribunallaw22.ProofChecks'. -/
def proofChecksUptoCard : Claim7 := { stood := { row := proofChecksUptoRow, standIns := [], harness := (true, "33b41d7249a2bf102427fb195f130c09afac2c1e87549b882705d3fc13990274"), looks := false }, kinds := [], alts := [], laidByText := true, laidKinds := [.data, .data], laidTests := true, laidLooks := .later }
def ProofChecksUptoCardSaid : Prop := Claim7.holds Tryz.pinned (.plain (OpenSpec.upto proofChecksSpec)) proofChecksUptoCard
end Rows
end Go.Proofs.YtfgdeogphflimaaGreatDoor
