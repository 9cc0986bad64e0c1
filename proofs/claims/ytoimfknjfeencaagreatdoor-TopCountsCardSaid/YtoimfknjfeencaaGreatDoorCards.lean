/-
  DERIVED. GIVEN WITH THE SEED: THE CARDS: each row of YtoimfknjfeencaaGreatDoorRows.lean that lists a variable, with what it lists TIED to the program's text (the seventh form; the later family's looks); each row that meets fmt, with fmt's text TOLD by the authors' own Lean function (tested against real Go, not proved from fmt's source: count such statements apart). THE CARD IS WHAT COUNTS. Prove the row's statement (the work); the ties are given (YtoimfknjfeencaaGreatDoorTie.lean); close each card by the builder's one call (the guide's Derived/Test/ToyasCard.lean, 'card_holds'). Laid BY PROGRAM, IN A SANDBOX (cutbox-door.mjs). By AI agents, Wed Nov 11 2026. No macro, syntax, notation, axiom, sorry.
-/
import Derived.Test.YtoimfknjfeencaaGreatDoorRows
import GoSem.ClaimSeven
namespace Go.Proofs.YtoimfknjfeencaaGreatDoor
namespace Rows

/-- THE TIED CARD OF 'deadbolttop.TopCounts'. -/
def topCountsCard : Claim7 := { stood := { row := topCountsRow, standIns := [], harness := (true, "e24e58ad20561fbbedbb18219a970929e8443eb74a76944ed598a2c85bf59c8c"), looks := true }, kinds := [], alts := [], laidByText := true, laidKinds := [.data, .data, .data, .data, .sentinel, .sentinel, .pinned], laidTests := true, laidLooks := .later }
def TopCountsCardSaid : Prop := Claim7.holds Tryz.pinned (.plain (OpenSpec.ofChange topCountsSpec)) topCountsCard

/-- THE TIED CARD OF 'deadbolttop.TopMasks'. -/
def topMasksCard : Claim7 := { stood := { row := topMasksRow, standIns := [], harness := (true, "e24e58ad20561fbbedbb18219a970929e8443eb74a76944ed598a2c85bf59c8c"), looks := true }, kinds := [], alts := [], laidByText := true, laidKinds := [.data, .data, .data, .data, .sentinel, .sentinel, .pinned], laidTests := true, laidLooks := .later }
def TopMasksCardSaid : Prop := Claim7.holds Tryz.pinned (.plain (OpenSpec.ofChange topMasksSpec)) topMasksCard

/-- THE SECOND FORM's CARD OF 'deadbolttop.TopCounts'. -/
def topCountsUptoCard : Claim7 := { stood := { row := topCountsUptoRow, standIns := [], harness := (true, "e24e58ad20561fbbedbb18219a970929e8443eb74a76944ed598a2c85bf59c8c"), looks := true }, kinds := [], alts := [], laidByText := true, laidKinds := [.data, .data, .data, .data, .sentinel, .sentinel, .pinned], laidTests := true, laidLooks := .later }
def TopCountsUptoCardSaid : Prop := Claim7.holds Tryz.pinned (.plain (OpenSpec.upto topCountsSpec)) topCountsUptoCard

/-- THE SECOND FORM's CARD OF 'deadbolttop.TopMasks'. -/
def topMasksUptoCard : Claim7 := { stood := { row := topMasksUptoRow, standIns := [], harness := (true, "e24e58ad20561fbbedbb18219a970929e8443eb74a76944ed598a2c85bf59c8c"), looks := true }, kinds := [], alts := [], laidByText := true, laidKinds := [.data, .data, .data, .data, .sentinel, .sentinel, .pinned], laidTests := true, laidLooks := .later }
def TopMasksUptoCardSaid : Prop := Claim7.holds Tryz.pinned (.plain (OpenSpec.upto topMasksSpec)) topMasksUptoCard
end Rows
end Go.Proofs.YtoimfknjfeencaaGreatDoor
