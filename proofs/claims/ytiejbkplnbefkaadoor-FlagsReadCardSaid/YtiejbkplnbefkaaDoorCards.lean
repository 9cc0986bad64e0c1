/-
  DERIVED. GIVEN WITH THE SEED: THE CARDS: each row of YtiejbkplnbefkaaDoorRows.lean that lists a variable, with what it lists TIED to the program's text (the seventh form; the later family's looks); each row that meets fmt, with fmt's text TOLD by the authors' own Lean function (tested against real Go, not proved from fmt's source: count such statements apart). THE CARD IS WHAT COUNTS. Prove the row's statement (the work); the ties are given (YtiejbkplnbefkaaDoorTie.lean); close each card by the builder's one call (the guide's Derived/Test/ToyasCard.lean, 'card_holds'). Laid BY PROGRAM, IN A SANDBOX (cutbox-door.mjs). By AI agents, Wed Nov 11 2026. No macro, syntax, notation, axiom, sorry.
-/
import Derived.Test.YtiejbkplnbefkaaDoorRows
import GoSem.ClaimSeven
namespace Go.Proofs.YtiejbkplnbefkaaDoor
namespace Rows

/-- THE TIED CARD OF 'deadboltlaw03.FlagsApart'. -/
def flagsApartCard : Claim7 := { stood := { row := flagsApartRow, standIns := [], harness := (true, "a24497a53667d9b56b4cff1e936b77b7926821da39511e8467906516531e26f1"), looks := true }, kinds := [], alts := [], laidByText := true, laidKinds := [.data, .data, .data], laidTests := true, laidLooks := .later }
def FlagsApartCardSaid : Prop := Claim7.holds Tryd.pinned (.plain (OpenSpec.ofChange flagsApartSpec)) flagsApartCard

/-- THE TIED CARD OF 'deadboltlaw03.FlagsTell'. -/
def flagsTellCard : Claim7 := { stood := { row := flagsTellRow, standIns := [], harness := (true, "a24497a53667d9b56b4cff1e936b77b7926821da39511e8467906516531e26f1"), looks := true }, kinds := [], alts := [], laidByText := true, laidKinds := [.data, .data, .data], laidTests := true, laidLooks := .later }
def FlagsTellCardSaid : Prop := Claim7.holds Tryd.pinned (.plain (OpenSpec.ofChange flagsTellSpec)) flagsTellCard

/-- THE TIED CARD OF 'deadboltlaw03.FlagsRead'. -/
def flagsReadCard : Claim7 := { stood := { row := flagsReadRow, standIns := [], harness := (true, "a24497a53667d9b56b4cff1e936b77b7926821da39511e8467906516531e26f1"), looks := true }, kinds := [], alts := [], laidByText := true, laidKinds := [.data, .data, .data, .sentinel, .sentinel], laidTests := true, laidLooks := .later }
def FlagsReadCardSaid : Prop := Claim7.holds Tryd.pinned (.plain (OpenSpec.ofChange flagsReadSpec)) flagsReadCard

/-- THE TIED CARD OF 'deadboltlaw03.FlagsBack'. -/
def flagsBackCard : Claim7 := { stood := { row := flagsBackRow, standIns := [], harness := (true, "a24497a53667d9b56b4cff1e936b77b7926821da39511e8467906516531e26f1"), looks := true }, kinds := [], alts := [], laidByText := true, laidKinds := [.data, .data, .data, .sentinel, .sentinel], laidTests := true, laidLooks := .later }
def FlagsBackCardSaid : Prop := Claim7.holds Tryd.pinned (.plain (OpenSpec.ofChange flagsBackSpec)) flagsBackCard

/-- THE SECOND FORM's CARD OF 'deadboltlaw03.FlagsApart'. -/
def flagsApartUptoCard : Claim7 := { stood := { row := flagsApartUptoRow, standIns := [], harness := (true, "a24497a53667d9b56b4cff1e936b77b7926821da39511e8467906516531e26f1"), looks := true }, kinds := [], alts := [], laidByText := true, laidKinds := [.data, .data, .data], laidTests := true, laidLooks := .later }
def FlagsApartUptoCardSaid : Prop := Claim7.holds Tryd.pinned (.plain (OpenSpec.upto flagsApartSpec)) flagsApartUptoCard

/-- THE SECOND FORM's CARD OF 'deadboltlaw03.FlagsTell'. -/
def flagsTellUptoCard : Claim7 := { stood := { row := flagsTellUptoRow, standIns := [], harness := (true, "a24497a53667d9b56b4cff1e936b77b7926821da39511e8467906516531e26f1"), looks := true }, kinds := [], alts := [], laidByText := true, laidKinds := [.data, .data, .data], laidTests := true, laidLooks := .later }
def FlagsTellUptoCardSaid : Prop := Claim7.holds Tryd.pinned (.plain (OpenSpec.upto flagsTellSpec)) flagsTellUptoCard

/-- THE SECOND FORM's CARD OF 'deadboltlaw03.FlagsRead'. -/
def flagsReadUptoCard : Claim7 := { stood := { row := flagsReadUptoRow, standIns := [], harness := (true, "a24497a53667d9b56b4cff1e936b77b7926821da39511e8467906516531e26f1"), looks := true }, kinds := [], alts := [], laidByText := true, laidKinds := [.data, .data, .data, .sentinel, .sentinel], laidTests := true, laidLooks := .later }
def FlagsReadUptoCardSaid : Prop := Claim7.holds Tryd.pinned (.plain (OpenSpec.upto flagsReadSpec)) flagsReadUptoCard

/-- THE SECOND FORM's CARD OF 'deadboltlaw03.FlagsBack'. -/
def flagsBackUptoCard : Claim7 := { stood := { row := flagsBackUptoRow, standIns := [], harness := (true, "a24497a53667d9b56b4cff1e936b77b7926821da39511e8467906516531e26f1"), looks := true }, kinds := [], alts := [], laidByText := true, laidKinds := [.data, .data, .data, .sentinel, .sentinel], laidTests := true, laidLooks := .later }
def FlagsBackUptoCardSaid : Prop := Claim7.holds Tryd.pinned (.plain (OpenSpec.upto flagsBackSpec)) flagsBackUptoCard
end Rows
end Go.Proofs.YtiejbkplnbefkaaDoor
