/-
  DERIVED. GIVEN WITH THE SEED: THE CARDS: each row of YtogbdnecpdcmiabDoorRows.lean that lists a variable, with what it lists TIED to the program's text (the seventh form; the later family's looks); each row that meets fmt, with fmt's text TOLD by the authors' own Lean function (tested against real Go, not proved from fmt's source: count such statements apart). THE CARD IS WHAT COUNTS. Prove the row's statement (the work); the ties are given (YtogbdnecpdcmiabDoorTie.lean); close each card by the builder's one call (the guide's Derived/Test/ToyasCard.lean, 'card_holds'). Laid BY PROGRAM, IN A SANDBOX (cutbox-door.mjs). By AI agents, Wed Nov 11 2026. No macro, syntax, notation, axiom, sorry.
-/
import Derived.Test.YtogbdnecpdcmiabDoorRows
import GoSem.ClaimSeven
namespace Go.Proofs.YtogbdnecpdcmiabDoor
namespace Rows

/-- THE TIED CARD OF 'specielaw10.GroupMakes'. -/
def groupMakesCard : Claim7 := { stood := { row := groupMakesRow, standIns := [], harness := (true, "1baa695e0a012aa130fadeff3b8e8042c0ac14eb0d8def0ef20f58971a799fdc"), looks := false }, kinds := [], alts := [], laidByText := true, laidKinds := [.data, .data], laidTests := true, laidLooks := .later }
def GroupMakesCardSaid : Prop := Claim7.holds Tryd.pinned (.plain (OpenSpec.ofChange groupMakesSpec)) groupMakesCard

/-- THE TIED CARD OF 'specielaw22.SignatureTwice'. -/
def signatureTwiceCard : Claim7 := { stood := { row := signatureTwiceRow, standIns := [], harness := (true, "1baa695e0a012aa130fadeff3b8e8042c0ac14eb0d8def0ef20f58971a799fdc"), looks := false }, kinds := [], alts := [], laidByText := true, laidKinds := [.data, .data, .data, .data], laidTests := true, laidLooks := .later }
def SignatureTwiceCardSaid : Prop := Claim7.holds Tryd.pinned (.plain (OpenSpec.ofChange signatureTwiceSpec)) signatureTwiceCard

/-- THE TIED CARD OF 'specielaw10.GroupLogs'. -/
def groupLogsCard : Claim7 := { stood := { row := groupLogsRow, standIns := [], harness := (true, "1baa695e0a012aa130fadeff3b8e8042c0ac14eb0d8def0ef20f58971a799fdc"), looks := false }, kinds := [], alts := [], laidByText := true, laidKinds := [.data, .data], laidTests := true, laidLooks := .later }
def GroupLogsCardSaid : Prop := Claim7.holds Tryd.pinned (.plain (OpenSpec.ofChange groupLogsSpec)) groupLogsCard

/-- THE SECOND FORM's CARD OF 'specielaw10.GroupMakes'. -/
def groupMakesUptoCard : Claim7 := { stood := { row := groupMakesUptoRow, standIns := [], harness := (true, "1baa695e0a012aa130fadeff3b8e8042c0ac14eb0d8def0ef20f58971a799fdc"), looks := false }, kinds := [], alts := [], laidByText := true, laidKinds := [.data, .data], laidTests := true, laidLooks := .later }
def GroupMakesUptoCardSaid : Prop := Claim7.holds Tryd.pinned (.plain (OpenSpec.upto groupMakesSpec)) groupMakesUptoCard

/-- THE SECOND FORM's CARD OF 'specielaw22.SignatureTwice'. -/
def signatureTwiceUptoCard : Claim7 := { stood := { row := signatureTwiceUptoRow, standIns := [], harness := (true, "1baa695e0a012aa130fadeff3b8e8042c0ac14eb0d8def0ef20f58971a799fdc"), looks := false }, kinds := [], alts := [], laidByText := true, laidKinds := [.data, .data, .data, .data], laidTests := true, laidLooks := .later }
def SignatureTwiceUptoCardSaid : Prop := Claim7.holds Tryd.pinned (.plain (OpenSpec.upto signatureTwiceSpec)) signatureTwiceUptoCard

/-- THE SECOND FORM's CARD OF 'specielaw10.GroupLogs'. -/
def groupLogsUptoCard : Claim7 := { stood := { row := groupLogsUptoRow, standIns := [], harness := (true, "1baa695e0a012aa130fadeff3b8e8042c0ac14eb0d8def0ef20f58971a799fdc"), looks := false }, kinds := [], alts := [], laidByText := true, laidKinds := [.data, .data], laidTests := true, laidLooks := .later }
def GroupLogsUptoCardSaid : Prop := Claim7.holds Tryd.pinned (.plain (OpenSpec.upto groupLogsSpec)) groupLogsUptoCard
end Rows
end Go.Proofs.YtogbdnecpdcmiabDoor
