/-
  DERIVED. GIVEN WITH THE SEED: THE CARDS: each row of YtogbdnecpdcmiaaDoorRows.lean that lists a variable, with what it lists TIED to the program's text (the seventh form; the later family's looks); each row that meets fmt, with fmt's text TOLD by the authors' own Lean function (tested against real Go, not proved from fmt's source: count such statements apart). THE CARD IS WHAT COUNTS. Prove the row's statement (the work); the ties are given (YtogbdnecpdcmiaaDoorTie.lean); close each card by the builder's one call (the guide's Derived/Test/ToyasCard.lean, 'card_holds'). Laid BY PROGRAM, IN A SANDBOX (cutbox-door.mjs). By AI agents, Wed Nov 11 2026. No macro, syntax, notation, axiom, sorry.
-/
import Derived.Test.YtogbdnecpdcmiaaDoorRows
import GoSem.ClaimSeven
namespace Go.Proofs.YtogbdnecpdcmiaaDoor
namespace Rows

/-- THE TIED CARD OF 'specielaw26.UnlinkSecrets'. -/
def unlinkSecretsCard : Claim7 := { stood := { row := unlinkSecretsRow, standIns := [], harness := (true, "7ed1c482369c3ddbcdda61cd2dec94277896bd931e198e98c8cdcdb0cdd1d2e7"), looks := false }, kinds := [], alts := [], laidByText := true, laidKinds := [.data, .data], laidTests := true, laidLooks := .later }
def UnlinkSecretsCardSaid : Prop := Claim7.holds Tryd.pinned (.plain (OpenSpec.ofChange unlinkSecretsSpec)) unlinkSecretsCard

/-- THE TIED CARD OF 'specielaw26.UnlinkAnybody'. -/
def unlinkAnybodyCard : Claim7 := { stood := { row := unlinkAnybodyRow, standIns := [], harness := (true, "7ed1c482369c3ddbcdda61cd2dec94277896bd931e198e98c8cdcdb0cdd1d2e7"), looks := false }, kinds := [], alts := [], laidByText := true, laidKinds := [.data, .data], laidTests := true, laidLooks := .later }
def UnlinkAnybodyCardSaid : Prop := Claim7.holds Tryd.pinned (.plain (OpenSpec.ofChange unlinkAnybodySpec)) unlinkAnybodyCard

/-- THE TIED CARD OF 'specielaw15.PedersenOthers'. -/
def pedersenOthersCard : Claim7 := { stood := { row := pedersenOthersRow, standIns := [], harness := (true, "7ed1c482369c3ddbcdda61cd2dec94277896bd931e198e98c8cdcdb0cdd1d2e7"), looks := false }, kinds := [], alts := [], laidByText := true, laidKinds := [.data, .data], laidTests := true, laidLooks := .later }
def PedersenOthersCardSaid : Prop := Claim7.holds Tryd.pinned (.plain (OpenSpec.ofChange pedersenOthersSpec)) pedersenOthersCard

/-- THE TIED CARD OF 'specielaw15.PedersenHides'. -/
def pedersenHidesCard : Claim7 := { stood := { row := pedersenHidesRow, standIns := [], harness := (true, "7ed1c482369c3ddbcdda61cd2dec94277896bd931e198e98c8cdcdb0cdd1d2e7"), looks := false }, kinds := [], alts := [], laidByText := true, laidKinds := [.data, .data], laidTests := true, laidLooks := .later }
def PedersenHidesCardSaid : Prop := Claim7.holds Tryd.pinned (.plain (OpenSpec.ofChange pedersenHidesSpec)) pedersenHidesCard

/-- THE TIED CARD OF 'specielaw15.PedersenBinds'. -/
def pedersenBindsCard : Claim7 := { stood := { row := pedersenBindsRow, standIns := [], harness := (true, "7ed1c482369c3ddbcdda61cd2dec94277896bd931e198e98c8cdcdb0cdd1d2e7"), looks := false }, kinds := [], alts := [], laidByText := true, laidKinds := [.data, .data], laidTests := true, laidLooks := .later }
def PedersenBindsCardSaid : Prop := Claim7.holds Tryd.pinned (.plain (OpenSpec.ofChange pedersenBindsSpec)) pedersenBindsCard

/-- THE TIED CARD OF 'specielaw30.EpochMade'. -/
def epochMadeCard : Claim7 := { stood := { row := epochMadeRow, standIns := [], harness := (true, "7ed1c482369c3ddbcdda61cd2dec94277896bd931e198e98c8cdcdb0cdd1d2e7"), looks := false }, kinds := [], alts := [], laidByText := true, laidKinds := [.data, .data, .data, .data], laidTests := true, laidLooks := .later }
def EpochMadeCardSaid : Prop := Claim7.holds Tryd.pinned (.plain (OpenSpec.ofChange epochMadeSpec)) epochMadeCard

/-- THE TIED CARD OF 'specielaw25.RestrictHonest'. -/
def restrictHonestCard : Claim7 := { stood := { row := restrictHonestRow, standIns := [], harness := (true, "7ed1c482369c3ddbcdda61cd2dec94277896bd931e198e98c8cdcdb0cdd1d2e7"), looks := false }, kinds := [], alts := [], laidByText := true, laidKinds := [.data, .data, .data, .data], laidTests := true, laidLooks := .later }
def RestrictHonestCardSaid : Prop := Claim7.holds Tryd.pinned (.plain (OpenSpec.ofChange restrictHonestSpec)) restrictHonestCard

/-- THE TIED CARD OF 'specielaw23.BlindRefuses'. -/
def blindRefusesCard : Claim7 := { stood := { row := blindRefusesRow, standIns := [], harness := (true, "7ed1c482369c3ddbcdda61cd2dec94277896bd931e198e98c8cdcdb0cdd1d2e7"), looks := false }, kinds := [], alts := [], laidByText := true, laidKinds := [.data, .data, .data, .data], laidTests := true, laidLooks := .later }
def BlindRefusesCardSaid : Prop := Claim7.holds Tryd.pinned (.plain (OpenSpec.ofChange blindRefusesSpec)) blindRefusesCard

/-- THE TIED CARD OF 'specielaw26.UnlinkOnce'. -/
def unlinkOnceCard : Claim7 := { stood := { row := unlinkOnceRow, standIns := [], harness := (true, "7ed1c482369c3ddbcdda61cd2dec94277896bd931e198e98c8cdcdb0cdd1d2e7"), looks := false }, kinds := [], alts := [], laidByText := true, laidKinds := [.data, .data, .data, .data], laidTests := true, laidLooks := .later }
def UnlinkOnceCardSaid : Prop := Claim7.holds Tryd.pinned (.plain (OpenSpec.ofChange unlinkOnceSpec)) unlinkOnceCard

/-- THE SECOND FORM's CARD OF 'specielaw26.UnlinkSecrets'. -/
def unlinkSecretsUptoCard : Claim7 := { stood := { row := unlinkSecretsUptoRow, standIns := [], harness := (true, "7ed1c482369c3ddbcdda61cd2dec94277896bd931e198e98c8cdcdb0cdd1d2e7"), looks := false }, kinds := [], alts := [], laidByText := true, laidKinds := [.data, .data], laidTests := true, laidLooks := .later }
def UnlinkSecretsUptoCardSaid : Prop := Claim7.holds Tryd.pinned (.plain (OpenSpec.upto unlinkSecretsSpec)) unlinkSecretsUptoCard

/-- THE SECOND FORM's CARD OF 'specielaw26.UnlinkAnybody'. -/
def unlinkAnybodyUptoCard : Claim7 := { stood := { row := unlinkAnybodyUptoRow, standIns := [], harness := (true, "7ed1c482369c3ddbcdda61cd2dec94277896bd931e198e98c8cdcdb0cdd1d2e7"), looks := false }, kinds := [], alts := [], laidByText := true, laidKinds := [.data, .data], laidTests := true, laidLooks := .later }
def UnlinkAnybodyUptoCardSaid : Prop := Claim7.holds Tryd.pinned (.plain (OpenSpec.upto unlinkAnybodySpec)) unlinkAnybodyUptoCard

/-- THE SECOND FORM's CARD OF 'specielaw15.PedersenOthers'. -/
def pedersenOthersUptoCard : Claim7 := { stood := { row := pedersenOthersUptoRow, standIns := [], harness := (true, "7ed1c482369c3ddbcdda61cd2dec94277896bd931e198e98c8cdcdb0cdd1d2e7"), looks := false }, kinds := [], alts := [], laidByText := true, laidKinds := [.data, .data], laidTests := true, laidLooks := .later }
def PedersenOthersUptoCardSaid : Prop := Claim7.holds Tryd.pinned (.plain (OpenSpec.upto pedersenOthersSpec)) pedersenOthersUptoCard

/-- THE SECOND FORM's CARD OF 'specielaw15.PedersenHides'. -/
def pedersenHidesUptoCard : Claim7 := { stood := { row := pedersenHidesUptoRow, standIns := [], harness := (true, "7ed1c482369c3ddbcdda61cd2dec94277896bd931e198e98c8cdcdb0cdd1d2e7"), looks := false }, kinds := [], alts := [], laidByText := true, laidKinds := [.data, .data], laidTests := true, laidLooks := .later }
def PedersenHidesUptoCardSaid : Prop := Claim7.holds Tryd.pinned (.plain (OpenSpec.upto pedersenHidesSpec)) pedersenHidesUptoCard

/-- THE SECOND FORM's CARD OF 'specielaw15.PedersenBinds'. -/
def pedersenBindsUptoCard : Claim7 := { stood := { row := pedersenBindsUptoRow, standIns := [], harness := (true, "7ed1c482369c3ddbcdda61cd2dec94277896bd931e198e98c8cdcdb0cdd1d2e7"), looks := false }, kinds := [], alts := [], laidByText := true, laidKinds := [.data, .data], laidTests := true, laidLooks := .later }
def PedersenBindsUptoCardSaid : Prop := Claim7.holds Tryd.pinned (.plain (OpenSpec.upto pedersenBindsSpec)) pedersenBindsUptoCard

/-- THE SECOND FORM's CARD OF 'specielaw30.EpochMade'. -/
def epochMadeUptoCard : Claim7 := { stood := { row := epochMadeUptoRow, standIns := [], harness := (true, "7ed1c482369c3ddbcdda61cd2dec94277896bd931e198e98c8cdcdb0cdd1d2e7"), looks := false }, kinds := [], alts := [], laidByText := true, laidKinds := [.data, .data, .data, .data], laidTests := true, laidLooks := .later }
def EpochMadeUptoCardSaid : Prop := Claim7.holds Tryd.pinned (.plain (OpenSpec.upto epochMadeSpec)) epochMadeUptoCard

/-- THE SECOND FORM's CARD OF 'specielaw25.RestrictHonest'. -/
def restrictHonestUptoCard : Claim7 := { stood := { row := restrictHonestUptoRow, standIns := [], harness := (true, "7ed1c482369c3ddbcdda61cd2dec94277896bd931e198e98c8cdcdb0cdd1d2e7"), looks := false }, kinds := [], alts := [], laidByText := true, laidKinds := [.data, .data, .data, .data], laidTests := true, laidLooks := .later }
def RestrictHonestUptoCardSaid : Prop := Claim7.holds Tryd.pinned (.plain (OpenSpec.upto restrictHonestSpec)) restrictHonestUptoCard

/-- THE SECOND FORM's CARD OF 'specielaw23.BlindRefuses'. -/
def blindRefusesUptoCard : Claim7 := { stood := { row := blindRefusesUptoRow, standIns := [], harness := (true, "7ed1c482369c3ddbcdda61cd2dec94277896bd931e198e98c8cdcdb0cdd1d2e7"), looks := false }, kinds := [], alts := [], laidByText := true, laidKinds := [.data, .data, .data, .data], laidTests := true, laidLooks := .later }
def BlindRefusesUptoCardSaid : Prop := Claim7.holds Tryd.pinned (.plain (OpenSpec.upto blindRefusesSpec)) blindRefusesUptoCard

/-- THE SECOND FORM's CARD OF 'specielaw26.UnlinkOnce'. -/
def unlinkOnceUptoCard : Claim7 := { stood := { row := unlinkOnceUptoRow, standIns := [], harness := (true, "7ed1c482369c3ddbcdda61cd2dec94277896bd931e198e98c8cdcdb0cdd1d2e7"), looks := false }, kinds := [], alts := [], laidByText := true, laidKinds := [.data, .data, .data, .data], laidTests := true, laidLooks := .later }
def UnlinkOnceUptoCardSaid : Prop := Claim7.holds Tryd.pinned (.plain (OpenSpec.upto unlinkOnceSpec)) unlinkOnceUptoCard
end Rows
end Go.Proofs.YtogbdnecpdcmiaaDoor
