/-
  DERIVED. GIVEN WITH THE SEED: THE CARDS: each row of YtpafoodmpjlkhaaGreatDoorRows.lean that lists a variable, with what it lists TIED to the program's text (the seventh form; the later family's looks); each row that meets fmt, with fmt's text TOLD by the authors' own Lean function (tested against real Go, not proved from fmt's source: count such statements apart). THE CARD IS WHAT COUNTS. Prove the row's statement (the work); the ties are given (YtpafoodmpjlkhaaGreatDoorTie.lean); close each card by the builder's one call (the guide's Derived/Test/ToyasCard.lean, 'card_holds'). Laid BY PROGRAM, IN A SANDBOX (cutbox-door.mjs). By AI agents, Wed Nov 11 2026. No macro, syntax, notation, axiom, sorry.
-/
import Derived.Test.YtpafoodmpjlkhaaGreatDoorRows
import GoSem.ClaimSeven
namespace Go.Proofs.YtpafoodmpjlkhaaGreatDoor
namespace Rows

/-- THE TIED CARD OF 'cracknellaw18.HostsetNames'. -/
def hostsetNamesCard : Claim7 := { stood := { row := hostsetNamesRow, standIns := [], harness := (true, "6818a21ca6f57e5a05e396bc4aa7a7a9ba154259a14a24e0b69890187ba900e7"), looks := true }, kinds := [], alts := [], laidByText := true, laidKinds := [.data, .data, .data, .data, .pinned], laidTests := true, laidLooks := .later }
def HostsetNamesCardSaid : Prop := Claim7.holds Tryz.pinned (.plain (OpenSpec.ofChange hostsetNamesSpec)) hostsetNamesCard

/-- THE TIED CARD OF 'cracknellaw18.HostsetTells'. -/
def hostsetTellsCard : Claim7 := { stood := { row := hostsetTellsRow, standIns := [], harness := (true, "6818a21ca6f57e5a05e396bc4aa7a7a9ba154259a14a24e0b69890187ba900e7"), looks := true }, kinds := [], alts := [], laidByText := true, laidKinds := [.data, .data, .data, .data, .pinned], laidTests := true, laidLooks := .later }
def HostsetTellsCardSaid : Prop := Claim7.holds Tryz.pinned (.plain (OpenSpec.ofChange hostsetTellsSpec)) hostsetTellsCard

/-- THE TIED CARD OF 'cracknellaw18.HostsetBack'. -/
def hostsetBackCard : Claim7 := { stood := { row := hostsetBackRow, standIns := [], harness := (true, "6818a21ca6f57e5a05e396bc4aa7a7a9ba154259a14a24e0b69890187ba900e7"), looks := true }, kinds := [], alts := [], laidByText := true, laidKinds := [.data, .data, .data, .data, .pinned], laidTests := true, laidLooks := .later }
def HostsetBackCardSaid : Prop := Claim7.holds Tryz.pinned (.plain (OpenSpec.ofChange hostsetBackSpec)) hostsetBackCard

/-- THE TIED CARD OF 'cracknellaw20.RegionOf'. -/
def regionOfCard : Claim7 := { stood := { row := regionOfRow, standIns := [], harness := (true, "6818a21ca6f57e5a05e396bc4aa7a7a9ba154259a14a24e0b69890187ba900e7"), looks := true }, kinds := [], alts := [], laidByText := true, laidKinds := [.data, .data, .data, .data, .pinned], laidTests := true, laidLooks := .later }
def RegionOfCardSaid : Prop := Claim7.holds Tryz.pinned (.plain (OpenSpec.ofChange regionOfSpec)) regionOfCard

/-- THE TIED CARD OF 'cracknellaw20.RegionRaw'. -/
def regionRawCard : Claim7 := { stood := { row := regionRawRow, standIns := [], harness := (true, "6818a21ca6f57e5a05e396bc4aa7a7a9ba154259a14a24e0b69890187ba900e7"), looks := true }, kinds := [], alts := [], laidByText := true, laidKinds := [.data, .data, .data, .data, .pinned], laidTests := true, laidLooks := .later }
def RegionRawCardSaid : Prop := Claim7.holds Tryz.pinned (.plain (OpenSpec.ofChange regionRawSpec)) regionRawCard

/-- THE TIED CARD OF 'cracknellaw20.RegionFinds'. -/
def regionFindsCard : Claim7 := { stood := { row := regionFindsRow, standIns := [], harness := (true, "6818a21ca6f57e5a05e396bc4aa7a7a9ba154259a14a24e0b69890187ba900e7"), looks := true }, kinds := [], alts := [], laidByText := true, laidKinds := [.data, .data, .data, .data, .pinned], laidTests := true, laidLooks := .later }
def RegionFindsCardSaid : Prop := Claim7.holds Tryz.pinned (.plain (OpenSpec.ofChange regionFindsSpec)) regionFindsCard

/-- THE TIED CARD OF 'cracknellaw20.RegionMeets'. -/
def regionMeetsCard : Claim7 := { stood := { row := regionMeetsRow, standIns := [], harness := (true, "6818a21ca6f57e5a05e396bc4aa7a7a9ba154259a14a24e0b69890187ba900e7"), looks := true }, kinds := [], alts := [], laidByText := true, laidKinds := [.data, .data, .data, .data, .pinned], laidTests := true, laidLooks := .later }
def RegionMeetsCardSaid : Prop := Claim7.holds Tryz.pinned (.plain (OpenSpec.ofChange regionMeetsSpec)) regionMeetsCard

/-- THE TIED CARD OF 'cracknellaw20.RegionOrders'. -/
def regionOrdersCard : Claim7 := { stood := { row := regionOrdersRow, standIns := [], harness := (true, "6818a21ca6f57e5a05e396bc4aa7a7a9ba154259a14a24e0b69890187ba900e7"), looks := true }, kinds := [], alts := [], laidByText := true, laidKinds := [.data, .data, .data, .data, .pinned], laidTests := true, laidLooks := .later }
def RegionOrdersCardSaid : Prop := Claim7.holds Tryz.pinned (.plain (OpenSpec.ofChange regionOrdersSpec)) regionOrdersCard

/-- THE SECOND FORM's CARD OF 'cracknellaw18.HostsetNames'. -/
def hostsetNamesUptoCard : Claim7 := { stood := { row := hostsetNamesUptoRow, standIns := [], harness := (true, "6818a21ca6f57e5a05e396bc4aa7a7a9ba154259a14a24e0b69890187ba900e7"), looks := true }, kinds := [], alts := [], laidByText := true, laidKinds := [.data, .data, .data, .data, .pinned], laidTests := true, laidLooks := .later }
def HostsetNamesUptoCardSaid : Prop := Claim7.holds Tryz.pinned (.plain (OpenSpec.upto hostsetNamesSpec)) hostsetNamesUptoCard

/-- THE SECOND FORM's CARD OF 'cracknellaw18.HostsetTells'. -/
def hostsetTellsUptoCard : Claim7 := { stood := { row := hostsetTellsUptoRow, standIns := [], harness := (true, "6818a21ca6f57e5a05e396bc4aa7a7a9ba154259a14a24e0b69890187ba900e7"), looks := true }, kinds := [], alts := [], laidByText := true, laidKinds := [.data, .data, .data, .data, .pinned], laidTests := true, laidLooks := .later }
def HostsetTellsUptoCardSaid : Prop := Claim7.holds Tryz.pinned (.plain (OpenSpec.upto hostsetTellsSpec)) hostsetTellsUptoCard

/-- THE SECOND FORM's CARD OF 'cracknellaw18.HostsetBack'. -/
def hostsetBackUptoCard : Claim7 := { stood := { row := hostsetBackUptoRow, standIns := [], harness := (true, "6818a21ca6f57e5a05e396bc4aa7a7a9ba154259a14a24e0b69890187ba900e7"), looks := true }, kinds := [], alts := [], laidByText := true, laidKinds := [.data, .data, .data, .data, .pinned], laidTests := true, laidLooks := .later }
def HostsetBackUptoCardSaid : Prop := Claim7.holds Tryz.pinned (.plain (OpenSpec.upto hostsetBackSpec)) hostsetBackUptoCard

/-- THE SECOND FORM's CARD OF 'cracknellaw20.RegionOf'. -/
def regionOfUptoCard : Claim7 := { stood := { row := regionOfUptoRow, standIns := [], harness := (true, "6818a21ca6f57e5a05e396bc4aa7a7a9ba154259a14a24e0b69890187ba900e7"), looks := true }, kinds := [], alts := [], laidByText := true, laidKinds := [.data, .data, .data, .data, .pinned], laidTests := true, laidLooks := .later }
def RegionOfUptoCardSaid : Prop := Claim7.holds Tryz.pinned (.plain (OpenSpec.upto regionOfSpec)) regionOfUptoCard

/-- THE SECOND FORM's CARD OF 'cracknellaw20.RegionRaw'. -/
def regionRawUptoCard : Claim7 := { stood := { row := regionRawUptoRow, standIns := [], harness := (true, "6818a21ca6f57e5a05e396bc4aa7a7a9ba154259a14a24e0b69890187ba900e7"), looks := true }, kinds := [], alts := [], laidByText := true, laidKinds := [.data, .data, .data, .data, .pinned], laidTests := true, laidLooks := .later }
def RegionRawUptoCardSaid : Prop := Claim7.holds Tryz.pinned (.plain (OpenSpec.upto regionRawSpec)) regionRawUptoCard

/-- THE SECOND FORM's CARD OF 'cracknellaw20.RegionFinds'. -/
def regionFindsUptoCard : Claim7 := { stood := { row := regionFindsUptoRow, standIns := [], harness := (true, "6818a21ca6f57e5a05e396bc4aa7a7a9ba154259a14a24e0b69890187ba900e7"), looks := true }, kinds := [], alts := [], laidByText := true, laidKinds := [.data, .data, .data, .data, .pinned], laidTests := true, laidLooks := .later }
def RegionFindsUptoCardSaid : Prop := Claim7.holds Tryz.pinned (.plain (OpenSpec.upto regionFindsSpec)) regionFindsUptoCard

/-- THE SECOND FORM's CARD OF 'cracknellaw20.RegionMeets'. -/
def regionMeetsUptoCard : Claim7 := { stood := { row := regionMeetsUptoRow, standIns := [], harness := (true, "6818a21ca6f57e5a05e396bc4aa7a7a9ba154259a14a24e0b69890187ba900e7"), looks := true }, kinds := [], alts := [], laidByText := true, laidKinds := [.data, .data, .data, .data, .pinned], laidTests := true, laidLooks := .later }
def RegionMeetsUptoCardSaid : Prop := Claim7.holds Tryz.pinned (.plain (OpenSpec.upto regionMeetsSpec)) regionMeetsUptoCard

/-- THE SECOND FORM's CARD OF 'cracknellaw20.RegionOrders'. -/
def regionOrdersUptoCard : Claim7 := { stood := { row := regionOrdersUptoRow, standIns := [], harness := (true, "6818a21ca6f57e5a05e396bc4aa7a7a9ba154259a14a24e0b69890187ba900e7"), looks := true }, kinds := [], alts := [], laidByText := true, laidKinds := [.data, .data, .data, .data, .pinned], laidTests := true, laidLooks := .later }
def RegionOrdersUptoCardSaid : Prop := Claim7.holds Tryz.pinned (.plain (OpenSpec.upto regionOrdersSpec)) regionOrdersUptoCard
end Rows
end Go.Proofs.YtpafoodmpjlkhaaGreatDoor
