/-
  DERIVED. GIVEN WITH THE SEED: THE CARDS: each row of YtndbpedpdbjkpaaGreatDoorRows.lean that lists a variable, with what it lists TIED to the program's text (the seventh form; the later family's looks); each row that meets fmt, with fmt's text TOLD by the authors' own Lean function (tested against real Go, not proved from fmt's source: count such statements apart). THE CARD IS WHAT COUNTS. Prove the row's statement (the work); the ties are given (YtndbpedpdbjkpaaGreatDoorTie.lean); close each card by the builder's one call (the guide's Derived/Test/ToyasCard.lean, 'card_holds'). Laid BY PROGRAM, IN A SANDBOX (cutbox-door.mjs). By AI agents, Wed Nov 11 2026. No macro, syntax, notation, axiom, sorry.
-/
import Derived.Test.YtndbpedpdbjkpaaGreatDoorRows
import GoSem.ClaimSeven
namespace Go.Proofs.YtndbpedpdbjkpaaGreatDoor
namespace Rows

/-- THE TIED CARD OF 'cracknellaw18.HostsetNames'. -/
def hostsetNamesCard : Claim7 := { stood := { row := hostsetNamesRow, standIns := [], harness := (true, "a8a7c9c37da030a2914f19d5b36841ac7c3fe4caf9368f1f6241b187c41a6ecc"), looks := true }, kinds := [], alts := [], laidByText := true, laidKinds := [.data, .data, .data, .data, .pinned], laidTests := true, laidLooks := .later }
def HostsetNamesCardSaid : Prop := Claim7.holds Tryz.pinned (.plain (OpenSpec.ofChange hostsetNamesSpec)) hostsetNamesCard

/-- THE TIED CARD OF 'cracknellaw18.HostsetTells'. -/
def hostsetTellsCard : Claim7 := { stood := { row := hostsetTellsRow, standIns := [], harness := (true, "a8a7c9c37da030a2914f19d5b36841ac7c3fe4caf9368f1f6241b187c41a6ecc"), looks := true }, kinds := [], alts := [], laidByText := true, laidKinds := [.data, .data, .data, .data, .pinned], laidTests := true, laidLooks := .later }
def HostsetTellsCardSaid : Prop := Claim7.holds Tryz.pinned (.plain (OpenSpec.ofChange hostsetTellsSpec)) hostsetTellsCard

/-- THE TIED CARD OF 'cracknellaw18.HostsetBack'. -/
def hostsetBackCard : Claim7 := { stood := { row := hostsetBackRow, standIns := [], harness := (true, "a8a7c9c37da030a2914f19d5b36841ac7c3fe4caf9368f1f6241b187c41a6ecc"), looks := true }, kinds := [], alts := [], laidByText := true, laidKinds := [.data, .data, .data, .data, .pinned], laidTests := true, laidLooks := .later }
def HostsetBackCardSaid : Prop := Claim7.holds Tryz.pinned (.plain (OpenSpec.ofChange hostsetBackSpec)) hostsetBackCard

/-- THE TIED CARD OF 'cracknellaw10.AdmitNames'. -/
def admitNamesCard : Claim7 := { stood := { row := admitNamesRow, standIns := [], harness := (true, "a8a7c9c37da030a2914f19d5b36841ac7c3fe4caf9368f1f6241b187c41a6ecc"), looks := true }, kinds := [], alts := [], laidByText := true, laidKinds := [.data, .data, .data, .data, .sentinel, .sentinel, .pinned], laidTests := true, laidLooks := .later }
def AdmitNamesCardSaid : Prop := Claim7.holds Tryz.pinned (.plain (OpenSpec.ofChange admitNamesSpec)) admitNamesCard

/-- THE TIED CARD OF 'cracknellaw10.AdmitTakes'. -/
def admitTakesCard : Claim7 := { stood := { row := admitTakesRow, standIns := [], harness := (true, "a8a7c9c37da030a2914f19d5b36841ac7c3fe4caf9368f1f6241b187c41a6ecc"), looks := true }, kinds := [], alts := [], laidByText := true, laidKinds := [.data, .data, .data, .data, .sentinel, .sentinel, .pinned], laidTests := true, laidLooks := .later }
def AdmitTakesCardSaid : Prop := Claim7.holds Tryz.pinned (.plain (OpenSpec.ofChange admitTakesSpec)) admitTakesCard

/-- THE TIED CARD OF 'cracknellaw10.AdmitRaw'. -/
def admitRawCard : Claim7 := { stood := { row := admitRawRow, standIns := [], harness := (true, "a8a7c9c37da030a2914f19d5b36841ac7c3fe4caf9368f1f6241b187c41a6ecc"), looks := true }, kinds := [], alts := [], laidByText := true, laidKinds := [.data, .data, .data, .data, .sentinel, .sentinel, .pinned], laidTests := true, laidLooks := .later }
def AdmitRawCardSaid : Prop := Claim7.holds Tryz.pinned (.plain (OpenSpec.ofChange admitRawSpec)) admitRawCard

/-- THE TIED CARD OF 'cracknellaw10.AdmitSafe'. -/
def admitSafeCard : Claim7 := { stood := { row := admitSafeRow, standIns := [], harness := (true, "a8a7c9c37da030a2914f19d5b36841ac7c3fe4caf9368f1f6241b187c41a6ecc"), looks := true }, kinds := [], alts := [], laidByText := true, laidKinds := [.data, .data, .data, .data, .sentinel, .sentinel, .pinned], laidTests := true, laidLooks := .later }
def AdmitSafeCardSaid : Prop := Claim7.holds Tryz.pinned (.plain (OpenSpec.ofChange admitSafeSpec)) admitSafeCard

/-- THE TIED CARD OF 'cracknellaw10.AdmitGoes'. -/
def admitGoesCard : Claim7 := { stood := { row := admitGoesRow, standIns := [], harness := (true, "a8a7c9c37da030a2914f19d5b36841ac7c3fe4caf9368f1f6241b187c41a6ecc"), looks := true }, kinds := [], alts := [], laidByText := true, laidKinds := [.data, .data, .data, .data, .sentinel, .sentinel, .pinned], laidTests := true, laidLooks := .later }
def AdmitGoesCardSaid : Prop := Claim7.holds Tryz.pinned (.plain (OpenSpec.ofChange admitGoesSpec)) admitGoesCard

/-- THE TIED CARD OF 'cracknellaw10.AdmitFreely'. -/
def admitFreelyCard : Claim7 := { stood := { row := admitFreelyRow, standIns := [], harness := (true, "a8a7c9c37da030a2914f19d5b36841ac7c3fe4caf9368f1f6241b187c41a6ecc"), looks := true }, kinds := [], alts := [], laidByText := true, laidKinds := [.data, .data, .data, .data, .sentinel, .sentinel, .pinned], laidTests := true, laidLooks := .later }
def AdmitFreelyCardSaid : Prop := Claim7.holds Tryz.pinned (.plain (OpenSpec.ofChange admitFreelySpec)) admitFreelyCard

/-- THE SECOND FORM's CARD OF 'cracknellaw18.HostsetNames'. -/
def hostsetNamesUptoCard : Claim7 := { stood := { row := hostsetNamesUptoRow, standIns := [], harness := (true, "a8a7c9c37da030a2914f19d5b36841ac7c3fe4caf9368f1f6241b187c41a6ecc"), looks := true }, kinds := [], alts := [], laidByText := true, laidKinds := [.data, .data, .data, .data, .pinned], laidTests := true, laidLooks := .later }
def HostsetNamesUptoCardSaid : Prop := Claim7.holds Tryz.pinned (.plain (OpenSpec.upto hostsetNamesSpec)) hostsetNamesUptoCard

/-- THE SECOND FORM's CARD OF 'cracknellaw18.HostsetTells'. -/
def hostsetTellsUptoCard : Claim7 := { stood := { row := hostsetTellsUptoRow, standIns := [], harness := (true, "a8a7c9c37da030a2914f19d5b36841ac7c3fe4caf9368f1f6241b187c41a6ecc"), looks := true }, kinds := [], alts := [], laidByText := true, laidKinds := [.data, .data, .data, .data, .pinned], laidTests := true, laidLooks := .later }
def HostsetTellsUptoCardSaid : Prop := Claim7.holds Tryz.pinned (.plain (OpenSpec.upto hostsetTellsSpec)) hostsetTellsUptoCard

/-- THE SECOND FORM's CARD OF 'cracknellaw18.HostsetBack'. -/
def hostsetBackUptoCard : Claim7 := { stood := { row := hostsetBackUptoRow, standIns := [], harness := (true, "a8a7c9c37da030a2914f19d5b36841ac7c3fe4caf9368f1f6241b187c41a6ecc"), looks := true }, kinds := [], alts := [], laidByText := true, laidKinds := [.data, .data, .data, .data, .pinned], laidTests := true, laidLooks := .later }
def HostsetBackUptoCardSaid : Prop := Claim7.holds Tryz.pinned (.plain (OpenSpec.upto hostsetBackSpec)) hostsetBackUptoCard

/-- THE SECOND FORM's CARD OF 'cracknellaw10.AdmitNames'. -/
def admitNamesUptoCard : Claim7 := { stood := { row := admitNamesUptoRow, standIns := [], harness := (true, "a8a7c9c37da030a2914f19d5b36841ac7c3fe4caf9368f1f6241b187c41a6ecc"), looks := true }, kinds := [], alts := [], laidByText := true, laidKinds := [.data, .data, .data, .data, .sentinel, .sentinel, .pinned], laidTests := true, laidLooks := .later }
def AdmitNamesUptoCardSaid : Prop := Claim7.holds Tryz.pinned (.plain (OpenSpec.upto admitNamesSpec)) admitNamesUptoCard

/-- THE SECOND FORM's CARD OF 'cracknellaw10.AdmitTakes'. -/
def admitTakesUptoCard : Claim7 := { stood := { row := admitTakesUptoRow, standIns := [], harness := (true, "a8a7c9c37da030a2914f19d5b36841ac7c3fe4caf9368f1f6241b187c41a6ecc"), looks := true }, kinds := [], alts := [], laidByText := true, laidKinds := [.data, .data, .data, .data, .sentinel, .sentinel, .pinned], laidTests := true, laidLooks := .later }
def AdmitTakesUptoCardSaid : Prop := Claim7.holds Tryz.pinned (.plain (OpenSpec.upto admitTakesSpec)) admitTakesUptoCard

/-- THE SECOND FORM's CARD OF 'cracknellaw10.AdmitRaw'. -/
def admitRawUptoCard : Claim7 := { stood := { row := admitRawUptoRow, standIns := [], harness := (true, "a8a7c9c37da030a2914f19d5b36841ac7c3fe4caf9368f1f6241b187c41a6ecc"), looks := true }, kinds := [], alts := [], laidByText := true, laidKinds := [.data, .data, .data, .data, .sentinel, .sentinel, .pinned], laidTests := true, laidLooks := .later }
def AdmitRawUptoCardSaid : Prop := Claim7.holds Tryz.pinned (.plain (OpenSpec.upto admitRawSpec)) admitRawUptoCard

/-- THE SECOND FORM's CARD OF 'cracknellaw10.AdmitSafe'. -/
def admitSafeUptoCard : Claim7 := { stood := { row := admitSafeUptoRow, standIns := [], harness := (true, "a8a7c9c37da030a2914f19d5b36841ac7c3fe4caf9368f1f6241b187c41a6ecc"), looks := true }, kinds := [], alts := [], laidByText := true, laidKinds := [.data, .data, .data, .data, .sentinel, .sentinel, .pinned], laidTests := true, laidLooks := .later }
def AdmitSafeUptoCardSaid : Prop := Claim7.holds Tryz.pinned (.plain (OpenSpec.upto admitSafeSpec)) admitSafeUptoCard

/-- THE SECOND FORM's CARD OF 'cracknellaw10.AdmitGoes'. -/
def admitGoesUptoCard : Claim7 := { stood := { row := admitGoesUptoRow, standIns := [], harness := (true, "a8a7c9c37da030a2914f19d5b36841ac7c3fe4caf9368f1f6241b187c41a6ecc"), looks := true }, kinds := [], alts := [], laidByText := true, laidKinds := [.data, .data, .data, .data, .sentinel, .sentinel, .pinned], laidTests := true, laidLooks := .later }
def AdmitGoesUptoCardSaid : Prop := Claim7.holds Tryz.pinned (.plain (OpenSpec.upto admitGoesSpec)) admitGoesUptoCard

/-- THE SECOND FORM's CARD OF 'cracknellaw10.AdmitFreely'. -/
def admitFreelyUptoCard : Claim7 := { stood := { row := admitFreelyUptoRow, standIns := [], harness := (true, "a8a7c9c37da030a2914f19d5b36841ac7c3fe4caf9368f1f6241b187c41a6ecc"), looks := true }, kinds := [], alts := [], laidByText := true, laidKinds := [.data, .data, .data, .data, .sentinel, .sentinel, .pinned], laidTests := true, laidLooks := .later }
def AdmitFreelyUptoCardSaid : Prop := Claim7.holds Tryz.pinned (.plain (OpenSpec.upto admitFreelySpec)) admitFreelyUptoCard
end Rows
end Go.Proofs.YtndbpedpdbjkpaaGreatDoor
