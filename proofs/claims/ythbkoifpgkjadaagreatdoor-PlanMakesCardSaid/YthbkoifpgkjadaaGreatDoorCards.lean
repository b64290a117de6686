/-
  DERIVED. GIVEN WITH THE SEED: THE CARDS: each row of YthbkoifpgkjadaaGreatDoorRows.lean that lists a variable, with what it lists TIED to the program's text (the seventh form; the later family's looks); each row that meets fmt, with fmt's text TOLD by the authors' own Lean function (tested against real Go, not proved from fmt's source: count such statements apart). THE CARD IS WHAT COUNTS. Prove the row's statement (the work); the ties are given (YthbkoifpgkjadaaGreatDoorTie.lean); close each card by the builder's one call (the guide's Derived/Test/ToyasCard.lean, 'card_holds'). Laid BY PROGRAM, IN A SANDBOX (cutbox-door.mjs). By AI agents, Wed Nov 11 2026. No macro, syntax, notation, axiom, sorry.
-/
import Derived.Test.YthbkoifpgkjadaaGreatDoorRows
import GoSem.ClaimSeven
namespace Go.Proofs.YthbkoifpgkjadaaGreatDoor
namespace Rows

/-- THE TIED CARD OF 'cracknellaw23.PlanNames'. -/
def planNamesCard : Claim7 := { stood := { row := planNamesRow, standIns := [], harness := (true, "2d867ded0a1778a0ad5afcbc709e56cc3080413aa899082bdc0e6ececb2b7b52"), looks := true }, kinds := [], alts := [], laidByText := true, laidKinds := [.data, .data, .data, .data, .sentinel, .sentinel, .pinned], laidTests := true, laidLooks := .later }
def PlanNamesCardSaid : Prop := Claim7.holds Tryz.pinned (.plain (OpenSpec.ofChange planNamesSpec)) planNamesCard

/-- THE TIED CARD OF 'cracknellaw23.PlanMakes'. -/
def planMakesCard : Claim7 := { stood := { row := planMakesRow, standIns := [], harness := (true, "2d867ded0a1778a0ad5afcbc709e56cc3080413aa899082bdc0e6ececb2b7b52"), looks := true }, kinds := [], alts := [], laidByText := true, laidKinds := [.data, .data, .data, .data, .sentinel, .sentinel, .pinned], laidTests := true, laidLooks := .later }
def PlanMakesCardSaid : Prop := Claim7.holds Tryz.pinned (.plain (OpenSpec.ofChange planMakesSpec)) planMakesCard

/-- THE TIED CARD OF 'cracknellaw23.PlanOrigins'. -/
def planOriginsCard : Claim7 := { stood := { row := planOriginsRow, standIns := [], harness := (true, "2d867ded0a1778a0ad5afcbc709e56cc3080413aa899082bdc0e6ececb2b7b52"), looks := true }, kinds := [], alts := [], laidByText := true, laidKinds := [.data, .data, .data, .data, .sentinel, .sentinel, .pinned], laidTests := true, laidLooks := .later }
def PlanOriginsCardSaid : Prop := Claim7.holds Tryz.pinned (.plain (OpenSpec.ofChange planOriginsSpec)) planOriginsCard

/-- THE TIED CARD OF 'cracknellaw23.PlanTakes'. -/
def planTakesCard : Claim7 := { stood := { row := planTakesRow, standIns := [], harness := (true, "2d867ded0a1778a0ad5afcbc709e56cc3080413aa899082bdc0e6ececb2b7b52"), looks := true }, kinds := [], alts := [], laidByText := true, laidKinds := [.data, .data, .data, .data, .sentinel, .sentinel, .pinned], laidTests := true, laidLooks := .later }
def PlanTakesCardSaid : Prop := Claim7.holds Tryz.pinned (.plain (OpenSpec.ofChange planTakesSpec)) planTakesCard

/-- THE TIED CARD OF 'cracknellaw23.PlanGoes'. -/
def planGoesCard : Claim7 := { stood := { row := planGoesRow, standIns := [], harness := (true, "2d867ded0a1778a0ad5afcbc709e56cc3080413aa899082bdc0e6ececb2b7b52"), looks := true }, kinds := [], alts := [], laidByText := true, laidKinds := [.data, .data, .data, .data, .sentinel, .sentinel, .pinned], laidTests := true, laidLooks := .later }
def PlanGoesCardSaid : Prop := Claim7.holds Tryz.pinned (.plain (OpenSpec.ofChange planGoesSpec)) planGoesCard

/-- THE SECOND FORM's CARD OF 'cracknellaw23.PlanNames'. -/
def planNamesUptoCard : Claim7 := { stood := { row := planNamesUptoRow, standIns := [], harness := (true, "2d867ded0a1778a0ad5afcbc709e56cc3080413aa899082bdc0e6ececb2b7b52"), looks := true }, kinds := [], alts := [], laidByText := true, laidKinds := [.data, .data, .data, .data, .sentinel, .sentinel, .pinned], laidTests := true, laidLooks := .later }
def PlanNamesUptoCardSaid : Prop := Claim7.holds Tryz.pinned (.plain (OpenSpec.upto planNamesSpec)) planNamesUptoCard

/-- THE SECOND FORM's CARD OF 'cracknellaw23.PlanMakes'. -/
def planMakesUptoCard : Claim7 := { stood := { row := planMakesUptoRow, standIns := [], harness := (true, "2d867ded0a1778a0ad5afcbc709e56cc3080413aa899082bdc0e6ececb2b7b52"), looks := true }, kinds := [], alts := [], laidByText := true, laidKinds := [.data, .data, .data, .data, .sentinel, .sentinel, .pinned], laidTests := true, laidLooks := .later }
def PlanMakesUptoCardSaid : Prop := Claim7.holds Tryz.pinned (.plain (OpenSpec.upto planMakesSpec)) planMakesUptoCard

/-- THE SECOND FORM's CARD OF 'cracknellaw23.PlanOrigins'. -/
def planOriginsUptoCard : Claim7 := { stood := { row := planOriginsUptoRow, standIns := [], harness := (true, "2d867ded0a1778a0ad5afcbc709e56cc3080413aa899082bdc0e6ececb2b7b52"), looks := true }, kinds := [], alts := [], laidByText := true, laidKinds := [.data, .data, .data, .data, .sentinel, .sentinel, .pinned], laidTests := true, laidLooks := .later }
def PlanOriginsUptoCardSaid : Prop := Claim7.holds Tryz.pinned (.plain (OpenSpec.upto planOriginsSpec)) planOriginsUptoCard

/-- THE SECOND FORM's CARD OF 'cracknellaw23.PlanTakes'. -/
def planTakesUptoCard : Claim7 := { stood := { row := planTakesUptoRow, standIns := [], harness := (true, "2d867ded0a1778a0ad5afcbc709e56cc3080413aa899082bdc0e6ececb2b7b52"), looks := true }, kinds := [], alts := [], laidByText := true, laidKinds := [.data, .data, .data, .data, .sentinel, .sentinel, .pinned], laidTests := true, laidLooks := .later }
def PlanTakesUptoCardSaid : Prop := Claim7.holds Tryz.pinned (.plain (OpenSpec.upto planTakesSpec)) planTakesUptoCard

/-- THE SECOND FORM's CARD OF 'cracknellaw23.PlanGoes'. -/
def planGoesUptoCard : Claim7 := { stood := { row := planGoesUptoRow, standIns := [], harness := (true, "2d867ded0a1778a0ad5afcbc709e56cc3080413aa899082bdc0e6ececb2b7b52"), looks := true }, kinds := [], alts := [], laidByText := true, laidKinds := [.data, .data, .data, .data, .sentinel, .sentinel, .pinned], laidTests := true, laidLooks := .later }
def PlanGoesUptoCardSaid : Prop := Claim7.holds Tryz.pinned (.plain (OpenSpec.upto planGoesSpec)) planGoesUptoCard
end Rows
end Go.Proofs.YthbkoifpgkjadaaGreatDoor
