/-
  DERIVED. GIVEN WITH THE SEED: THE CARDS: each row of YtmlcilfcaogdcaaGreatDoorRows.lean that lists a variable, with what it lists TIED to the program's text (the seventh form; the later family's looks); each row that meets fmt, with fmt's text TOLD by the authors' own Lean function (tested against real Go, not proved from fmt's source: count such statements apart). THE CARD IS WHAT COUNTS. Prove the row's statement (the work); the ties are given (YtmlcilfcaogdcaaGreatDoorTie.lean); close each card by the builder's one call (the guide's Derived/Test/ToyasCard.lean, 'card_holds'). Laid BY PROGRAM, IN A SANDBOX (cutbox-door.mjs). By AI agents, Wed Nov 11 2026. No macro, syntax, notation, axiom, sorry.
-/
import Derived.Test.YtmlcilfcaogdcaaGreatDoorRows
import GoSem.ClaimSeven
namespace Go.Proofs.YtmlcilfcaogdcaaGreatDoor
namespace Rows

/-- THE TIED CARD OF 'cracknellaw08.HeaderNames'. -/
def headerNamesCard : Claim7 := { stood := { row := headerNamesRow, standIns := [], harness := (true, "9a6fd0f24497d552aa824d82083629563af72ce3f9307793febe991fcca1fe7c"), looks := true }, kinds := [], alts := [], laidByText := true, laidKinds := [.data, .data, .data, .data, .sentinel, .sentinel, .pinned], laidTests := true, laidLooks := .later }
def HeaderNamesCardSaid : Prop := Claim7.holds Tryz.pinned (.plain (OpenSpec.ofChange headerNamesSpec)) headerNamesCard

/-- THE TIED CARD OF 'cracknellaw08.HeaderReads'. -/
def headerReadsCard : Claim7 := { stood := { row := headerReadsRow, standIns := [], harness := (true, "9a6fd0f24497d552aa824d82083629563af72ce3f9307793febe991fcca1fe7c"), looks := true }, kinds := [], alts := [], laidByText := true, laidKinds := [.data, .data, .data, .data, .sentinel, .sentinel, .pinned], laidTests := true, laidLooks := .later }
def HeaderReadsCardSaid : Prop := Claim7.holds Tryz.pinned (.plain (OpenSpec.ofChange headerReadsSpec)) headerReadsCard

/-- THE TIED CARD OF 'cracknellaw08.HeaderBack'. -/
def headerBackCard : Claim7 := { stood := { row := headerBackRow, standIns := [], harness := (true, "9a6fd0f24497d552aa824d82083629563af72ce3f9307793febe991fcca1fe7c"), looks := true }, kinds := [], alts := [], laidByText := true, laidKinds := [.data, .data, .data, .data, .sentinel, .sentinel, .pinned], laidTests := true, laidLooks := .later }
def HeaderBackCardSaid : Prop := Claim7.holds Tryz.pinned (.plain (OpenSpec.ofChange headerBackSpec)) headerBackCard

/-- THE TIED CARD OF 'cracknellaw08.HeaderLast'. -/
def headerLastCard : Claim7 := { stood := { row := headerLastRow, standIns := [], harness := (true, "9a6fd0f24497d552aa824d82083629563af72ce3f9307793febe991fcca1fe7c"), looks := true }, kinds := [], alts := [], laidByText := true, laidKinds := [.data, .data, .data, .data, .sentinel, .sentinel, .pinned], laidTests := true, laidLooks := .later }
def HeaderLastCardSaid : Prop := Claim7.holds Tryz.pinned (.plain (OpenSpec.ofChange headerLastSpec)) headerLastCard

/-- THE TIED CARD OF 'cracknellaw08.HeaderKeeps'. -/
def headerKeepsCard : Claim7 := { stood := { row := headerKeepsRow, standIns := [], harness := (true, "9a6fd0f24497d552aa824d82083629563af72ce3f9307793febe991fcca1fe7c"), looks := true }, kinds := [], alts := [], laidByText := true, laidKinds := [.data, .data, .data, .data, .sentinel, .sentinel, .pinned], laidTests := true, laidLooks := .later }
def HeaderKeepsCardSaid : Prop := Claim7.holds Tryz.pinned (.plain (OpenSpec.ofChange headerKeepsSpec)) headerKeepsCard

/-- THE SECOND FORM's CARD OF 'cracknellaw08.HeaderNames'. -/
def headerNamesUptoCard : Claim7 := { stood := { row := headerNamesUptoRow, standIns := [], harness := (true, "9a6fd0f24497d552aa824d82083629563af72ce3f9307793febe991fcca1fe7c"), looks := true }, kinds := [], alts := [], laidByText := true, laidKinds := [.data, .data, .data, .data, .sentinel, .sentinel, .pinned], laidTests := true, laidLooks := .later }
def HeaderNamesUptoCardSaid : Prop := Claim7.holds Tryz.pinned (.plain (OpenSpec.upto headerNamesSpec)) headerNamesUptoCard

/-- THE SECOND FORM's CARD OF 'cracknellaw08.HeaderReads'. -/
def headerReadsUptoCard : Claim7 := { stood := { row := headerReadsUptoRow, standIns := [], harness := (true, "9a6fd0f24497d552aa824d82083629563af72ce3f9307793febe991fcca1fe7c"), looks := true }, kinds := [], alts := [], laidByText := true, laidKinds := [.data, .data, .data, .data, .sentinel, .sentinel, .pinned], laidTests := true, laidLooks := .later }
def HeaderReadsUptoCardSaid : Prop := Claim7.holds Tryz.pinned (.plain (OpenSpec.upto headerReadsSpec)) headerReadsUptoCard

/-- THE SECOND FORM's CARD OF 'cracknellaw08.HeaderBack'. -/
def headerBackUptoCard : Claim7 := { stood := { row := headerBackUptoRow, standIns := [], harness := (true, "9a6fd0f24497d552aa824d82083629563af72ce3f9307793febe991fcca1fe7c"), looks := true }, kinds := [], alts := [], laidByText := true, laidKinds := [.data, .data, .data, .data, .sentinel, .sentinel, .pinned], laidTests := true, laidLooks := .later }
def HeaderBackUptoCardSaid : Prop := Claim7.holds Tryz.pinned (.plain (OpenSpec.upto headerBackSpec)) headerBackUptoCard

/-- THE SECOND FORM's CARD OF 'cracknellaw08.HeaderLast'. -/
def headerLastUptoCard : Claim7 := { stood := { row := headerLastUptoRow, standIns := [], harness := (true, "9a6fd0f24497d552aa824d82083629563af72ce3f9307793febe991fcca1fe7c"), looks := true }, kinds := [], alts := [], laidByText := true, laidKinds := [.data, .data, .data, .data, .sentinel, .sentinel, .pinned], laidTests := true, laidLooks := .later }
def HeaderLastUptoCardSaid : Prop := Claim7.holds Tryz.pinned (.plain (OpenSpec.upto headerLastSpec)) headerLastUptoCard

/-- THE SECOND FORM's CARD OF 'cracknellaw08.HeaderKeeps'. -/
def headerKeepsUptoCard : Claim7 := { stood := { row := headerKeepsUptoRow, standIns := [], harness := (true, "9a6fd0f24497d552aa824d82083629563af72ce3f9307793febe991fcca1fe7c"), looks := true }, kinds := [], alts := [], laidByText := true, laidKinds := [.data, .data, .data, .data, .sentinel, .sentinel, .pinned], laidTests := true, laidLooks := .later }
def HeaderKeepsUptoCardSaid : Prop := Claim7.holds Tryz.pinned (.plain (OpenSpec.upto headerKeepsSpec)) headerKeepsUptoCard
end Rows
end Go.Proofs.YtmlcilfcaogdcaaGreatDoor
