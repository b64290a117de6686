/-
  DERIVED. GIVEN WITH THE SEED: THE CARDS: each row of YtmlcilfcaogdcaaDoorRows.lean that lists a variable, with what it lists TIED to the program's text (the seventh form; the later family's looks); each row that meets fmt, with fmt's text TOLD by the authors' own Lean function (tested against real Go, not proved from fmt's source: count such statements apart). THE CARD IS WHAT COUNTS. Prove the row's statement (the work); the ties are given (YtmlcilfcaogdcaaDoorTie.lean); close each card by the builder's one call (the guide's Derived/Test/ToyasCard.lean, 'card_holds'). Laid BY PROGRAM, IN A SANDBOX (cutbox-door.mjs). By AI agents, Wed Nov 11 2026. No macro, syntax, notation, axiom, sorry.
-/
import Derived.Test.YtmlcilfcaogdcaaDoorRows
import GoSem.ClaimSeven
namespace Go.Proofs.YtmlcilfcaogdcaaDoor
namespace Rows

/-- THE TIED CARD OF 'cracknellaw07.DateDays'. -/
def dateDaysCard : Claim7 := { stood := { row := dateDaysRow, standIns := [], harness := (true, "74813b96ebdc1f95772bd002001bfbe7e8e2ec2b79b7a26ddd1fca9f313ff5e0"), looks := true }, kinds := [], alts := [], laidByText := true, laidKinds := [.data, .data, .data, .data, .sentinel, .sentinel, .pinned], laidTests := true, laidLooks := .later }
def DateDaysCardSaid : Prop := Claim7.holds Tryd.pinned (.plain (OpenSpec.ofChange dateDaysSpec)) dateDaysCard

/-- THE TIED CARD OF 'cracknellaw07.DateCookies'. -/
def dateCookiesCard : Claim7 := { stood := { row := dateCookiesRow, standIns := [], harness := (true, "74813b96ebdc1f95772bd002001bfbe7e8e2ec2b79b7a26ddd1fca9f313ff5e0"), looks := true }, kinds := [], alts := [], laidByText := true, laidKinds := [.data, .data, .data, .data, .sentinel, .sentinel, .pinned], laidTests := true, laidLooks := .later }
def DateCookiesCardSaid : Prop := Claim7.holds Tryd.pinned (.plain (OpenSpec.ofChange dateCookiesSpec)) dateCookiesCard

/-- THE TIED CARD OF 'cracknellaw07.DateTells'. -/
def dateTellsCard : Claim7 := { stood := { row := dateTellsRow, standIns := [], harness := (true, "74813b96ebdc1f95772bd002001bfbe7e8e2ec2b79b7a26ddd1fca9f313ff5e0"), looks := true }, kinds := [], alts := [], laidByText := true, laidKinds := [.data, .data, .data, .data, .sentinel, .sentinel, .pinned], laidTests := true, laidLooks := .later }
def DateTellsCardSaid : Prop := Claim7.holds Tryd.pinned (.plain (OpenSpec.ofChange dateTellsSpec)) dateTellsCard

/-- THE TIED CARD OF 'cracknellaw07.DateBack'. -/
def dateBackCard : Claim7 := { stood := { row := dateBackRow, standIns := [], harness := (true, "74813b96ebdc1f95772bd002001bfbe7e8e2ec2b79b7a26ddd1fca9f313ff5e0"), looks := true }, kinds := [], alts := [], laidByText := true, laidKinds := [.data, .data, .data, .data, .sentinel, .sentinel, .pinned], laidTests := true, laidLooks := .later }
def DateBackCardSaid : Prop := Claim7.holds Tryd.pinned (.plain (OpenSpec.ofChange dateBackSpec)) dateBackCard

/-- THE TIED CARD OF 'cracknellaw07.DateNext'. -/
def dateNextCard : Claim7 := { stood := { row := dateNextRow, standIns := [], harness := (true, "74813b96ebdc1f95772bd002001bfbe7e8e2ec2b79b7a26ddd1fca9f313ff5e0"), looks := true }, kinds := [], alts := [], laidByText := true, laidKinds := [.data, .data, .data, .data, .sentinel, .sentinel, .pinned], laidTests := true, laidLooks := .later }
def DateNextCardSaid : Prop := Claim7.holds Tryd.pinned (.plain (OpenSpec.ofChange dateNextSpec)) dateNextCard

/-- THE TIED CARD OF 'cracknellaw07.DateParts'. -/
def datePartsCard : Claim7 := { stood := { row := datePartsRow, standIns := [], harness := (true, "74813b96ebdc1f95772bd002001bfbe7e8e2ec2b79b7a26ddd1fca9f313ff5e0"), looks := true }, kinds := [], alts := [], laidByText := true, laidKinds := [.data, .data, .data, .data, .sentinel, .sentinel, .pinned], laidTests := true, laidLooks := .later }
def DatePartsCardSaid : Prop := Claim7.holds Tryd.pinned (.plain (OpenSpec.ofChange datePartsSpec)) datePartsCard

/-- THE SECOND FORM's CARD OF 'cracknellaw07.DateDays'. -/
def dateDaysUptoCard : Claim7 := { stood := { row := dateDaysUptoRow, standIns := [], harness := (true, "74813b96ebdc1f95772bd002001bfbe7e8e2ec2b79b7a26ddd1fca9f313ff5e0"), looks := true }, kinds := [], alts := [], laidByText := true, laidKinds := [.data, .data, .data, .data, .sentinel, .sentinel, .pinned], laidTests := true, laidLooks := .later }
def DateDaysUptoCardSaid : Prop := Claim7.holds Tryd.pinned (.plain (OpenSpec.upto dateDaysSpec)) dateDaysUptoCard

/-- THE SECOND FORM's CARD OF 'cracknellaw07.DateCookies'. -/
def dateCookiesUptoCard : Claim7 := { stood := { row := dateCookiesUptoRow, standIns := [], harness := (true, "74813b96ebdc1f95772bd002001bfbe7e8e2ec2b79b7a26ddd1fca9f313ff5e0"), looks := true }, kinds := [], alts := [], laidByText := true, laidKinds := [.data, .data, .data, .data, .sentinel, .sentinel, .pinned], laidTests := true, laidLooks := .later }
def DateCookiesUptoCardSaid : Prop := Claim7.holds Tryd.pinned (.plain (OpenSpec.upto dateCookiesSpec)) dateCookiesUptoCard

/-- THE SECOND FORM's CARD OF 'cracknellaw07.DateTells'. -/
def dateTellsUptoCard : Claim7 := { stood := { row := dateTellsUptoRow, standIns := [], harness := (true, "74813b96ebdc1f95772bd002001bfbe7e8e2ec2b79b7a26ddd1fca9f313ff5e0"), looks := true }, kinds := [], alts := [], laidByText := true, laidKinds := [.data, .data, .data, .data, .sentinel, .sentinel, .pinned], laidTests := true, laidLooks := .later }
def DateTellsUptoCardSaid : Prop := Claim7.holds Tryd.pinned (.plain (OpenSpec.upto dateTellsSpec)) dateTellsUptoCard

/-- THE SECOND FORM's CARD OF 'cracknellaw07.DateBack'. -/
def dateBackUptoCard : Claim7 := { stood := { row := dateBackUptoRow, standIns := [], harness := (true, "74813b96ebdc1f95772bd002001bfbe7e8e2ec2b79b7a26ddd1fca9f313ff5e0"), looks := true }, kinds := [], alts := [], laidByText := true, laidKinds := [.data, .data, .data, .data, .sentinel, .sentinel, .pinned], laidTests := true, laidLooks := .later }
def DateBackUptoCardSaid : Prop := Claim7.holds Tryd.pinned (.plain (OpenSpec.upto dateBackSpec)) dateBackUptoCard

/-- THE SECOND FORM's CARD OF 'cracknellaw07.DateNext'. -/
def dateNextUptoCard : Claim7 := { stood := { row := dateNextUptoRow, standIns := [], harness := (true, "74813b96ebdc1f95772bd002001bfbe7e8e2ec2b79b7a26ddd1fca9f313ff5e0"), looks := true }, kinds := [], alts := [], laidByText := true, laidKinds := [.data, .data, .data, .data, .sentinel, .sentinel, .pinned], laidTests := true, laidLooks := .later }
def DateNextUptoCardSaid : Prop := Claim7.holds Tryd.pinned (.plain (OpenSpec.upto dateNextSpec)) dateNextUptoCard

/-- THE SECOND FORM's CARD OF 'cracknellaw07.DateParts'. -/
def datePartsUptoCard : Claim7 := { stood := { row := datePartsUptoRow, standIns := [], harness := (true, "74813b96ebdc1f95772bd002001bfbe7e8e2ec2b79b7a26ddd1fca9f313ff5e0"), looks := true }, kinds := [], alts := [], laidByText := true, laidKinds := [.data, .data, .data, .data, .sentinel, .sentinel, .pinned], laidTests := true, laidLooks := .later }
def DatePartsUptoCardSaid : Prop := Claim7.holds Tryd.pinned (.plain (OpenSpec.upto datePartsSpec)) datePartsUptoCard
end Rows
end Go.Proofs.YtmlcilfcaogdcaaDoor
