/-
  DERIVED. GIVEN WITH THE SEED: THE CARDS: each row of YtlfolncaghkmcaaGreatDoorRows.lean that lists a variable, with what it lists TIED to the program's text (the seventh form; the later family's looks); each row that meets fmt, with fmt's text TOLD by the authors' own Lean function (tested against real Go, not proved from fmt's source: count such statements apart). THE CARD IS WHAT COUNTS. Prove the row's statement (the work); the ties are given (YtlfolncaghkmcaaGreatDoorTie.lean); close each card by the builder's one call (the guide's Derived/Test/ToyasCard.lean, 'card_holds'). Laid BY PROGRAM, IN A SANDBOX (cutbox-door.mjs). By AI agents, Wed Nov 11 2026. No macro, syntax, notation, axiom, sorry.
-/
import Derived.Test.YtlfolncaghkmcaaGreatDoorRows
import GoSem.ClaimSeven
namespace Go.Proofs.YtlfolncaghkmcaaGreatDoor
namespace Rows

/-- THE TIED CARD OF 'cracknellaw12.JarNames'. -/
def jarNamesCard : Claim7 := { stood := { row := jarNamesRow, standIns := [], harness := (true, "0fe41fe47ba94d5783efcacce020e27252b8a7e3759a566adcf2fa4ffba37a96"), looks := true }, kinds := [], alts := [], laidByText := true, laidKinds := [.data, .data, .data, .data, .sentinel, .sentinel, .pinned], laidTests := true, laidLooks := .later }
def JarNamesCardSaid : Prop := Claim7.holds Tryz.pinned (.plain (OpenSpec.ofChange jarNamesSpec)) jarNamesCard

/-- THE TIED CARD OF 'cracknellaw12.JarFull'. -/
def jarFullCard : Claim7 := { stood := { row := jarFullRow, standIns := [], harness := (true, "0fe41fe47ba94d5783efcacce020e27252b8a7e3759a566adcf2fa4ffba37a96"), looks := true }, kinds := [], alts := [], laidByText := true, laidKinds := [.data, .data, .data, .data, .sentinel, .sentinel, .pinned], laidTests := true, laidLooks := .later }
def JarFullCardSaid : Prop := Claim7.holds Tryz.pinned (.plain (OpenSpec.ofChange jarFullSpec)) jarFullCard

/-- THE TIED CARD OF 'cracknellaw12.JarSafe'. -/
def jarSafeCard : Claim7 := { stood := { row := jarSafeRow, standIns := [], harness := (true, "0fe41fe47ba94d5783efcacce020e27252b8a7e3759a566adcf2fa4ffba37a96"), looks := true }, kinds := [], alts := [], laidByText := true, laidKinds := [.data, .data, .data, .data, .sentinel, .sentinel, .pinned], laidTests := true, laidLooks := .later }
def JarSafeCardSaid : Prop := Claim7.holds Tryz.pinned (.plain (OpenSpec.ofChange jarSafeSpec)) jarSafeCard

/-- THE TIED CARD OF 'cracknellaw12.JarRuns'. -/
def jarRunsCard : Claim7 := { stood := { row := jarRunsRow, standIns := [], harness := (true, "0fe41fe47ba94d5783efcacce020e27252b8a7e3759a566adcf2fa4ffba37a96"), looks := true }, kinds := [], alts := [], laidByText := true, laidKinds := [.data, .data, .data, .data, .sentinel, .sentinel, .pinned], laidTests := true, laidLooks := .later }
def JarRunsCardSaid : Prop := Claim7.holds Tryz.pinned (.plain (OpenSpec.ofChange jarRunsSpec)) jarRunsCard

/-- THE TIED CARD OF 'cracknellaw12.JarSends'. -/
def jarSendsCard : Claim7 := { stood := { row := jarSendsRow, standIns := [], harness := (true, "0fe41fe47ba94d5783efcacce020e27252b8a7e3759a566adcf2fa4ffba37a96"), looks := true }, kinds := [], alts := [], laidByText := true, laidKinds := [.data, .data, .data, .data, .sentinel, .sentinel, .pinned], laidTests := true, laidLooks := .later }
def JarSendsCardSaid : Prop := Claim7.holds Tryz.pinned (.plain (OpenSpec.ofChange jarSendsSpec)) jarSendsCard

/-- THE TIED CARD OF 'cracknellaw12.JarEnds'. -/
def jarEndsCard : Claim7 := { stood := { row := jarEndsRow, standIns := [], harness := (true, "0fe41fe47ba94d5783efcacce020e27252b8a7e3759a566adcf2fa4ffba37a96"), looks := true }, kinds := [], alts := [], laidByText := true, laidKinds := [.data, .data, .data, .data, .sentinel, .sentinel, .pinned], laidTests := true, laidLooks := .later }
def JarEndsCardSaid : Prop := Claim7.holds Tryz.pinned (.plain (OpenSpec.ofChange jarEndsSpec)) jarEndsCard

/-- THE SECOND FORM's CARD OF 'cracknellaw12.JarNames'. -/
def jarNamesUptoCard : Claim7 := { stood := { row := jarNamesUptoRow, standIns := [], harness := (true, "0fe41fe47ba94d5783efcacce020e27252b8a7e3759a566adcf2fa4ffba37a96"), looks := true }, kinds := [], alts := [], laidByText := true, laidKinds := [.data, .data, .data, .data, .sentinel, .sentinel, .pinned], laidTests := true, laidLooks := .later }
def JarNamesUptoCardSaid : Prop := Claim7.holds Tryz.pinned (.plain (OpenSpec.upto jarNamesSpec)) jarNamesUptoCard

/-- THE SECOND FORM's CARD OF 'cracknellaw12.JarFull'. -/
def jarFullUptoCard : Claim7 := { stood := { row := jarFullUptoRow, standIns := [], harness := (true, "0fe41fe47ba94d5783efcacce020e27252b8a7e3759a566adcf2fa4ffba37a96"), looks := true }, kinds := [], alts := [], laidByText := true, laidKinds := [.data, .data, .data, .data, .sentinel, .sentinel, .pinned], laidTests := true, laidLooks := .later }
def JarFullUptoCardSaid : Prop := Claim7.holds Tryz.pinned (.plain (OpenSpec.upto jarFullSpec)) jarFullUptoCard

/-- THE SECOND FORM's CARD OF 'cracknellaw12.JarSafe'. -/
def jarSafeUptoCard : Claim7 := { stood := { row := jarSafeUptoRow, standIns := [], harness := (true, "0fe41fe47ba94d5783efcacce020e27252b8a7e3759a566adcf2fa4ffba37a96"), looks := true }, kinds := [], alts := [], laidByText := true, laidKinds := [.data, .data, .data, .data, .sentinel, .sentinel, .pinned], laidTests := true, laidLooks := .later }
def JarSafeUptoCardSaid : Prop := Claim7.holds Tryz.pinned (.plain (OpenSpec.upto jarSafeSpec)) jarSafeUptoCard

/-- THE SECOND FORM's CARD OF 'cracknellaw12.JarRuns'. -/
def jarRunsUptoCard : Claim7 := { stood := { row := jarRunsUptoRow, standIns := [], harness := (true, "0fe41fe47ba94d5783efcacce020e27252b8a7e3759a566adcf2fa4ffba37a96"), looks := true }, kinds := [], alts := [], laidByText := true, laidKinds := [.data, .data, .data, .data, .sentinel, .sentinel, .pinned], laidTests := true, laidLooks := .later }
def JarRunsUptoCardSaid : Prop := Claim7.holds Tryz.pinned (.plain (OpenSpec.upto jarRunsSpec)) jarRunsUptoCard

/-- THE SECOND FORM's CARD OF 'cracknellaw12.JarSends'. -/
def jarSendsUptoCard : Claim7 := { stood := { row := jarSendsUptoRow, standIns := [], harness := (true, "0fe41fe47ba94d5783efcacce020e27252b8a7e3759a566adcf2fa4ffba37a96"), looks := true }, kinds := [], alts := [], laidByText := true, laidKinds := [.data, .data, .data, .data, .sentinel, .sentinel, .pinned], laidTests := true, laidLooks := .later }
def JarSendsUptoCardSaid : Prop := Claim7.holds Tryz.pinned (.plain (OpenSpec.upto jarSendsSpec)) jarSendsUptoCard

/-- THE SECOND FORM's CARD OF 'cracknellaw12.JarEnds'. -/
def jarEndsUptoCard : Claim7 := { stood := { row := jarEndsUptoRow, standIns := [], harness := (true, "0fe41fe47ba94d5783efcacce020e27252b8a7e3759a566adcf2fa4ffba37a96"), looks := true }, kinds := [], alts := [], laidByText := true, laidKinds := [.data, .data, .data, .data, .sentinel, .sentinel, .pinned], laidTests := true, laidLooks := .later }
def JarEndsUptoCardSaid : Prop := Claim7.holds Tryz.pinned (.plain (OpenSpec.upto jarEndsSpec)) jarEndsUptoCard
end Rows
end Go.Proofs.YtlfolncaghkmcaaGreatDoor
