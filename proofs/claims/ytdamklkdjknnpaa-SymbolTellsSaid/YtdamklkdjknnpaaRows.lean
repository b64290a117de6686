/-
  No cell of these rows narrows 'for every input' (looked for: loops, veiled, ifaces, maps, wideKeys, modest, calm, conditions, laid).
  DERIVED. THE GIVEN ROWS OF THIS SEAT. 4 by the template 'for every input the law returns true; each argument reads behind the call as it read before'; 0 by the template 'total and deterministic' (their statements: YtdamklkdjknnpaaTotals.lean).
  GIVEN WITH THE SEED: the statements are not yours to turn. If you find one false, say at which input.
  Laid BY PROGRAM, IN A SANDBOX (cutbox-rows.mjs): the forced cells as the released guide's own fill.sh prints them over the translation c54d1c6ae93972f5… (all of the seat's roots in one cut). By AI agents, Wed Nov 11 2026. No macro, syntax, notation, axiom, sorry.
-/
import Derived.Test.YtdamklkdjknnpaaChecked
import GoSem.Claim
import GoSem.ClaimJoined
import GoSem.ClaimMapViews
import Derived.JoinedTies
import Derived.KernelRfl
namespace Go.Proofs.Ytdamklkdjknnpaa
/- THE CELL 'sum', in the pinned program and in every row, IS THE sha256 OF THE DUMP (.gsa) THAT YtdamklkdjknnpaaProg.lean LOADS. Nothing in Lean hashes anything: it is a label: what it is worth is what the hold of that sum in a sandbox is worth. -/
noncomputable def Try.pinned : Pinned := { name := "ytdamklkdjknnpaa", sum := "c54d1c6ae93972f5271415317e1ba2c905dd834b66c08ee1e4cff42830e43be0", checked := Try.checked }
namespace Rows
def none {H : Type} : Left H := { results := [], args := [] }

/-- 'cracknellaw14.SymbolTells': WHATEVER THE INPUT: true; the input reads as it did. -/
def symbolTellsSpec : ChangeSpec := { name := "symbolTells", fn := fun _ => fun
  | [d1, d2, d3] => { results := [.lit (.bool true)], args := [d1, d2, d3] }
  | _ => none }
def symbolTellsRow : OpenClaim := { program := "ytdamklkdjknnpaa", sum := "c54d1c6ae93972f5271415317e1ba2c905dd834b66c08ee1e4cff42830e43be0", func := "cracknel/cracknellaw14.SymbolTells", spec := "symbolTells", inPlace := ["internal/bytealg.IndexByteString"], unfollowed := true, recurses := true, apart := false }
def SymbolTellsSaid : Prop := symbolTellsRow.holds Try.pinned (OpenSpec.ofChange symbolTellsSpec)

/-- ITS FALSE NEIGHBOUR: 'it returns false'. Refute it at one input. -/
def symbolTellsWrong : ChangeSpec := { name := "symbolTells", fn := fun _ => fun
  | [d1, d2, d3] => { results := [.lit (.bool false)], args := [d1, d2, d3] }
  | _ => none }
def SymbolTellsWrongFalsely : Prop := symbolTellsRow.holds Try.pinned (OpenSpec.ofChange symbolTellsWrong)

/-- 'cracknellaw14.SymbolBack': WHATEVER THE INPUT: true; the input reads as it did. -/
def symbolBackSpec : ChangeSpec := { name := "symbolBack", fn := fun _ => fun
  | [d1, d2] => { results := [.lit (.bool true)], args := [d1, d2] }
  | _ => none }
def symbolBackRow : OpenClaim := { program := "ytdamklkdjknnpaa", sum := "c54d1c6ae93972f5271415317e1ba2c905dd834b66c08ee1e4cff42830e43be0", func := "cracknel/cracknellaw14.SymbolBack", spec := "symbolBack", inPlace := ["internal/bytealg.IndexByteString"], unfollowed := true, recurses := true, apart := false }
def SymbolBackSaid : Prop := symbolBackRow.holds Try.pinned (OpenSpec.ofChange symbolBackSpec)

/-- ITS FALSE NEIGHBOUR: 'it returns false'. Refute it at one input. -/
def symbolBackWrong : ChangeSpec := { name := "symbolBack", fn := fun _ => fun
  | [d1, d2] => { results := [.lit (.bool false)], args := [d1, d2] }
  | _ => none }
def SymbolBackWrongFalsely : Prop := symbolBackRow.holds Try.pinned (OpenSpec.ofChange symbolBackWrong)

/-- 'cracknellaw14.SymbolBytes': WHATEVER THE INPUT: true; the input reads as it did. -/
def symbolBytesSpec : ChangeSpec := { name := "symbolBytes", fn := fun _ => fun
  | [d1, d2] => { results := [.lit (.bool true)], args := [d1, d2] }
  | _ => none }
def symbolBytesRow : OpenClaim := { program := "ytdamklkdjknnpaa", sum := "c54d1c6ae93972f5271415317e1ba2c905dd834b66c08ee1e4cff42830e43be0", func := "cracknel/cracknellaw14.SymbolBytes", spec := "symbolBytes", inPlace := ["internal/bytealg.IndexByteString"], unfollowed := true, recurses := true, apart := false }
def SymbolBytesSaid : Prop := symbolBytesRow.holds Try.pinned (OpenSpec.ofChange symbolBytesSpec)

/-- ITS FALSE NEIGHBOUR: 'it returns false'. Refute it at one input. -/
def symbolBytesWrong : ChangeSpec := { name := "symbolBytes", fn := fun _ => fun
  | [d1, d2] => { results := [.lit (.bool false)], args := [d1, d2] }
  | _ => none }
def SymbolBytesWrongFalsely : Prop := symbolBytesRow.holds Try.pinned (OpenSpec.ofChange symbolBytesWrong)

/-- 'cracknellaw14.SymbolWords': WHATEVER THE INPUT: true; the input reads as it did. -/
def symbolWordsSpec : ChangeSpec := { name := "symbolWords", fn := fun _ => fun
  | [d1, d2] => { results := [.lit (.bool true)], args := [d1, d2] }
  | _ => none }
def symbolWordsRow : OpenClaim := { program := "ytdamklkdjknnpaa", sum := "c54d1c6ae93972f5271415317e1ba2c905dd834b66c08ee1e4cff42830e43be0", func := "cracknel/cracknellaw14.SymbolWords", spec := "symbolWords", inPlace := ["internal/bytealg.IndexByteString"], unfollowed := true, recurses := true, apart := false }
def SymbolWordsSaid : Prop := symbolWordsRow.holds Try.pinned (OpenSpec.ofChange symbolWordsSpec)

/-- ITS FALSE NEIGHBOUR: 'it returns false'. Refute it at one input. -/
def symbolWordsWrong : ChangeSpec := { name := "symbolWords", fn := fun _ => fun
  | [d1, d2] => { results := [.lit (.bool false)], args := [d1, d2] }
  | _ => none }
def SymbolWordsWrongFalsely : Prop := symbolWordsRow.holds Try.pinned (OpenSpec.ofChange symbolWordsWrong)

/- THE SECOND FORM. 'bulk': how many values and letters a reading holds, each counted each time it is reached (what is shared counts as often as it is met; a slice's spare places count too). A statement '..UptoSaid' is the law's where the arguments, and the package variables that the reading takes, are together of bulk at most 1048576: NARROWER than '..Said'. Prove '..Said' where nothing that the law and all that it calls make is longer than what came in: it says more and counts as full. Else prove '..UptoSaid'. A law counts once. -/
mutual
def uptoBulk {H : Type} : DataW H → Nat
  | .lit (.string bytes) => bytes.length + 1
  | .lit _ => 1
  | .nil => 1
  | .ptr d => uptoBulk d + 1
  | .slice elems spare => uptoBulkAll elems + uptoBulkAll spare + 1
  | .agg parts => uptoBulkAll parts + 1
  | .iface _ d => uptoBulk d + 1
  | .map entries => uptoBulkEntries entries + 1
  | .held _ => 1
def uptoBulkAll {H : Type} : List (DataW H) → Nat
  | [] => 0
  | d :: r => uptoBulk d + uptoBulkAll r
def uptoBulkEntries {H : Type} : List (Lit × DataW H) → Nat
  | [] => 0
  | x :: r => uptoBulkEntry x + uptoBulkEntries r
def uptoBulkEntry {H : Type} : Lit × DataW H → Nat
  | (.string bytes, d) => bytes.length + uptoBulk d + 1
  | (_, d) => uptoBulk d + 1
 end
def uptoSmall : (H : Type) → List (DataW H) → Bool := fun _ ds => decide (uptoBulkAll ds ≤ 1048576)
def OpenSpec.upto (s : _root_.Go.ChangeSpec) : _root_.Go.OpenSpec := { _root_.Go.OpenSpec.ofChange s with cond := some uptoSmall }

/-- 'cracknellaw14.SymbolTells', WHERE WHAT IT READS IS OF BULK AT MOST 1048576: true; the input reads as it did. -/
def symbolTellsUptoRow : OpenClaim := { program := "ytdamklkdjknnpaa", sum := "c54d1c6ae93972f5271415317e1ba2c905dd834b66c08ee1e4cff42830e43be0", func := "cracknel/cracknellaw14.SymbolTells", spec := "symbolTells", inPlace := ["internal/bytealg.IndexByteString"], unfollowed := true, recurses := true, apart := false, narrowed := true }
def SymbolTellsUptoSaid : Prop := symbolTellsUptoRow.holds Try.pinned (OpenSpec.upto symbolTellsSpec)

/-- 'cracknellaw14.SymbolBack', WHERE WHAT IT READS IS OF BULK AT MOST 1048576: true; the input reads as it did. -/
def symbolBackUptoRow : OpenClaim := { program := "ytdamklkdjknnpaa", sum := "c54d1c6ae93972f5271415317e1ba2c905dd834b66c08ee1e4cff42830e43be0", func := "cracknel/cracknellaw14.SymbolBack", spec := "symbolBack", inPlace := ["internal/bytealg.IndexByteString"], unfollowed := true, recurses := true, apart := false, narrowed := true }
def SymbolBackUptoSaid : Prop := symbolBackUptoRow.holds Try.pinned (OpenSpec.upto symbolBackSpec)

/-- 'cracknellaw14.SymbolBytes', WHERE WHAT IT READS IS OF BULK AT MOST 1048576: true; the input reads as it did. -/
def symbolBytesUptoRow : OpenClaim := { program := "ytdamklkdjknnpaa", sum := "c54d1c6ae93972f5271415317e1ba2c905dd834b66c08ee1e4cff42830e43be0", func := "cracknel/cracknellaw14.SymbolBytes", spec := "symbolBytes", inPlace := ["internal/bytealg.IndexByteString"], unfollowed := true, recurses := true, apart := false, narrowed := true }
def SymbolBytesUptoSaid : Prop := symbolBytesUptoRow.holds Try.pinned (OpenSpec.upto symbolBytesSpec)

/-- 'cracknellaw14.SymbolWords', WHERE WHAT IT READS IS OF BULK AT MOST 1048576: true; the input reads as it did. -/
def symbolWordsUptoRow : OpenClaim := { program := "ytdamklkdjknnpaa", sum := "c54d1c6ae93972f5271415317e1ba2c905dd834b66c08ee1e4cff42830e43be0", func := "cracknel/cracknellaw14.SymbolWords", spec := "symbolWords", inPlace := ["internal/bytealg.IndexByteString"], unfollowed := true, recurses := true, apart := false, narrowed := true }
def SymbolWordsUptoSaid : Prop := symbolWordsUptoRow.holds Try.pinned (OpenSpec.upto symbolWordsSpec)

end Rows
end Go.Proofs.Ytdamklkdjknnpaa
