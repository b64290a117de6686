/- Contract of token. Its conditions: none. -/
import Derived.Test.YtmlcilfcaogdcaaGreatDoorDateI
set_option linter.unusedVariables false
set_option linter.unusedSimpArgs false
set_option maxRecDepth 20000
namespace Go.Pk
open Go.RowKit (Below)
/-- what tokens have told -/
structure Fnd where
  time : Bool
  day : Bool
  month : Bool
  year : Bool
  s0 : Int
  s1 : Int
  s2 : Int
  y : Int
  m : Int
  d : Int
def Fnd.cells (f : Fnd) : List Value := [.bool f.time, .bool f.day, .bool f.month, .bool f.year, .int .i64 f.s0, .int .i64 f.s1, .int .i64 f.s2, .int .i64 f.y, .int .i64 f.m, .int .i64 f.d]
def numOk (s : List UInt8) (least most : Int) : Bool := decide (least ≤ ((digP s).length : Int) ∧ ((digP s).length : Int) ≤ most)
def tokV (f : Fnd) (s : List UInt8) : Fnd :=
  match clockV s, f.time with
  | some [a, b, c], false => { f with s0 := a, s1 := b, s2 := c, time := true }
  | _, _ => if numOk s 1 2 = true ∧ f.day = false then { f with d := decV (digP s), day := true }
    else if 0 < monthV s ∧ f.month = false then { f with m := monthV s, month := true }
    else if numOk s 2 4 = true ∧ f.year = false then { f with y := decV (digP s), year := true } else f
theorem grown_refl (w : World) (r : Option Nat) : w.grownBy w r := ⟨rfl, rfl, rfl, Nat.le_refl _, fun _ _ _ => rfl⟩
theorem grown_trans {a b c : World} {r : Option Nat} (h : a.grownBy b r) (k : b.grownBy c r) : a.grownBy c r :=
  ⟨k.os.trans h.os, k.tape.trans h.tape, k.output.trans h.output, Nat.le_trans h.size k.size, fun q hq hne => (k.block q (Nat.lt_of_lt_of_le hq h.size) hne).trans (h.block q hq hne)⟩
theorem below_grownBy {a b : World} (h : Below a.heap.size a b) (r : Option Nat) : a.grownBy b r := ⟨h.os, h.tape, h.output, h.size, fun q hq _ => h.block q hq⟩
end Go.Pk
namespace Go.Proofs.YtmlcilfcaogdcaaGreatDoor
open Go.Pk
open Go.RowKit (Below)
theorem addr_at (k o : Nat) : Option.map (fun (x : Addr) => x.add o) (some ⟨k, 0, none⟩) = some ⟨k, o, none⟩ := by
  simp [add_none]
theorem bool_one (b : Bool) : ∀ c ∈ (Value.bool b).cells.toList, c.oneCell' = true := by
  intro c hc
  have : c = .bool b := by simpa [Value.cells] using hc
  subst this; rfl
def TokPost (k : Nat) (f : Fnd) (s : List UInt8) (w : World) (v : Value) (w' : World) : Prop := v = .tuple #[] ∧ ArrAt w' k T_date_found (tokV f s).cells ∧ w.grownBy w' (some k)
theorem numV_ok {s : List UInt8} {l m : Int} (h : numOk s l m = true) : numV s l m = .tuple #[.int .i64 (decV (digP s)), .string (mkS (s.drop (digP s).length)), .bool true] := by
  unfold numOk at h; unfold numV; rw [if_pos (by simpa using h)]
theorem numV_bad {s : List UInt8} {l m : Int} (h : numOk s l m = false) : numV s l m = .tuple #[.int .i64 0, .string (mkS s), .bool false] := by
  unfold numOk at h; unfold numV; rw [if_neg (by simpa using h)]
end Go.Proofs.YtmlcilfcaogdcaaGreatDoor
