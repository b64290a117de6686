/- Contract of clock. Its conditions: none. -/
import Derived.Test.YtmlcilfcaogdcaaGreatDoorDateG
set_option linter.unusedVariables false
set_option linter.unusedSimpArgs false
set_option maxRecDepth 20000
namespace Go.Pk
def colon (i : Nat) (s : List UInt8) : Option (List UInt8) := if i = 0 then some s else if s.head? = some 58 then some (s.drop 1) else none
def stepC (i : Nat) (s : List UInt8) : Option (Int × List UInt8) := (colon i s).bind fun t => if 1 ≤ (digP t).length ∧ (digP t).length ≤ 2 then some (decV (digP t), t.drop (digP t).length) else none
def clockFrom : Nat → Nat → List UInt8 → Option (List Int)
  | 0, _, _ => some []
  | f + 1, i, s => (stepC i s).bind fun p => (clockFrom f (i + 1) p.2).map (p.1 :: ·)
/-- three numbers with colons between -/
def clockV (s : List UInt8) : Option (List Int) := clockFrom 3 0 s
theorem cut_colon (s : List UInt8) : Lib.hasPrefix s [58] = decide (s.head? = some 58) ∧ (s.head? = some 58 → Lib.trimPrefix s [58] = s.drop 1) := by
  cases s with
  | nil => exact ⟨by decide, fun h => by cases h⟩
  | cons c s =>
    have ht : Lib.hasPrefix (58 :: s) [58] = true := rfl
    by_cases h : c = 58
    · subst h
      refine ⟨by rw [ht]; simp, fun _ => ?_⟩
      unfold Lib.trimPrefix; rw [ht]; rfl
    · have hf : Lib.hasPrefix (c :: s) [58] = false := by
        show ((58 == c) && _) = false
        rw [beq_eq_false_iff_ne.2 (Ne.symm h)]; rfl
      refine ⟨by rw [hf]; simp [h], fun e => absurd (by simpa using e) h⟩
end Go.Pk
namespace Go.Proofs.YtmlcilfcaogdcaaGreatDoor
open Go.Pk
open Go.RowKit (Below)
theorem arr3_one (l : List Int) : ∀ c ∈ (Value.agg (l.map fun n => Value.int .i64 n).toArray).cells.toList, c.oneCell' = true := by
  intro c hc
  obtain ⟨n, _, rfl⟩ : ∃ n, n ∈ l ∧ Value.int .i64 n = c := by simpa [Value.cells] using hc
  rfl
theorem cutPrefix_ok (s : List UInt8) (w : World) : Calls Tryz.prog f_strings_CutPrefix #[.string (mkS s), .string (mkS [58])] w (Ret fun v w' => v = .tuple #[.string (mkS (if s.head? = some 58 then s.drop 1 else s)), .bool (decide (s.head? = some 58))] ∧ w' = w) := by
  refine (Tryz.strings_CutPrefix (mkS s) (mkS [58]) w).mono ?_
  rintro _ _ ⟨rfl, rfl⟩
  refine ⟨_, rfl, ?_, rfl⟩
  have h := cut_colon s
  have e : (mkS s).data.toList = s := rfl
  have e2 : (mkS [58]).data.toList = [58] := rfl
  rw [e, e2, h.1]
  by_cases hc : s.head? = some 58
  · rw [if_pos hc, h.2 hc]; rfl
  · rw [if_neg hc]
    have : Lib.trimPrefix s [58] = s := by unfold Lib.trimPrefix; rw [if_neg (by rw [h.1]; simpa using hc)]
    rw [this]; rfl
/-- what the three cells of an array hold -/
def arrV (l : List Int) : List Value := l.map fun n => Value.int .i64 n
def ClockPost (s : List UInt8) (w : World) (v : Value) (w' : World) : Prop :=
  (∃ a b c b', v = .tuple #[.agg #[.int .i64 a, .int .i64 b, .int .i64 c], .bool b'] ∧ (clockV s = none ∧ b' = false ∨ clockV s = some [a, b, c] ∧ b' = true)) ∧ Below w.heap.size w w'
end Go.Proofs.YtmlcilfcaogdcaaGreatDoor
