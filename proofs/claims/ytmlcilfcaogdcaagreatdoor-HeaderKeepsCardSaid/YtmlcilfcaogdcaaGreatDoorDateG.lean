/- Contracts of month, digits. Its conditions: none. -/
import Derived.Test.YtmlcilfcaogdcaaGreatDoorDateF
set_option linter.unusedVariables false
set_option linter.unusedSimpArgs false
set_option maxRecDepth 20000
namespace Go.Pk
def monthsL : List UInt8 := [74, 97, 110, 70, 101, 98, 77, 97, 114, 65, 112, 114, 77, 97, 121, 74, 117, 110, 74, 117, 108, 65, 117, 103, 83, 101, 112, 79, 99, 116, 78, 111, 118, 68, 101, 99]
def monthAt (k : Nat) : List UInt8 := lowL ((monthsL.take (3 * k + 3)).drop (3 * k))
/-- the month whose name stands at the beginning: from k on -/
def monthFrom (s : List UInt8) : Nat → Nat → Int
  | 0, _ => 0
  | f + 1, k => if 3 ≤ s.length ∧ lowL (s.take 3) = monthAt k then (k : Int) + 1 else monthFrom s f (k + 1)
def monthV (s : List UInt8) : Int := monthFrom s 12 0
theorem monthFrom_short {s : List UInt8} (h : ¬ 3 ≤ s.length) : ∀ f k, monthFrom s f k = 0
  | 0, _ => rfl
  | f + 1, k => by unfold monthFrom; rw [if_neg (fun e => h e.1)]; exact monthFrom_short h f (k + 1)
end Go.Pk
namespace Go.Proofs.YtmlcilfcaogdcaaGreatDoor
open Go.Pk
open Go.RowKit (Below)
theorem date_month_ok (s : List UInt8) (hs : s.length ≤ 9223372036854775800) (w : World) : Calls Tryz.prog f_date_month #[.string (mkS s)] w (Ret fun v w' => v = .int .i64 (monthV s) ∧ Below w.heap.size w w') := by
  apply run_date_month
  unfold vc_date_month
  refine ⟨fun m i w' => ∃ k : Nat, k ≤ 12 ∧ i = (k : Int) ∧ m = 12 - k ∧ monthV s = monthFrom s (12 - k) k ∧ Below w.heap.size w w', ⟨_, 0, by omega, rfl, rfl, rfl, Below.refl _ _⟩, ?_⟩
  intro m i
  refine AllJ.of ?_ _
  rintro w1 ⟨k, hk, rfl, rfl, hv, hb⟩
  refine ⟨fun w' => w' = w1 ∧ k < 12 ∧ 3 ≤ s.length, ?_, ?_⟩
  · refine BCase.of (fun h => ?_) (fun h => ?_) <;> simp only [decide_eq_true_eq, decide_eq_false_iff_not] at h
    · refine BCase.of (fun h2 => ?_) (fun h2 => ?_) <;> simp only [ge_iff_le, decide_eq_true_eq, decide_eq_false_iff_not] at h2
      · exact ⟨rfl, by omega, by omega⟩
      · exact ⟨by rw [hv, monthFrom_short (by omega)], hb⟩
    · have : k = 12 := by omega
      subst this
      exact ⟨by rw [hv]; rfl, hb⟩
  · refine AllJ.of ?_ _
    rintro w1 ⟨rfl, h1, h2⟩
    rw [wrap_i64 (n := 3 * (k : Int)) (by omega) (by omega), wrap_i64 (n := 3 * (k : Int) + 3) (by omega) (by omega)]
    refine ⟨⟨by omega, by omega⟩, ?_⟩
    rintro _ rfl
    refine ⟨⟨⟨by omega, by simp; omega⟩, by omega, by omega⟩, ?_⟩
    rintro _ rfl
    have e1 : Int.toNat (3 * (k : Int)) = 3 * k := by omega
    have e2 : Int.toNat (3 * (k : Int) + 3) = 3 * k + 3 := by omega
    have e3 : Int.toNat (3 : Int) = 3 := rfl
    rw [e1, e2, e3]
    refine ⟨lowL (s.take 3) == monthAt k, fun u hu => ?_, ?_⟩
    · refine (octet_Same_ok (s.take 3) ((monthsL.take (3 * k + 3)).drop (3 * k)) (by simp; omega) (by simp [monthsL]; omega) u).mono ?_
      rintro _ w2 ⟨_, rfl, rfl, hb2⟩
      exact ⟨rfl, hb2.mono hu.size⟩
    · intro wq hq
      have ef : 12 - k = (12 - (k + 1)) + 1 := by omega
      rw [ef] at hv
      unfold monthFrom at hv
      have ew : IntKind.i64.wrap ((k : Int) + 1) = (k : Int) + 1 := by rw [wrap_i64 (by omega) (by omega)]
      refine BCase.of (fun h => ?_) (fun h => ?_)
      · rw [beq_iff_eq] at h
        rw [if_pos ⟨h2, h⟩] at hv
        exact ⟨by rw [ew, hv], below_step hb hq hb.size⟩
      · rw [beq_eq_false_iff_ne] at h
        rw [if_neg (fun e => h e.2)] at hv
        exact ⟨12 - (k + 1), by omega, k + 1, by omega, by rw [ew]; omega, rfl, hv, below_step hb hq hb.size⟩
end Go.Proofs.YtmlcilfcaogdcaaGreatDoor
