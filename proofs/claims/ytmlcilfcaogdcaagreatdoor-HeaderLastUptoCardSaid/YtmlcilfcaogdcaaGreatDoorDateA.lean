/- Contracts of the calendar's functions. Its conditions: none. -/
import Derived.Test.YtmlcilfcaogdcaaGreatDoorV1
import Derived.Test.YtmlcilfcaogdcaaGreatDoorDateP
set_option linter.unusedVariables false
set_option linter.unusedSimpArgs false
set_option maxRecDepth 20000
namespace Go.Proofs.YtmlcilfcaogdcaaGreatDoor
open Go.Pk
open Go.RowKit (Below)

theorem date_leap_ok (y : Int) (w : World) : Calls Tryz.prog f_date_leap #[.int .i64 y] w (Ret fun v w' => v = .bool (leapB y) ∧ w' = w) := by
  apply run_date_leap
  unfold vc_date_leap leapB
  refine ⟨by decide, ?_⟩
  rintro _ rfl
  refine BCase.of (fun h => ?_) (fun h => ?_) <;> simp at h
  · refine ⟨by decide, ?_⟩
    rintro _ rfl
    refine BCase.of (fun h2 => ?_) (fun h2 => ?_) <;> simp at h2
    · exact ⟨by simp [h, h2], rfl⟩
    · refine ⟨by decide, ?_⟩
      rintro _ rfl
      refine ⟨?_, rfl⟩
      congr 1
      rw [Bool.eq_iff_iff]; simp [h, h2]
  · refine ⟨by decide, ?_⟩
    rintro _ rfl
    refine ⟨?_, rfl⟩
    congr 1
    rw [Bool.eq_iff_iff]; simp [h]
theorem ref07_leap_ok (y : Int) (w : World) : Calls Tryz.prog f_ref07_leap #[.int .i64 y] w (Ret fun v w' => v = .bool (leapB y) ∧ w' = w) := by
  apply run_ref07_leap
  unfold vc_ref07_leap leapB
  refine ⟨by decide, ?_⟩
  rintro _ rfl
  refine BCase.of (fun h => ?_) (fun h => ?_) <;> simp at h
  · exact ⟨by simp [h], rfl⟩
  · refine ⟨by decide, ?_⟩
    rintro _ rfl
    refine BCase.of (fun h2 => ?_) (fun h2 => ?_) <;> simp at h2
    · refine ⟨by decide, ?_⟩
      rintro _ rfl
      refine ⟨?_, rfl⟩
      congr 1
      rw [Bool.eq_iff_iff]; simp [h, h2]
    · exact ⟨by simp [h, h2], rfl⟩
theorem ref07_Length_ok (y m : Int) (w : World) : Calls Tryz.prog f_ref07_Length #[.int .i64 y, .int .i64 m] w (Ret fun v w' => v = .int .i64 (lenM y m) ∧ w' = w) := by
  apply run_ref07_Length
  unfold vc_ref07_Length
  refine ⟨fun b w' => w' = w ∧ b = decide (m = 4 ∨ m = 6 ∨ m = 9 ∨ m = 11), ?_, ?_⟩
  · refine BCase.of (fun h => ?_) (fun h => ?_) <;> simp at h
    · exact ⟨rfl, by simp [h]⟩
    · refine BCase.of (fun h2 => ?_) (fun h2 => ?_) <;> simp at h2
      · exact ⟨rfl, by simp [h2]⟩
      · refine BCase.of (fun h3 => ?_) (fun h3 => ?_) <;> simp at h3
        · exact ⟨rfl, by simp [h3]⟩
        · refine ⟨rfl, ?_⟩
          rw [Bool.eq_iff_iff]; simp [h, h2, h3]
  · intro b
    refine AllJ.of ?_ _
    rintro _ ⟨rfl, rfl⟩
    refine BCase.of (fun h => ?_) (fun h => ?_) <;> simp only [decide_eq_true_eq, decide_eq_false_iff_not] at h
    · refine ⟨?_, rfl⟩
      unfold lenM; rw [if_neg (by omega), if_pos h]
    · refine BCase.of (fun h2 => ?_) (fun h2 => ?_) <;> simp at h2
      · refine callK (ref07_leap_ok y _) ?_
        rintro _ w' ⟨rfl, rfl⟩
        refine ⟨_, rfl, ?_⟩
        refine BCase.of (fun h3 => ?_) (fun h3 => ?_)
        · refine ⟨?_, rfl⟩
          unfold lenM; rw [if_pos h2, if_pos h3]
        · refine ⟨?_, rfl⟩
          unfold lenM; rw [if_pos h2, if_neg (by simp [h3])]
      · refine ⟨?_, rfl⟩
        unfold lenM; rw [if_neg h2, if_neg h]
theorem ref07_year_ok (y : Int) (w : World) : Calls Tryz.prog f_ref07_year #[.int .i64 y] w (Ret fun v w' => v = .int .i64 (lenY y) ∧ w' = w) := by
  apply run_ref07_year
  unfold vc_ref07_year
  refine callK (ref07_leap_ok y w) ?_
  rintro _ w' ⟨rfl, rfl⟩
  refine ⟨_, rfl, ?_⟩
  refine BCase.of (fun h3 => ?_) (fun h3 => ?_)
  · refine ⟨?_, rfl⟩
    unfold lenY; rw [if_pos h3]
  · refine ⟨?_, rfl⟩
    unfold lenY; rw [if_neg (by simp [h3])]
theorem ref07_Is_ok (y m d : Int) (w : World) : Calls Tryz.prog f_ref07_Is #[.int .i64 y, .int .i64 m, .int .i64 d] w (Ret fun v w' => v = .bool (decide (isDate y m d)) ∧ w' = w) := by
  apply run_ref07_Is
  unfold vc_ref07_Is
  refine BCase.of (fun h1 => ?_) (fun h1 => ?_) <;> simp at h1
  · refine BCase.of (fun h2 => ?_) (fun h2 => ?_) <;> simp at h2
    · refine BCase.of (fun h3 => ?_) (fun h3 => ?_) <;> simp at h3
      · refine BCase.of (fun h4 => ?_) (fun h4 => ?_) <;> simp at h4
        · refine BCase.of (fun h5 => ?_) (fun h5 => ?_) <;> simp at h5
          · refine callK (ref07_Length_ok y m w) ?_
            rintro _ w' ⟨rfl, rfl⟩
            refine ⟨_, rfl, ?_, rfl⟩
            congr 1
            rw [Bool.eq_iff_iff]; simp [isDate, h1, h2, h3, h4, h5]
          · refine ⟨?_, rfl⟩
            congr 1; symm; rw [decide_eq_false_iff_not]; unfold isDate; omega
        · refine ⟨?_, rfl⟩
          congr 1; symm; rw [decide_eq_false_iff_not]; unfold isDate; omega
      · refine ⟨?_, rfl⟩
        congr 1; symm; rw [decide_eq_false_iff_not]; unfold isDate; omega
    · refine ⟨?_, rfl⟩
      congr 1; symm; rw [decide_eq_false_iff_not]; unfold isDate; omega
  · refine ⟨?_, rfl⟩
    congr 1; symm; rw [decide_eq_false_iff_not]; unfold isDate; omega
theorem dY_int {y : Int} (h1 : 1601 ≤ y) (h2 : y ≤ 10000) : -9223372036854775808 ≤ dY y ∧ dY y ≤ 9223372036854775807 := by have := dY_le h1 h2; omega
def daysV (y m d : Int) : Value := .tuple #[.int .i64 (if isDate y m d then daysOf y m d else 0), .bool (decide (isDate y m d))]
theorem ref07_Days_ok (y m d : Int) (w : World) : Calls Tryz.prog f_ref07_Days #[.int .i64 y, .int .i64 m, .int .i64 d] w (Ret fun v w' => v = daysV y m d ∧ w' = w) := by
  apply run_ref07_Days
  unfold vc_ref07_Days
  refine callK (ref07_Is_ok y m d w) ?_
  rintro _ w ⟨rfl, rfl⟩
  refine ⟨_, rfl, ?_⟩
  refine BCase.of (fun h => ?_) (fun h => ?_) <;> simp only [Bool.not_eq_true', Bool.not_eq_false', decide_eq_true_eq, decide_eq_false_iff_not] at h
  · refine ⟨?_, rfl⟩
    unfold daysV; rw [if_neg h]; simp [h]
  · have hd := h
    obtain ⟨h1, h2, h3, h4, h5, h6⟩ := h
    have hl := lenM_le y m
    refine ⟨fun q n k w' => w' = w ∧ 1 ≤ k ∧ k ≤ m ∧ n = d - 1 + cM y k ∧ q = (m - k).toNat, ⟨_, rfl, by omega, h3, ?_, rfl⟩, ?_⟩
    · rw [wrap_i64 (by omega) (by omega)]; simp [cM]
    intro q n k
    refine AllJ.of ?_ _
    rintro w ⟨rfl, hk1, hk2, rfl, rfl⟩
    refine BCase.of (fun h => ?_) (fun h => ?_) <;> simp only [decide_eq_true_eq, decide_eq_false_iff_not] at h
    · refine callK (ref07_Length_ok y k _) ?_
      rintro _ w ⟨rfl, rfl⟩
      have e1 := cM_le (y := y) hk1 (by omega)
      have e2 := lenM_le y k
      refine ⟨_, rfl, (m - (k + 1)).toNat, by omega, rfl, ?_, ?_, ?_, ?_⟩
      · rw [wrap_i64 (by omega) (by omega)]; omega
      · rw [wrap_i64 (by omega) (by omega)]; omega
      · rw [wrap_i64 (by omega) (by omega), wrap_i64 (by omega) (by omega), cM_succ hk1 (by omega)]; omega
      · rw [wrap_i64 (by omega) (by omega)]
    · have hkm : k = m := by omega
      subst hkm
      have e1 := cM_le (y := y) hk1 (by omega)
      refine ⟨fun q n k' w'' => w'' = w ∧ 1970 ≤ k' ∧ (k' ≤ y ∨ k' = 1970) ∧ n = d - 1 + cM y k + (dY k' - 719162) ∧ q = (y - k').toNat, ⟨_, rfl, by omega, .inr rfl, by rw [dY_1970]; omega, rfl⟩, ?_⟩
      intro q n k'
      refine AllJ.of ?_ _
      rintro w ⟨rfl, hk3, hk4, rfl, rfl⟩
      refine BCase.of (fun h => ?_) (fun h => ?_) <;> simp only [decide_eq_true_eq, decide_eq_false_iff_not] at h
      · refine callK (ref07_year_ok k' _) ?_
        rintro _ w ⟨rfl, rfl⟩
        have e3 := dY_le (y := k') (by omega) (by omega)
        have e4 := lenY_le k'
        refine ⟨_, rfl, (y - (k' + 1)).toNat, by omega, rfl, ?_, .inl ?_, ?_, ?_⟩
        · rw [wrap_i64 (by omega) (by omega)]; omega
        · rw [wrap_i64 (by omega) (by omega)]; omega
        · rw [wrap_i64 (by omega) (by omega), wrap_i64 (by omega) (by omega), dY_succ (by omega)]; omega
        · rw [wrap_i64 (by omega) (by omega)]
      · refine ⟨fun q n k'' w'' => w'' = w ∧ y ≤ k'' ∧ (k'' ≤ 1970 ∨ k'' = y) ∧ n = d - 1 + cM y k + (dY k' - 719162) - (dY k'' - dY y) ∧ q = (1970 - k'').toNat, ⟨_, rfl, by omega, .inr rfl, by omega, rfl⟩, ?_⟩
        intro q n k''
        refine AllJ.of ?_ _
        rintro w ⟨rfl, hk5, hk6, rfl, rfl⟩
        have e3 := dY_le (y := k') (by omega) (by omega)
        have e4 := dY_le (y := k'') (by omega) (by omega)
        have e5 := dY_le (y := y) (by omega) (by omega)
        have e6 := lenY_le k''
        refine BCase.of (fun h7 => ?_) (fun h7 => ?_) <;> simp only [decide_eq_true_eq, decide_eq_false_iff_not] at h7
        · refine callK (ref07_year_ok k'' _) ?_
          rintro _ w ⟨rfl, rfl⟩
          refine ⟨_, rfl, (1970 - (k'' + 1)).toNat, by omega, rfl, ?_, .inl ?_, ?_, ?_⟩
          · rw [wrap_i64 (by omega) (by omega)]; omega
          · rw [wrap_i64 (by omega) (by omega)]; omega
          · rw [wrap_i64 (by omega) (by omega), wrap_i64 (by omega) (by omega), dY_succ (by omega)]; omega
          · rw [wrap_i64 (by omega) (by omega)]
        · refine ⟨?_, rfl⟩
          unfold daysV
          rw [if_pos hd]
          have : decide (isDate y k d) = true := by simp [hd]
          rw [this]
          have e7 : k' = k'' := by omega
          have e8 : d - 1 + cM y k + (dY k' - 719162) - (dY k'' - dY y) = daysOf y k d := by rw [← e7]; unfold daysOf; omega
          rw [e8]
end Go.Proofs.YtmlcilfcaogdcaaGreatDoor
