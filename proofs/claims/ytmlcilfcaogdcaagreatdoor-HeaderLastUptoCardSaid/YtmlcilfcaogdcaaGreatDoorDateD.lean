/- Contract of date.Civil. Its conditions: none. -/
import Derived.Test.YtmlcilfcaogdcaaGreatDoorDateC
import Derived.Test.YtmlcilfcaogdcaaGreatDoorDateQ
set_option linter.unusedVariables false
set_option linter.unusedSimpArgs false
set_option maxRecDepth 20000
namespace Go.Proofs.YtmlcilfcaogdcaaGreatDoor
open Go.Pk
open Go.RowKit (Below)

theorem date_Civil_ok (n : Int) (w : World) (hn : -9223372036854775808 ≤ n ∧ n ≤ 9223372036854775807) : Calls Tryz.prog f_date_Civil #[.int .i64 n] w (Ret fun v w' => v = civV n ∧ Below w.heap.size w w') := by
  apply run_date_Civil
  unfold vc_date_Civil
  refine callK (date_Days_ok _ _ _ (by omega) w) ?_
  rintro _ w1 ⟨rfl, hb1⟩
  refine ⟨_, _, rfl, ?_⟩
  refine callK (date_Days_ok _ _ _ (by omega) w1) ?_
  rintro _ w2 ⟨rfl, hb2⟩
  have hB := below_step hb1 hb2 hb1.size
  refine ⟨_, _, rfl, ?_⟩
  rw [if_pos low_day.1, if_pos high_day.1, low_day.2, high_day.2]
  refine ⟨fun w' => w' = w2 ∧ -134774 ≤ n ∧ n ≤ 2932896, ?_, ?_⟩
  · refine BCase.of (fun h => ?_) (fun h => ?_) <;> simp only [decide_eq_true_eq, decide_eq_false_iff_not] at h
    · exact ⟨(civV_none (.inl h)).symm, hB⟩
    · refine BCase.of (fun h2 => ?_) (fun h2 => ?_) <;> simp only [gt_iff_lt, decide_eq_true_eq, decide_eq_false_iff_not] at h2
      · exact ⟨(civV_none (.inr h2)).symm, hB⟩
      · exact ⟨rfl, by omega, by omega⟩
  · refine AllJ.of ?_ _
    rintro w2 ⟨rfl, h1, h2⟩
    rw [wrap_i64 (n := n + 719468) (by omega) (by omega), tmod_pos (by omega)]
    refine ⟨by decide, ?_⟩
    intro of hof
    have hof2 : 0 ≤ of ∧ of ≤ 146096 := by omega
    refine ⟨by decide, ?_⟩
    rintro q1 hq1
    rw [tdiv_pos hof2.1, wrap_i64 (by omega) (by omega)] at hq1
    refine ⟨by decide, ?_⟩
    rintro q2 hq2
    rw [tdiv_pos hof2.1, wrap_i64 (by omega) (by omega)] at hq2
    refine ⟨by decide, ?_⟩
    rintro q3 hq3
    rw [tdiv_pos hof2.1, wrap_i64 (by omega) (by omega)] at hq3
    refine ⟨by decide, ?_⟩
    rintro yoe hyoe
    rw [wrap_i64 (n := of - q1) (by omega) (by omega), wrap_i64 (n := of - q1 + q2) (by omega) (by omega), wrap_i64 (n := of - q1 + q2 - q3) (by omega) (by omega), tdiv_pos (by omega), wrap_i64 (by omega) (by omega)] at hyoe
    have hyr : 0 ≤ yoe ∧ yoe ≤ 400 := by omega
    refine ⟨by decide, ?_⟩
    rintro q4 hq4
    rw [tdiv_pos hyr.1, wrap_i64 (by omega) (by omega)] at hq4
    refine ⟨by decide, ?_⟩
    rintro q5 hq5
    rw [tdiv_pos hyr.1, wrap_i64 (by omega) (by omega)] at hq5
    rw [wrap_i64 (n := 365 * yoe) (by omega) (by omega), wrap_i64 (n := 365 * yoe + q4) (by omega) (by omega), wrap_i64 (n := 365 * yoe + q4 - q5) (by omega) (by omega), wrap_i64 (n := of - (365 * yoe + q4 - q5)) (by omega) (by omega)]
    obtain ⟨doy, hdoy⟩ : ∃ doy, doy = of - (365 * yoe + q4 - q5) := ⟨_, rfl⟩
    rw [← hdoy]
    have hy' : yoe = (of - of / 1460 + of / 36524 - of / 146096) / 365 := by rw [hyoe, hq1, hq2, hq3]
    have hd' : doy = of - (365 * yoe + yoe / 4 - yoe / 100) := by rw [hdoy, hq4, hq5]
    obtain ⟨_, _, _, _, c5, c6, c7, c8, _⟩ := civ_code h1 h2 of yoe doy _ _ _ hof rfl hy' hd' rfl rfl
    refine ⟨by decide, ?_⟩
    rintro mp hmp
    rw [wrap_i64 (n := 5 * doy) (by omega) (by omega), wrap_i64 (n := 5 * doy + 2) (by omega) (by omega), tdiv_pos (by omega), wrap_i64 (by omega) (by omega)] at hmp
    refine ⟨by decide, ?_⟩
    rintro q6 hq6
    have hmr : 0 ≤ mp ∧ mp ≤ 12 := by omega
    rw [wrap_i64 (n := 153 * mp) (by omega) (by omega), wrap_i64 (n := 153 * mp + 2) (by omega) (by omega), tdiv_pos (by omega), wrap_i64 (by omega) (by omega)] at hq6
    refine ⟨by decide, ?_⟩
    rintro era hera
    rw [tdiv_pos (by omega), wrap_i64 (by omega) (by omega)] at hera
    obtain ⟨_, _, c3, c4, _, _, _, _, c9, c10, c11, c12, hdt, hdd⟩ := civ_code h1 h2 of yoe doy mp (doy - q6 + 1) era hof hera hy' hd' hmp (by rw [hq6])
    clear hy' hd' hq1 hq2 hq3 hyoe
    rw [wrap_i64 (n := mp + 3) (by omega) (by omega), wrap_i64 (n := doy - q6) (by omega) (by omega), wrap_i64 (n := doy - q6 + 1) (by omega) (by omega), wrap_i64 (n := era * 400) (by omega) (by omega), wrap_i64 (n := yoe + era * 400) (by omega) (by omega)]
    refine BCase.of (fun h => ?_) (fun h => ?_) <;> simp only [gt_iff_lt, decide_eq_true_eq, decide_eq_false_iff_not] at h
    · rw [if_pos h, if_pos h] at hdt hdd
      rw [wrap_i64 (by omega) (by omega), wrap_i64 (by omega) (by omega)]
      exact ⟨by rw [← hdd, civV_of hdt], hB⟩
    · rw [if_neg h, if_neg h] at hdt hdd
      exact ⟨by rw [← hdd, civV_of hdt], hB⟩
end Go.Proofs.YtmlcilfcaogdcaaGreatDoor
