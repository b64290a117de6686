/- Contract of the document's Civil. Its conditions: none. -/
import Derived.Test.YtmlcilfcaogdcaaDoorDateB
set_option linter.unusedVariables false
set_option linter.unusedSimpArgs false
set_option maxRecDepth 20000
namespace Go.Pk
open Classical in
/-- the date of a day, as the four results -/
noncomputable def civV (n : Int) : Value := if h : ∃ p : Int × Int × Int, isDate p.1 p.2.1 p.2.2 ∧ daysOf p.1 p.2.1 p.2.2 = n then
  .tuple #[.int .i64 (Classical.choose h).1, .int .i64 (Classical.choose h).2.1, .int .i64 (Classical.choose h).2.2, .bool true] else .tuple #[.int .i64 0, .int .i64 0, .int .i64 0, .bool false]
theorem civV_of {y m d : Int} (h : isDate y m d) : civV (daysOf y m d) = .tuple #[.int .i64 y, .int .i64 m, .int .i64 d, .bool true] := by
  have hex : ∃ p : Int × Int × Int, isDate p.1 p.2.1 p.2.2 ∧ daysOf p.1 p.2.1 p.2.2 = daysOf y m d := ⟨(y, m, d), h, rfl⟩
  unfold civV
  rw [dif_pos hex]
  obtain ⟨h1, h2⟩ := Classical.choose_spec hex
  obtain ⟨e1, e2, e3⟩ := day_uniq h1 h h2
  rw [e1, e2, e3]
theorem day_range {y m d : Int} (h : isDate y m d) : -134774 ≤ daysOf y m d ∧ daysOf y m d ≤ 2932896 := by
  have h1 := day_in h
  have h2 := dY_le (y := y) h.1 (by have := h.2.1; omega)
  have h3 := dY_le (y := y + 1) (by have := h.1; omega) (by have := h.2.1; omega)
  have h4 := dY_mono (a := y + 1) (b := 10000) (by have := h.1; omega) (by have := h.2.1; omega)
  omega
theorem civV_none {n : Int} (h : n < -134774 ∨ 2932896 < n) : civV n = .tuple #[.int .i64 0, .int .i64 0, .int .i64 0, .bool false] := by
  unfold civV
  rw [dif_neg]
  rintro ⟨p, h1, h2⟩
  have := day_range h1
  omega
theorem low_day : isDate 1601 1 1 ∧ daysOf 1601 1 1 = -134774 := by decide
theorem high_day : isDate 9999 12 31 ∧ daysOf 9999 12 31 = 2932896 := by decide
end Go.Pk
namespace Go.Proofs.YtmlcilfcaogdcaaDoor
open Go.Pk
open Go.RowKit (Below)

theorem ref07_Civil_ok (n : Int) (w : World) (hn : -9223372036854775808 ≤ n ∧ n ≤ 9223372036854775807) : Calls Tryd.prog f_ref07_Civil #[.int .i64 n] w (Ret fun v w' => v = civV n ∧ w' = w) := by
  apply run_ref07_Civil
  unfold vc_ref07_Civil
  refine callK (ref07_Days_ok _ _ _ w) ?_
  rintro _ w ⟨rfl, rfl⟩
  refine ⟨_, _, rfl, ?_⟩
  refine callK (ref07_Days_ok _ _ _ w) ?_
  rintro _ w ⟨rfl, rfl⟩
  refine ⟨_, _, rfl, ?_⟩
  rw [if_pos low_day.1, if_pos high_day.1, low_day.2, high_day.2]
  refine ⟨fun w' => w' = w ∧ -134774 ≤ n ∧ n ≤ 2932896, ?_, ?_⟩
  · refine BCase.of (fun h => ?_) (fun h => ?_) <;> simp only [decide_eq_true_eq, decide_eq_false_iff_not] at h
    · exact ⟨(civV_none (.inl h)).symm, rfl⟩
    · refine BCase.of (fun h2 => ?_) (fun h2 => ?_) <;> simp only [decide_eq_true_eq, decide_eq_false_iff_not] at h2
      · exact ⟨(civV_none (.inr h2)).symm, rfl⟩
      · exact ⟨rfl, by omega, by omega⟩
  · refine AllJ.of ?_ _
    rintro w ⟨rfl, h1, h2⟩
    have e1601 : dY 1601 = 584388 := by decide
    have e10000 : dY 10000 = 3652059 := by decide
    refine ⟨fun m y r w' => w' = w ∧ 1601 ≤ y ∧ y ≤ 9999 ∧ r = n + 719162 - dY y ∧ 0 ≤ r ∧ m = r.toNat, ⟨_, rfl, by omega, by omega, by rw [wrap_i64 (by omega) (by omega)]; omega, by rw [wrap_i64 (by omega) (by omega)]; omega, rfl⟩, ?_⟩
    intro q y r
    refine AllJ.of ?_ _
    rintro w ⟨rfl, hy1, hy2, hr, hr0, rfl⟩
    have hyl := lenY_le y
    have hyd := dY_le (y := y) hy1 (by omega)
    refine callK (ref07_year_ok y _) ?_
    rintro _ w ⟨rfl, rfl⟩
    refine ⟨_, rfl, ?_⟩
    refine BCase.of (fun h => ?_) (fun h => ?_) <;> simp only [ge_iff_le, decide_eq_true_eq, decide_eq_false_iff_not] at h
    · refine callK (ref07_year_ok y _) ?_
      rintro _ w ⟨rfl, rfl⟩
      have hs := dY_succ (y := y) (by omega)
      have hy3 : y + 1 ≤ 9999 := by
        apply Int.le_of_not_gt
        intro hc
        have : y = 9999 := by omega
        subst this
        have e9 : dY (9999 + 1) = 3652059 := by decide
        omega
      refine ⟨_, rfl, (r - lenY y).toNat, by omega, rfl, ?_, ?_, ?_, ?_, ?_⟩
      · rw [wrap_i64 (by omega) (by omega)]; omega
      · rw [wrap_i64 (by omega) (by omega)]; omega
      · rw [wrap_i64 (by omega) (by omega), wrap_i64 (by omega) (by omega), hs]; omega
      · rw [wrap_i64 (by omega) (by omega)]; omega
      · rw [wrap_i64 (by omega) (by omega)]
    · refine ⟨fun q r' m w' => w' = w ∧ 1 ≤ m ∧ m ≤ 12 ∧ r' = r - cM y m ∧ 0 ≤ r' ∧ q = r'.toNat, ⟨_, rfl, by omega, by omega, by simp [cM], hr0, rfl⟩, ?_⟩
      intro q r' m
      refine AllJ.of ?_ _
      rintro w ⟨rfl, hm1, hm2, hr', hr0', rfl⟩
      have hml := lenM_le y m
      have hmc := cM_le (y := y) hm1 hm2
      refine callK (ref07_Length_ok y m _) ?_
      rintro _ w ⟨rfl, rfl⟩
      refine ⟨_, rfl, ?_⟩
      refine BCase.of (fun h5 => ?_) (fun h5 => ?_) <;> simp only [ge_iff_le, decide_eq_true_eq, decide_eq_false_iff_not] at h5
      · refine callK (ref07_Length_ok y m _) ?_
        rintro _ w ⟨rfl, rfl⟩
        have hs := cM_succ (y := y) hm1 hm2
        have hm3 : m + 1 ≤ 12 := by
          apply Int.le_of_not_gt
          intro hc
          have : m = 12 := by omega
          subst this
          have e9 : cM y (12 + 1) = lenY y := cM_end y
          omega
        refine ⟨_, rfl, (r' - lenM y m).toNat, by omega, rfl, ?_, ?_, ?_, ?_, ?_⟩
        · rw [wrap_i64 (by omega) (by omega)]; omega
        · rw [wrap_i64 (by omega) (by omega)]; omega
        · rw [wrap_i64 (by omega) (by omega), wrap_i64 (by omega) (by omega), hs]; omega
        · rw [wrap_i64 (by omega) (by omega)]; omega
        · rw [wrap_i64 (by omega) (by omega)]
      · refine ⟨?_, rfl⟩
        have hdt : isDate y m (r' + 1) := ⟨hy1, hy2, hm1, hm2, by omega, by omega⟩
        have hdd : daysOf y m (r' + 1) = n := by unfold daysOf; omega
        rw [wrap_i64 (by omega) (by omega), ← hdd, civV_of hdt]
end Go.Proofs.YtmlcilfcaogdcaaDoor
