/- Contracts of date.Days. Its conditions: none. -/
import Derived.Test.YtmlcilfcaogdcaaGreatDoorDateA
import Derived.Test.YtmlcilfcaogdcaaGreatDoorArr
set_option linter.unusedVariables false
set_option linter.unusedSimpArgs false
set_option maxRecDepth 20000
namespace Go.Proofs.YtmlcilfcaogdcaaGreatDoor
open Go.Pk
open Go.RowKit (Below)

def lenTab : List Int := [31, 28, 31, 30, 31, 30, 31, 31, 30, 31, 30, 31]
theorem tab_one : ∀ c ∈ (Value.agg (lenTab.map fun n => Value.int .i64 n).toArray).cells.toList, c.oneCell' = true := by
  intro c hc
  obtain ⟨n, _, rfl⟩ : ∃ n, n ∈ lenTab ∧ Value.int .i64 n = c := by simpa [Value.cells] using hc
  rfl
theorem date_length_ok (y m : Int) (h1 : 1 ≤ m) (h2 : m ≤ 12) (w : World) : Calls Tryz.prog f_date_length #[.int .i64 y, .int .i64 m] w (Ret fun v w' => v = .int .i64 (lenM y m) ∧ Below w.heap.size w w') := by
  apply run_date_length
  unfold vc_date_length
  intro k w1 hk hw1
  have hB1 : Below w.heap.size w w1 := hw1 ▸ below_alloc _ _
  have ha1 : ArrAt w1 k T_arr12_int (List.replicate 12 (.int .i64 0)) := ArrAt.new hk hw1
  obtain ⟨w2, hst, ha2, hg⟩ := ha1.store (P := Tryz.prog) tf_arr12_int (i := 0) (v := .agg (lenTab.map fun n => Value.int .i64 n).toArray) rfl (by decide) tab_one
  refine ⟨w2, hst, ?_⟩
  have hB2 := hB1.grown hg hB1.size (fun x e => by cases e; omega)
  refine ⟨fun w' => w' = w2 ∧ (m = 2 → leapB y = false), ?_, ?_⟩
  · refine BCase.of (fun h => ?_) (fun h => ?_) <;> simp at h
    · refine callK (date_leap_ok y _) ?_
      rintro _ w2 ⟨rfl, rfl⟩
      refine ⟨_, rfl, ?_⟩
      refine BCase.of (fun h3 => ?_) (fun h3 => ?_)
      · refine ⟨?_, hB2⟩
        unfold lenM; rw [if_pos h, if_pos h3]
      · exact ⟨rfl, fun _ => h3⟩
    · exact ⟨rfl, fun e => absurd e h⟩
  · refine AllJ.of ?_ _
    rintro w2 ⟨rfl, hlp⟩
    rw [wrap_i64 (by omega) (by omega)]
    refine ⟨⟨⟨by omega, by omega⟩, rfl⟩, ?_⟩
    refine ⟨lenM y m, ?_, rfl, hB2⟩
    rw [elem_eq, Nat.zero_add, Nat.mul_one]
    refine ha2.load1 un_int rfl ?_
    unfold lenM
    rcases months h1 h2 with rfl | rfl | rfl | rfl | rfl | rfl | rfl | rfl | rfl | rfl | rfl | rfl <;> simp [lenTab, Value.cells]
    simp [hlp]

theorem date_Days_ok (y m d : Int) (hd : -9223372036854775808 ≤ d ∧ d ≤ 9223372036854775807) (w : World) : Calls Tryz.prog f_date_Days #[.int .i64 y, .int .i64 m, .int .i64 d] w (Ret fun v w' => v = daysV y m d ∧ Below w.heap.size w w') := by
  apply run_date_Days
  unfold vc_date_Days
  have bad : ∀ w', Below w.heap.size w w' → ¬ isDate y m d → (Value.tuple #[.int .i64 0, .bool false] = daysV y m d ∧ Below w.heap.size w w') := fun w' hb h => by
    refine ⟨?_, hb⟩
    unfold daysV; rw [if_neg h]; simp [h]
  refine ⟨fun w' => isDate y m d ∧ Below w.heap.size w w', ?_, ?_⟩
  · refine BCase.of (fun h1 => ?_) (fun h1 => ?_) <;> simp at h1
    · exact bad _ (Below.refl _ _) (by unfold isDate; omega)
    refine BCase.of (fun h2 => ?_) (fun h2 => ?_) <;> simp at h2
    · exact bad _ (Below.refl _ _) (by unfold isDate; omega)
    refine BCase.of (fun h3 => ?_) (fun h3 => ?_) <;> simp at h3
    · exact bad _ (Below.refl _ _) (by unfold isDate; omega)
    refine BCase.of (fun h4 => ?_) (fun h4 => ?_) <;> simp at h4
    · exact bad _ (Below.refl _ _) (by unfold isDate; omega)
    refine BCase.of (fun h5 => ?_) (fun h5 => ?_) <;> simp at h5
    · exact bad _ (Below.refl _ _) (by unfold isDate; omega)
    refine callK (date_length_ok y m h3 h4 w) ?_
    rintro _ w1 ⟨rfl, hb⟩
    refine ⟨_, rfl, ?_⟩
    refine BCase.of (fun h6 => ?_) (fun h6 => ?_) <;> simp at h6
    · exact bad _ hb (by unfold isDate; omega)
    · exact ⟨⟨by omega, by omega, by omega, by omega, by omega, by omega⟩, hb⟩
  · refine AllJ.of ?_ _
    rintro w1 ⟨hi, hb⟩
    obtain ⟨h1, h2, h3, h4, h5, h6⟩ := hi
    have hl := lenM_le y m
    refine ⟨fun Y M w' => w' = w1 ∧ Y = (if m - 3 < 0 then y - 1 else y) ∧ M = (if m - 3 < 0 then m + 9 else m - 3), ?_, ?_⟩
    · rw [wrap_i64 (n := m - 3) (by omega) (by omega)]
      refine BCase.of (fun h => ?_) (fun h => ?_) <;> simp only [decide_eq_true_eq, decide_eq_false_iff_not] at h
      · refine ⟨rfl, ?_, ?_⟩
        · rw [if_pos h, wrap_i64 (by omega) (by omega)]
        · rw [if_pos h, wrap_i64 (by omega) (by omega)]; omega
      · exact ⟨rfl, by rw [if_neg h], by rw [if_neg h]⟩
    · intro Y M
      refine AllJ.of ?_ _
      rintro w1 ⟨rfl, hY, hM⟩
      have hm := march (y := y) (m := m) (d := d) (by omega) h3 h4 Y M hY hM
      have hYr : 1600 ≤ Y ∧ Y ≤ 9999 := by rw [hY]; split <;> omega
      have hMr : 0 ≤ M ∧ M ≤ 11 := by rw [hM]; split <;> omega
      clear hY hM
      rw [tmod_pos (by omega), tdiv_pos (by omega)]
      refine ⟨by decide, ?_⟩
      intro of hof
      refine ⟨by decide, ?_⟩
      intro q1 hq1
      rw [tdiv_pos (by omega), tdiv_pos (by omega)]
      refine ⟨by decide, ?_⟩
      intro q2 hq2
      refine ⟨by decide, ?_⟩
      intro q3 hq3
      refine ⟨by decide, ?_⟩
      intro q4 hq4
      rw [wrap_i64 (by omega) (by omega)] at hq1 hq2 hq3
      rw [wrap_i64 (n := 153 * M) (by omega) (by omega), wrap_i64 (n := 153 * M + 2) (by omega) (by omega), tdiv_pos (by omega), wrap_i64 (by omega) (by omega)] at hq4
      rw [wrap_i64 (n := q1 * 146097) (by omega) (by omega), wrap_i64 (n := of * 365) (by omega) (by omega), wrap_i64 (n := q1 * 146097 + of * 365) (by omega) (by omega), wrap_i64 (n := q1 * 146097 + of * 365 + q2) (by omega) (by omega),
        wrap_i64 (n := q1 * 146097 + of * 365 + q2 - q3) (by omega) (by omega), wrap_i64 (n := q1 * 146097 + of * 365 + q2 - q3 + q4) (by omega) (by omega), wrap_i64 (n := q1 * 146097 + of * 365 + q2 - q3 + q4 + d) (by omega) (by omega),
        wrap_i64 (n := q1 * 146097 + of * 365 + q2 - q3 + q4 + d - 1) (by omega) (by omega), wrap_i64 (by omega) (by omega)]
      refine ⟨?_, hb⟩
      have hdt : isDate y m d := ⟨h1, h2, h3, h4, h5, h6⟩
      unfold daysV
      rw [if_pos hdt, ← hm, hq1, hq2, hq3, hq4, hof]
      simp [hdt]
end Go.Proofs.YtmlcilfcaogdcaaGreatDoor
