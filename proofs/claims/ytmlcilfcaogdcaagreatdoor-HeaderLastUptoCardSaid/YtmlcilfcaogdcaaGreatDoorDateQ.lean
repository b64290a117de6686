/- Plain law: the code's way from days to dates. Its conditions: none. -/
import Derived.Test.YtmlcilfcaogdcaaGreatDoorDateP
set_option linter.unusedVariables false
set_option linter.unusedSimpArgs false
namespace Go.Pk
def sN (k : Nat) : Nat := if k = 400 then 146097 else 365 * k + k / 4 - k / 100
def gN (n : Nat) : Nat := n - n / 1460 + n / 36524 - n / 146096
theorem g_step {a : Nat} (h : a < 146096) : gN a ≤ gN (a + 1) := by unfold gN; omega
theorem g_mono {a : Nat} : ∀ k : Nat, a + k ≤ 146096 → gN a ≤ gN (a + k)
  | 0, _ => Nat.le_refl _
  | k + 1, h => Nat.le_trans (g_mono k (by omega)) (g_step (a := a + k) (by omega))
theorem s_all : ∀ k, k < 400 → gN (sN k) / 365 = k ∧ gN (sN (k + 1) - 1) / 365 = k := by decide +kernel
theorem s_len : ∀ k, k < 400 → sN (k + 1) = sN k + (if (k + 1) % 4 = 0 ∧ ((k + 1) % 100 ≠ 0 ∨ k + 1 = 400) then 366 else 365) ∧ 0 < sN (k + 1) ∧ sN (k + 1) ≤ 146097 := by decide +kernel
theorem s_find {n : Nat} : ∀ j, j ≤ 400 → n < sN j → ∃ k, k < j ∧ sN k ≤ n ∧ n < sN (k + 1)
  | 0, _, h => by simp [sN] at h
  | j + 1, hj, h => by
    by_cases c : n < sN j
    · obtain ⟨k, h1, h2, h3⟩ := s_find j (by omega) c
      exact ⟨k, by omega, h2, h3⟩
    · exact ⟨j, by omega, by omega, h⟩
/-- the year of an era, by its day -/
theorem year_of {n : Nat} (h : n < 146097) : ∃ k, k < 400 ∧ gN n / 365 = k ∧ sN k ≤ n ∧ n < sN (k + 1) := by
  obtain ⟨k, h1, h2, h3⟩ := s_find (n := n) 400 (Nat.le_refl _) (by simpa [sN] using h)
  obtain ⟨e1, e2⟩ := s_all k h1
  obtain ⟨_, l2, l3⟩ := s_len k h1
  refine ⟨k, h1, ?_, h2, h3⟩
  have m1 := g_mono (a := sN k) (n - sN k) (by omega)
  have m2 := g_mono (a := n) (sN (k + 1) - 1 - n) (by omega)
  rw [show sN k + (n - sN k) = n by omega] at m1
  rw [show n + (sN (k + 1) - 1 - n) = sN (k + 1) - 1 by omega] at m2
  have d1 := Nat.div_le_div_right (c := 365) m1
  have d2 := Nat.div_le_div_right (c := 365) m2
  omega
def monL (mp : Nat) : Nat := [31, 30, 31, 30, 31, 31, 30, 31, 30, 31, 31, 29][mp]?.getD 0
theorem month_of : ∀ doy, doy < 366 → (5 * doy + 2) / 153 ≤ 11 ∧ (153 * ((5 * doy + 2) / 153) + 2) / 5 ≤ doy ∧ doy - (153 * ((5 * doy + 2) / 153) + 2) / 5 + 1 ≤ monL ((5 * doy + 2) / 153) ∧
    ((5 * doy + 2) / 153 = 11 → doy - (153 * ((5 * doy + 2) / 153) + 2) / 5 + 1 = 29 → doy = 365) := by decide +kernel
theorem lenM_mar {y : Int} {mp : Nat} (h : mp ≤ 9) : lenM y ((mp : Int) + 3) = monL mp := by
  have : mp = 0 ∨ mp = 1 ∨ mp = 2 ∨ mp = 3 ∨ mp = 4 ∨ mp = 5 ∨ mp = 6 ∨ mp = 7 ∨ mp = 8 ∨ mp = 9 := by omega
  rcases this with rfl | rfl | rfl | rfl | rfl | rfl | rfl | rfl | rfl | rfl <;> simp [lenM, monL]
theorem dY_bounds {y n : Int} (hy : 1 ≤ y) (h1 : dY y ≤ n + 719162) (h2 : n + 719162 < dY (y + 1)) (h3 : -134774 ≤ n) (h4 : n ≤ 2932896) : 1601 ≤ y ∧ y ≤ 9999 := by
  have e1 : dY 1601 = 584388 := by decide
  have e2 : dY 10000 = 3652059 := by decide
  constructor
  · apply Int.le_of_not_gt
    intro hc
    have := dY_mono (a := y + 1) (b := 1601) (by omega) (by omega)
    omega
  · apply Int.le_of_not_gt
    intro hc
    have := dY_mono (a := 10000) (b := y) (by omega) (by omega)
    omega
theorem march_pos {y m d : Int} (hy : 1 ≤ y) (h1 : 1 ≤ m) (h2 : m ≤ 12) (Y M : Int) (hY : Y = if m - 3 < 0 then y - 1 else y) (hM : M = if m - 3 < 0 then m + 9 else m - 3) :
    Y / 400 * 146097 + Y % 400 * 365 + Y % 400 / 4 - Y % 400 / 100 + (153 * M + 2) / 5 + d - 1 - 719468 = daysOf y m d := march hy h1 h2 Y M hY hM
theorem civ_code {n : Int} (h1 : -134774 ≤ n) (h2 : n ≤ 2932896) (of yoe doy mp day era : Int) (hof : of = (n + 719468) % 146097) (hera : era = (n + 719468) / 146097)
    (hy : yoe = (of - of / 1460 + of / 36524 - of / 146096) / 365) (hd : doy = of - (365 * yoe + yoe / 4 - yoe / 100)) (hm : mp = (5 * doy + 2) / 153) (hday : day = doy - (153 * mp + 2) / 5 + 1) :
    0 ≤ of ∧ of ≤ 146096 ∧ 4 ≤ era ∧ era ≤ 24 ∧ 0 ≤ yoe ∧ yoe ≤ 399 ∧ 0 ≤ doy ∧ doy ≤ 365 ∧ 0 ≤ mp ∧ mp ≤ 11 ∧ 1 ≤ day ∧ day ≤ 31 ∧
    isDate (if mp + 3 > 12 then yoe + era * 400 + 1 else yoe + era * 400) (if mp + 3 > 12 then mp + 3 - 12 else mp + 3) day ∧
    daysOf (if mp + 3 > 12 then yoe + era * 400 + 1 else yoe + era * 400) (if mp + 3 > 12 then mp + 3 - 12 else mp + 3) day = n := by
  obtain ⟨N, hN⟩ : ∃ N : Nat, of = (N : Int) := ⟨of.toNat, by omega⟩
  have hN2 : N < 146097 := by omega
  have hera2 : 4 ≤ era ∧ era ≤ 24 := by omega
  obtain ⟨k, hk, hg, hs1, hs2⟩ := year_of hN2
  have hyk : yoe = (k : Int) := by rw [hy, hN, ← hg]; unfold gN; omega
  clear hg hy
  rw [hyk, hN] at hd
  obtain ⟨hl, _, _⟩ := s_len k hk
  have hsk : sN k = 365 * k + k / 4 - k / 100 := by unfold sN; rw [if_neg (by omega)]
  obtain ⟨D, hD⟩ : ∃ D : Nat, doy = (D : Int) := ⟨doy.toNat, by omega⟩
  have hDN : D = N - sN k := by omega
  have hD2 : D < 366 := by split at hl <;> omega
  obtain ⟨m1, m2, m3, m4⟩ := month_of D hD2
  obtain ⟨M, hM⟩ : ∃ M : Nat, M = (5 * D + 2) / 153 := ⟨_, rfl⟩
  rw [← hM] at m1 m2 m3 m4
  have hmp : mp = (M : Int) := by omega
  have hdd : day = ((D - (153 * M + 2) / 5 + 1 : Nat) : Int) := by omega
  have hmon : monL M ≤ 31 := by
    have : M = 0 ∨ M = 1 ∨ M = 2 ∨ M = 3 ∨ M = 4 ∨ M = 5 ∨ M = 6 ∨ M = 7 ∨ M = 8 ∨ M = 9 ∨ M = 10 ∨ M = 11 := by omega
    rcases this with h | h | h | h | h | h | h | h | h | h | h | h <;> rw [h] <;> decide
  refine ⟨by omega, by omega, by omega, by omega, by omega, by omega, by omega, by omega, by omega, by omega, by omega, by omega, ?_⟩
  -- the date
  obtain ⟨y, m, ey, em, hm1, hm2, hY, hMM⟩ : ∃ y m : Int, y = (if mp + 3 > 12 then yoe + era * 400 + 1 else yoe + era * 400) ∧ m = (if mp + 3 > 12 then mp + 3 - 12 else mp + 3) ∧ 1 ≤ m ∧ m ≤ 12 ∧
      yoe + era * 400 = (if m - 3 < 0 then y - 1 else y) ∧ mp = (if m - 3 < 0 then m + 9 else m - 3) := by
    refine ⟨_, _, rfl, rfl, ?_⟩
    by_cases c : mp + 3 > 12
    · rw [if_pos c, if_pos c, if_pos (by omega), if_pos (by omega)]; omega
    · rw [if_neg c, if_neg c, if_neg (by omega), if_neg (by omega)]; omega
  rw [← ey, ← em]
  have hy1 : 1 ≤ y := by rw [ey]; split <;> omega
  have hday31 : 1 ≤ day := by omega
  have hlen : day ≤ lenM y m := by
    by_cases c : mp + 3 > 12
    · rw [if_pos c] at ey em
      have : M = 10 ∨ M = 11 := by omega
      rcases this with rfl | rfl
      · have : m = 1 := by omega
        subst this
        have e : monL 10 = 31 := by decide
        rw [e] at m3
        unfold lenM; simp; omega
      · have : m = 2 := by omega
        subst this
        have e : monL 11 = 29 := by decide
        rw [e] at m3
        unfold lenM
        rw [if_pos rfl]
        by_cases c29 : D - (153 * 11 + 2) / 5 + 1 = 29
        · have h365 := m4 rfl c29
          have hleap : (k + 1) % 4 = 0 ∧ ((k + 1) % 100 ≠ 0 ∨ k + 1 = 400) := by
            apply Classical.byContradiction
            intro hc
            rw [if_neg hc] at hl
            omega
          have : leapB y = true := (leapB_iff (by omega)).2 (by omega)
          rw [if_pos this]; omega
        · split <;> omega
    · rw [if_neg c] at ey em
      have : m = (M : Int) + 3 := by omega
      rw [this, lenM_mar (by omega)]; omega
  have hmar := march_pos (d := day) hy1 hm1 hm2 _ _ hY hMM
  have hq1 : (yoe + era * 400) / 400 = era := by omega
  have hq2 : (yoe + era * 400) % 400 = yoe := by omega
  rw [hq1, hq2] at hmar
  have hdo : daysOf y m day = n := by
    rw [← hmar, hyk]
    clear hY hMM hmar hq1 hq2
    omega
  refine ⟨?_, hdo⟩
  have c1 := cM_le (y := y) hm1 hm2
  have c2 := cM_succ (y := y) hm1 hm2
  have c3 := cM_mono (y := y) (a := m + 1) (b := 13) (by omega) (by omega) (by omega)
  have c4 := dY_succ (y := y) (by omega)
  have c5 := cM_end y
  have hb := dY_bounds (n := n) hy1 (by unfold daysOf at hdo; omega) (by unfold daysOf at hdo; omega) h1 h2
  exact ⟨hb.1, hb.2, hm1, hm2, hday31, hlen⟩
end Go.Pk
