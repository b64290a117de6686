/- Plain laws of the calendar. Its conditions: none. -/
import Init
set_option linter.unusedVariables false
set_option linter.unusedSimpArgs false
namespace Go.Pk

def leapB (y : Int) : Bool := (decide (Int.tmod y 4 = 0) && decide (Int.tmod y 100 ≠ 0)) || decide (Int.tmod y 400 = 0)
def lenM (y m : Int) : Int := if m = 2 then (if leapB y then 29 else 28) else if m = 4 ∨ m = 6 ∨ m = 9 ∨ m = 11 then 30 else 31
def lenY (y : Int) : Int := if leapB y then 366 else 365
theorem tmod_pos {a b : Int} (h : 0 ≤ a) : Int.tmod a b = a % b := Int.tmod_eq_emod_of_nonneg h
theorem tdiv_pos {a b : Int} (h : 0 ≤ a) : Int.tdiv a b = a / b := Int.tdiv_eq_ediv_of_nonneg h
theorem leapB_iff {y : Int} (h : 0 ≤ y) : leapB y = true ↔ (y % 4 = 0 ∧ y % 100 ≠ 0) ∨ y % 400 = 0 := by
  unfold leapB
  rw [tmod_pos h, tmod_pos h, tmod_pos h]
  simp
/-- a year's parts -/
theorem parts_of {y : Int} (h : 1 ≤ y) : ∃ a b c e : Int, y = 400 * a + 100 * b + 4 * c + e + 1 ∧ 0 ≤ a ∧ 0 ≤ b ∧ b ≤ 3 ∧ 0 ≤ c ∧ c ≤ 24 ∧ 0 ≤ e ∧ e ≤ 3 :=
  ⟨(y - 1) / 400, (y - 1) % 400 / 100, (y - 1) % 100 / 4, (y - 1) % 4, by omega, by omega, by omega, by omega, by omega, by omega, by omega, by omega⟩
theorem leap_parts {a b c e : Int} (ha : 0 ≤ a) (hb : 0 ≤ b) (hb2 : b ≤ 3) (hc : 0 ≤ c) (hc2 : c ≤ 24) (he : 0 ≤ e) (he2 : e ≤ 3) : leapB (400 * a + 100 * b + 4 * c + e + 1) = true ↔ e = 3 ∧ (c ≠ 24 ∨ b = 3) := by
  rw [leapB_iff (by omega)]
  have h1 : (400 * a + 100 * b + 4 * c + e + 1) % 4 = 0 ↔ e = 3 := by omega
  have h2 : (400 * a + 100 * b + 4 * c + e + 1) % 100 = 0 ↔ e = 3 ∧ c = 24 := by omega
  have h3 : (400 * a + 100 * b + 4 * c + e + 1) % 400 = 0 ↔ e = 3 ∧ c = 24 ∧ b = 3 := by omega
  rw [h1, h3, ne_eq, h2]; omega
/-- days ahead of a year, from the year 1 on -/
def dY (y : Int) : Int := 365 * (y - 1) + (y - 1) / 4 - (y - 1) / 100 + (y - 1) / 400
theorem dY_parts {a b c e : Int} (ha : 0 ≤ a) (hb : 0 ≤ b) (hb2 : b ≤ 3) (hc : 0 ≤ c) (hc2 : c ≤ 24) (he : 0 ≤ e) (he2 : e ≤ 3) : dY (400 * a + 100 * b + 4 * c + e + 1) = 365 * (400 * a + 100 * b + 4 * c + e) + (97 * a + 24 * b + c) := by
  unfold dY
  have h1 : (400 * a + 100 * b + 4 * c + e + 1 - 1) / 4 = 100 * a + 25 * b + c := by omega
  have h2 : (400 * a + 100 * b + 4 * c + e + 1 - 1) / 100 = 4 * a + b := by omega
  have h3 : (400 * a + 100 * b + 4 * c + e + 1 - 1) / 400 = a := by omega
  rw [h1, h2, h3]; omega
theorem dY_succ {y : Int} (h : 1 ≤ y) : dY (y + 1) = dY y + lenY y := by
  obtain ⟨a, b, c, e, rfl, ha, hb, hb2, hc, hc2, he, he2⟩ := parts_of h
  have hl := leap_parts ha hb hb2 hc hc2 he he2
  rw [dY_parts ha hb hb2 hc hc2 he he2]
  unfold lenY
  by_cases h3 : e = 3
  · subst h3
    by_cases h24 : c = 24
    · subst h24
      by_cases h33 : b = 3
      · subst h33
        rw [if_pos (hl.2 ⟨rfl, .inr rfl⟩)]
        rw [show 400 * a + 100 * 3 + 4 * 24 + 3 + 1 + 1 = 400 * (a + 1) + 100 * 0 + 4 * 0 + 0 + 1 by omega, dY_parts (by omega) (by omega) (by omega) (by omega) (by omega) (by omega) (by omega)]; omega
      · rw [if_neg (fun h => by have := hl.1 h; omega)]
        rw [show 400 * a + 100 * b + 4 * 24 + 3 + 1 + 1 = 400 * a + 100 * (b + 1) + 4 * 0 + 0 + 1 by omega, dY_parts (by omega) (by omega) (by omega) (by omega) (by omega) (by omega) (by omega)]; omega
    · rw [if_pos (hl.2 ⟨rfl, .inl h24⟩)]
      rw [show 400 * a + 100 * b + 4 * c + 3 + 1 + 1 = 400 * a + 100 * b + 4 * (c + 1) + 0 + 1 by omega, dY_parts (by omega) (by omega) (by omega) (by omega) (by omega) (by omega) (by omega)]; omega
  · rw [if_neg (fun h => by have := hl.1 h; omega)]
    rw [show 400 * a + 100 * b + 4 * c + e + 1 + 1 = 400 * a + 100 * b + 4 * c + (e + 1) + 1 by omega, dY_parts (by omega) (by omega) (by omega) (by omega) (by omega) (by omega) (by omega)]; omega
/-- days ahead of a month in its year -/
def cM (y m : Int) : Int := if m = 1 then 0 else if m = 2 then 31 else (if leapB y then 1 else 0) +
  (if m = 3 then 59 else if m = 4 then 90 else if m = 5 then 120 else if m = 6 then 151 else if m = 7 then 181 else if m = 8 then 212 else if m = 9 then 243 else if m = 10 then 273 else if m = 11 then 304 else if m = 12 then 334 else 365)
theorem months {m : Int} (h1 : 1 ≤ m) (h2 : m ≤ 12) : m = 1 ∨ m = 2 ∨ m = 3 ∨ m = 4 ∨ m = 5 ∨ m = 6 ∨ m = 7 ∨ m = 8 ∨ m = 9 ∨ m = 10 ∨ m = 11 ∨ m = 12 := by omega
theorem cM_succ {y m : Int} (h1 : 1 ≤ m) (h2 : m ≤ 12) : cM y (m + 1) = cM y m + lenM y m := by
  unfold cM lenM
  rcases months h1 h2 with rfl | rfl | rfl | rfl | rfl | rfl | rfl | rfl | rfl | rfl | rfl | rfl <;> cases leapB y <;> simp
theorem cM_end (y : Int) : cM y 13 = lenY y := by unfold cM lenY; cases leapB y <;> simp
theorem lenM_le (y m : Int) : 28 ≤ lenM y m ∧ lenM y m ≤ 31 := by unfold lenM; split <;> (try split) <;> omega
theorem cM_le {y m : Int} (h1 : 1 ≤ m) (h2 : m ≤ 12) : 0 ≤ cM y m ∧ cM y m ≤ 335 := by
  unfold cM
  rcases months h1 h2 with rfl | rfl | rfl | rfl | rfl | rfl | rfl | rfl | rfl | rfl | rfl | rfl <;> cases leapB y <;> simp
def isDate (y m d : Int) : Prop := 1601 ≤ y ∧ y ≤ 9999 ∧ 1 ≤ m ∧ m ≤ 12 ∧ 1 ≤ d ∧ d ≤ lenM y m
instance (y m d : Int) : Decidable (isDate y m d) := by unfold isDate; infer_instance
/-- the days behind 1970-01-01 -/
def daysOf (y m d : Int) : Int := dY y - 719162 + cM y m + d - 1
theorem dY_1970 : dY 1970 = 719162 := by decide
theorem lenY_le (y : Int) : 365 ≤ lenY y ∧ lenY y ≤ 366 := by unfold lenY; split <;> omega
theorem dY_add {a : Int} (h : 1 ≤ a) : ∀ k : Nat, dY a ≤ dY (a + k)
  | 0 => by simp
  | k + 1 => by
    have h1 := dY_add h k
    have h2 := dY_succ (y := a + k) (by omega)
    have h3 := lenY_le (a + k)
    rw [show a + ((k + 1 : Nat) : Int) = a + k + 1 by omega]; omega
theorem dY_mono {a b : Int} (h1 : 1 ≤ a) (h : a ≤ b) : dY a ≤ dY b := by
  have := dY_add h1 (b - a).toNat
  rwa [show a + ((b - a).toNat : Int) = b by omega] at this
theorem dY_le {y : Int} (h1 : 1601 ≤ y) (h2 : y ≤ 10000) : 584388 ≤ dY y ∧ dY y ≤ 3652059 := by
  have e1 := dY_mono (a := 1601) (b := y) (by omega) h1
  have e2 := dY_mono (a := y) (b := 10000) (by omega) h2
  have e3 : dY 1601 = 584388 := by decide
  have e4 : dY 10000 = 3652059 := by decide
  omega
theorem cM_add {y a : Int} (h : 1 ≤ a) : ∀ k : Nat, a + k ≤ 13 → cM y a ≤ cM y (a + k)
  | 0, _ => by simp
  | k + 1, hk => by
    have h1 := cM_add (y := y) h k (by omega)
    have h2 := cM_succ (y := y) (m := a + k) (by omega) (by omega)
    have h3 := lenM_le y (a + k)
    rw [show a + ((k + 1 : Nat) : Int) = a + k + 1 by omega]; omega
theorem cM_mono {y a b : Int} (h1 : 1 ≤ a) (h : a ≤ b) (h2 : b ≤ 13) : cM y a ≤ cM y b := by
  have := cM_add (y := y) h1 (b - a).toNat (by omega)
  rwa [show a + ((b - a).toNat : Int) = b by omega] at this
/-- the code's own reckoning, with years that begin with March -/
theorem march {y m d : Int} (hy : 1 ≤ y) (h1 : 1 ≤ m) (h2 : m ≤ 12) (Y M : Int) (hY : Y = if m - 3 < 0 then y - 1 else y) (hM : M = if m - 3 < 0 then m + 9 else m - 3) :
    Y / 400 * 146097 + Y % 400 * 365 + Y % 400 / 4 - Y % 400 / 100 + (153 * M + 2) / 5 + d - 1 - 719468 = daysOf y m d := by
  obtain ⟨a, b, c, e, rfl, ha, hb, hb2, hc, hc2, he, he2⟩ := parts_of (y := y) (by omega)
  have hl := leap_parts ha hb hb2 hc hc2 he he2
  unfold daysOf
  rw [dY_parts ha hb hb2 hc hc2 he he2]
  by_cases hm : m - 3 < 0
  · rw [if_pos hm] at hY hM
    subst hY
    have e1 : (400 * a + 100 * b + 4 * c + e + 1 - 1) / 400 = a := by omega
    have e2 : (400 * a + 100 * b + 4 * c + e + 1 - 1) % 400 = 100 * b + 4 * c + e := by omega
    have e3 : (100 * b + 4 * c + e) / 4 = 25 * b + c := by omega
    have e4 : (100 * b + 4 * c + e) / 100 = b := by omega
    rw [e1, e2, e3, e4]
    have : m = 1 ∨ m = 2 := by omega
    rcases this with rfl | rfl <;> subst hM <;> unfold cM <;> simp <;> omega
  · rw [if_neg hm] at hY hM
    subst hY
    have hc' : cM (400 * a + 100 * b + 4 * c + e + 1) m = (if leapB (400 * a + 100 * b + 4 * c + e + 1) = true then 1 else 0) + 59 + (153 * M + 2) / 5 := by
      have : m = 3 ∨ m = 4 ∨ m = 5 ∨ m = 6 ∨ m = 7 ∨ m = 8 ∨ m = 9 ∨ m = 10 ∨ m = 11 ∨ m = 12 := by omega
      rcases this with rfl | rfl | rfl | rfl | rfl | rfl | rfl | rfl | rfl | rfl <;> subst hM <;> unfold cM <;> simp <;> omega
    rw [hc']
    have key : (400 * a + 100 * b + 4 * c + e + 1) / 400 * 146097 + (400 * a + 100 * b + 4 * c + e + 1) % 400 * 365 + (400 * a + 100 * b + 4 * c + e + 1) % 400 / 4 - (400 * a + 100 * b + 4 * c + e + 1) % 400 / 100 =
        365 * (400 * a + 100 * b + 4 * c + e + 1) + (97 * a + 24 * b + c) + (if leapB (400 * a + 100 * b + 4 * c + e + 1) = true then 1 else 0) := by
      by_cases h3 : e = 3
      · subst h3
        by_cases h24 : c = 24
        · subst h24
          by_cases h33 : b = 3
          · subst h33
            rw [if_pos (hl.2 ⟨rfl, .inr rfl⟩)]
            have e1 : (400 * a + 100 * 3 + 4 * 24 + 3 + 1) / 400 = a + 1 := by omega
            have e2 : (400 * a + 100 * 3 + 4 * 24 + 3 + 1) % 400 = 0 := by omega
            rw [e1, e2]; omega
          · rw [if_neg (fun h => by have := hl.1 h; omega)]
            have e1 : (400 * a + 100 * b + 4 * 24 + 3 + 1) / 400 = a := by omega
            have e2 : (400 * a + 100 * b + 4 * 24 + 3 + 1) % 400 = 100 * (b + 1) := by omega
            have e3 : (100 * (b + 1)) / 4 = 25 * (b + 1) := by omega
            have e4 : (100 * (b + 1)) / 100 = b + 1 := by omega
            rw [e1, e2, e3, e4]; omega
        · rw [if_pos (hl.2 ⟨rfl, .inl h24⟩)]
          have e1 : (400 * a + 100 * b + 4 * c + 3 + 1) / 400 = a := by omega
          have e2 : (400 * a + 100 * b + 4 * c + 3 + 1) % 400 = 100 * b + 4 * (c + 1) := by omega
          have e3 : (100 * b + 4 * (c + 1)) / 4 = 25 * b + c + 1 := by omega
          have e4 : (100 * b + 4 * (c + 1)) / 100 = b := by omega
          rw [e1, e2, e3, e4]; omega
      · rw [if_neg (fun h => by have := hl.1 h; omega)]
        have e1 : (400 * a + 100 * b + 4 * c + e + 1) / 400 = a := by omega
        have e2 : (400 * a + 100 * b + 4 * c + e + 1) % 400 = 100 * b + 4 * c + e + 1 := by omega
        have e3 : (100 * b + 4 * c + e + 1) / 4 = 25 * b + c := by omega
        have e4 : (100 * b + 4 * c + e + 1) / 100 = b := by omega
        rw [e1, e2, e3, e4]; omega
    omega
theorem day_in {y m d : Int} (h : isDate y m d) : dY y ≤ daysOf y m d + 719162 ∧ daysOf y m d + 719162 < dY (y + 1) ∧ cM y m ≤ daysOf y m d + 719162 - dY y ∧ daysOf y m d + 719162 - dY y < cM y (m + 1) := by
  obtain ⟨h1, h2, h3, h4, h5, h6⟩ := h
  have e1 := cM_le (y := y) h3 (by omega)
  have e2 := cM_succ (y := y) h3 h4
  have e3 := cM_mono (y := y) (a := m + 1) (b := 13) (by omega) (by omega) (by omega)
  have e4 := dY_succ (y := y) (by omega)
  have e5 := cM_end y
  unfold daysOf
  omega
theorem day_uniq {y m d a b c : Int} (h : isDate y m d) (k : isDate a b c) (e : daysOf y m d = daysOf a b c) : y = a ∧ m = b ∧ d = c := by
  have hy1 := h.1
  have ha1 := k.1
  have h1 := day_in h
  have k1 := day_in k
  rw [e] at h1
  have hy : y = a := by
    rcases Int.lt_trichotomy y a with c | c | c
    · have := dY_mono (show 1 ≤ y + 1 by omega) (show y + 1 ≤ a by omega); omega
    · exact c
    · have := dY_mono (show 1 ≤ a + 1 by omega) (show a + 1 ≤ y by omega); omega
  subst hy
  obtain ⟨_, _, p1, p2, _, _⟩ := h
  obtain ⟨_, _, q1, q2, _, _⟩ := k
  have hm : m = b := by
    rcases Int.lt_trichotomy m b with c | c | c
    · have := cM_mono (y := y) (a := m + 1) (b := b) (by omega) (by omega) (by omega); omega
    · exact c
    · have := cM_mono (y := y) (a := b + 1) (b := m) (by omega) (by omega) (by omega); omega
  subst hm
  refine ⟨rfl, rfl, ?_⟩
  unfold daysOf at e; omega
end Go.Pk
