/- Contracts of the texts of moments. Its conditions: none. -/
import Derived.Test.YtmlcilfcaogdcaaGreatDoorDateS
set_option linter.unusedVariables false
set_option linter.unusedSimpArgs false
set_option maxRecDepth 20000
namespace Go.Pk
open Go.RowKit (Below)
theorem below_grow2 (w : World) (k : Nat) (os : Array Obj) : Below w.heap.size w (Go.Sort.grow (w.drewN k) os) := by
  refine grow_new rfl rfl rfl (by simp [Go.Sort.grow, World.drewN]) fun j hj => ?_
  show (w.heap ++ os)[j]? = _
  rw [Array.getElem?_append_left hj]
def pow10 : List Int := Lib.pow10Tab
abbrev TabOk (P : Program) (w : World) : Prop := Lib.TabIs P w "internal/strconv.uint64pow10" .u64 Lib.pow10Tab
end Go.Pk
namespace Go.Proofs.YtmlcilfcaogdcaaGreatDoor
open Go.Pk
open Go.RowKit (Below)
theorem date_digits2_ok (n : Int) (h0 : 0 ≤ n) (h1 : n < 100) (w : World) : Calls Tryz.prog f_date_digits #[.int .i64 n, .int .i64 2] w (Ret fun v w' => v = .string (mkS (twoL n)) ∧ Below w.heap.size w w') := by
  obtain ⟨k, rfl⟩ : ∃ k : Nat, n = (k : Int) := ⟨n.toNat, by omega⟩
  apply run_date_digits
  unfold vc_date_digits
  refine (Tryz.strconv_Itoa_small k (by omega) w).mono ?_
  rintro _ _ ⟨rfl, rfl⟩
  refine ⟨Lib.decDigits k, rfl, ?_⟩
  by_cases h : k < 10
  · have hl := dec1_all k h
    have e1 : IntKind.i64.wrap ((2 : Int) - (((Lib.decDigits k).length : Nat) : Int)) = ((1 : Nat) : Int) := by rw [hl, wrap_i64 (by omega) (by omega)]; omega
    rw [e1]
    refine (Tryz.strings_Repeat (mkS [48]) 1 _ (by decide) (by decide)).mono ?_
    rintro _ w1 ⟨rfl, hb⟩
    refine ⟨[48], rfl, by rw [hl]; decide, ?_⟩
    rintro _ rfl
    exact ⟨by rw [← itoa1_all k h]; rfl, hb⟩
  · have e2 := itoa2_all k (by omega) (by omega)
    have hl : (Lib.decDigits k).length = 2 := by rw [e2]; rfl
    have e1 : IntKind.i64.wrap ((2 : Int) - (((Lib.decDigits k).length : Nat) : Int)) = ((0 : Nat) : Int) := by rw [hl, wrap_i64 (by omega) (by omega)]; omega
    rw [e1]
    refine (Tryz.strings_Repeat (mkS [48]) 0 _ (by decide) (by decide)).mono ?_
    rintro _ w1 ⟨rfl, hb⟩
    refine ⟨[], rfl, by rw [hl]; decide, ?_⟩
    rintro _ rfl
    exact ⟨by rw [← e2]; rfl, hb⟩
theorem date_digits4_ok (n : Int) (h0 : 1000 ≤ n) (h1 : n ≤ 9999) (w : World) (ht : TabOk Tryz.prog w) : Calls Tryz.prog f_date_digits #[.int .i64 n, .int .i64 4] w (Ret fun v w' => v = .string (mkS (twoL (n / 100) ++ twoL (n % 100))) ∧ Below w.heap.size w w') := by
  apply run_date_digits
  unfold vc_date_digits
  refine (Tryz.strconv_Itoa n (by omega) (by omega) w ht).mono ?_
  rintro _ _ ⟨rfl, k, os, rfl⟩
  have e2 := itoa4 h0 h1
  refine ⟨Lib.itoa n, rfl, ?_⟩
  have hl : (Lib.itoa n).length = 4 := by rw [e2]; rfl
  have e1 : IntKind.i64.wrap ((4 : Int) - (((Lib.itoa n).length : Nat) : Int)) = ((0 : Nat) : Int) := by rw [hl, wrap_i64 (by omega) (by omega)]; omega
  rw [e1]
  refine (Tryz.strings_Repeat (mkS [48]) 0 _ (by decide) (by decide)).mono ?_
  rintro _ w1 ⟨rfl, hb⟩
  refine ⟨[], rfl, by rw [hl]; decide, ?_⟩
  rintro _ rfl
  have hb0 := below_grow2 w k os
  exact ⟨by rw [← e2]; rfl, below_step hb0 hb hb0.size⟩
theorem week_all : ∀ k, k < 7 → (([84, 104, 117, 70, 114, 105, 83, 97, 116, 83, 117, 110, 77, 111, 110, 84, 117, 101, 87, 101, 100] : List UInt8).take (3 * k + 3)).drop (3 * k) = weekN (k : Int) := by decide
theorem mon_all : ∀ k, k < 12 → (([74, 97, 110, 70, 101, 98, 77, 97, 114, 65, 112, 114, 77, 97, 121, 74, 117, 110, 74, 117, 108, 65, 117, 103, 83, 101, 112, 79, 99, 116, 78, 111, 118, 68, 101, 99] : List UInt8).take (3 * k + 3)).drop (3 * k) = monN ((k : Int) + 1) := by decide
theorem week_len : ∀ k : Nat, k < 7 → (weekN (k : Int)).length = 3 := by decide
theorem mon_len : ∀ k : Nat, k < 12 → (monN ((k : Int) + 1)).length = 3 := by decide
theorem weekN_len {k : Int} (h0 : 0 ≤ k) (h1 : k < 7) : (weekN k).length = 3 := by
  have := week_len k.toNat (by omega)
  rwa [show ((k.toNat : Nat) : Int) = k by omega] at this
theorem monN_len {k : Int} (h0 : 1 ≤ k) (h1 : k ≤ 12) : (monN k).length = 3 := by
  have := mon_len (k - 1).toNat (by omega)
  rwa [show (((k - 1).toNat : Nat) : Int) + 1 = k by omega] at this
theorem date_Text_ok (t : Int) (h0 : -9223372036854775808 ≤ t) (h1 : t ≤ 9223372036854775807) (w : World) (ht : TabOk Tryz.prog w) : Calls Tryz.prog f_date_Text #[.int .i64 t] w (Ret fun v w' => v = .string (mkS (textV t)) ∧ Below w.heap.size w w') := by
  apply run_date_Text
  unfold vc_date_Text
  obtain ⟨e1, e2⟩ := trunc_div (t := t) (b := 86400) (by decide)
  refine ⟨by decide, ?_⟩
  rintro _ rfl
  refine ⟨by decide, ?_⟩
  rintro _ rfl
  refine ⟨fun n s w' => w' = w ∧ n = t / 86400 ∧ s = t % 86400, ?_, ?_⟩
  · refine BCase.of (fun h => ?_) (fun h => ?_) <;> simp only [decide_eq_true_eq, decide_eq_false_iff_not] at h
    · have hneg : t < 0 := by
        by_cases c : 0 ≤ t
        · have := (e1 c).2; omega
        · omega
      obtain ⟨e3, e4⟩ := e2 hneg
      rw [e4] at h
      rw [e3, e4, wrap_i64 (n := -(-t / 86400)) (by omega) (by omega), wrap_i64 (by omega) (by omega), wrap_i64 (by omega) (by omega)]
      exact ⟨rfl, by omega, by omega⟩
    · by_cases c : 0 ≤ t
      · rw [(e1 c).1, (e1 c).2, wrap_i64 (by omega) (by omega)]; exact ⟨rfl, rfl, rfl⟩
      · obtain ⟨e3, e4⟩ := e2 (by omega)
        rw [e4] at h
        rw [e3, e4, wrap_i64 (by omega) (by omega)]; exact ⟨rfl, by omega, by omega⟩
  · clear e1 e2
    intro n s
    refine AllJ.of ?_ _
    rintro w ⟨rfl, rfl, rfl⟩
    refine callK (date_Civil_ok _ w (by omega)) ?_
    rintro _ w1 ⟨rfl, hb1⟩
    by_cases hr : t / 86400 < -134774 ∨ 2932896 < t / 86400
    · rw [civV_none hr]
      refine ⟨_, _, _, _, rfl, BCase.yes rfl ⟨by rw [textV_none hr], hb1⟩⟩
    obtain ⟨y, m, d, hd, he⟩ := civ_ex (n := t / 86400) (by omega) (by omega)
    rw [textV_of hd he, ← he, civV_of hd, he]
    refine ⟨y, m, d, true, rfl, BCase.no rfl ?_⟩
    have hdd := hd
    obtain ⟨hy1, hy2, hm1, hm2, hd1, hd2⟩ := hdd
    have hd3 := lenM_le y m
    generalize hn : t / 86400 = n at *
    generalize hs : t % 86400 = s at *
    have hs0 : 0 ≤ s ∧ s < 86400 := by omega
    clear h0 h1 hn hs he
    obtain ⟨e1, e2⟩ := trunc_div (t := n) (b := 7) (by decide)
    have e7 : -7 < Int.tmod n 7 ∧ Int.tmod n 7 < 7 ∧ (Int.tmod n 7 + 7) % 7 = n % 7 := by
      by_cases c : 0 ≤ n
      · rw [(e1 c).2]; omega
      · rw [(e2 (by omega)).2]; omega
    clear e1 e2
    refine ⟨by decide, ?_⟩
    rintro _ rfl
    refine ⟨by decide, ?_⟩
    rintro _ rfl
    have e8 : Int.tmod (IntKind.i64.wrap (Int.tmod n 7 + 7)) 7 = n % 7 := by rw [wrap_i64 (by omega) (by omega), tmod_pos (by omega), e7.2.2]
    rw [e8]
    clear e7 e8
    have hk0 : 0 ≤ n % 7 ∧ n % 7 < 7 := by omega
    have hwl := weekN_len hk0.1 hk0.2
    have hml := monN_len hm1 hm2
    obtain ⟨k, hk⟩ : ∃ k : Nat, n % 7 = (k : Int) := ⟨(n % 7).toNat, by omega⟩
    obtain ⟨j, hj⟩ : ∃ j : Nat, m = (j : Int) + 1 := ⟨(m - 1).toNat, by omega⟩
    have hwk := week_all k (by omega)
    have hmk := mon_all j (by omega)
    rw [← hk] at hwk
    rw [← hj] at hmk
    rw [wrap_i64 (n := 3 * (n % 7)) (by omega) (by omega), wrap_i64 (n := 3 * (n % 7) + 3) (by omega) (by omega), show (3 * (n % 7) + 3).toNat = 3 * k + 3 by omega, show (3 * (n % 7)).toNat = 3 * k by omega, hwk]
    refine ⟨⟨⟨by omega, by simp only [List.length_cons, List.length_nil]; omega⟩, by omega, by omega⟩, ?_⟩
    rintro _ rfl
    refine ⟨fits (by simp only [List.length_append, two_len, hwl, hml, List.length_cons, List.length_nil]; omega), ?_⟩
    rintro _ rfl
    refine ⟨twoL d, fun u hu => quietCall (date_digits2_ok d (by omega) (by omega) u) hu, ?_⟩
    refine ⟨fits (by simp only [List.length_append, two_len, hwl, hml, List.length_cons, List.length_nil]; omega), ?_⟩
    rintro _ rfl
    refine ⟨fits (by simp only [List.length_append, two_len, hwl, hml, List.length_cons, List.length_nil]; omega), ?_⟩
    rintro _ rfl
    rw [wrap_i64 (n := 3 * m) (by omega) (by omega), wrap_i64 (n := 3 * m - 3) (by omega) (by omega), show (3 * m).toNat = 3 * j + 3 by omega, show (3 * m - 3).toNat = 3 * j by omega, hmk]
    refine ⟨⟨⟨by omega, by simp only [List.length_cons, List.length_nil]; omega⟩, by omega, by omega⟩, ?_⟩
    rintro _ rfl
    refine ⟨fits (by simp only [List.length_append, two_len, hwl, hml, List.length_cons, List.length_nil]; omega), ?_⟩
    rintro _ rfl
    refine ⟨fits (by simp only [List.length_append, two_len, hwl, hml, List.length_cons, List.length_nil]; omega), ?_⟩
    rintro _ rfl
    refine ⟨twoL (y / 100) ++ twoL (y % 100), fun u hu => quietCall (date_digits4_ok y (by omega) (by omega) u (tab_step (tab_step ht hb1) hu)) hu, ?_⟩
    refine ⟨fits (by simp only [List.length_append, two_len, hwl, hml, List.length_cons, List.length_nil]; omega), ?_⟩
    rintro _ rfl
    refine ⟨fits (by simp only [List.length_append, two_len, hwl, hml, List.length_cons, List.length_nil]; omega), ?_⟩
    rintro _ rfl
    refine ⟨by decide, ?_⟩
    rintro _ rfl
    rw [tdiv_pos hs0.1, wrap_i64 (n := s / 3600) (by omega) (by omega)]
    refine ⟨twoL (s / 3600), fun u hu => quietCall (date_digits2_ok _ (by omega) (by omega) u) hu, ?_⟩
    refine ⟨fits (by simp only [List.length_append, two_len, hwl, hml, List.length_cons, List.length_nil]; omega), ?_⟩
    rintro _ rfl
    refine ⟨fits (by simp only [List.length_append, two_len, hwl, hml, List.length_cons, List.length_nil]; omega), ?_⟩
    rintro _ rfl
    refine ⟨by decide, ?_⟩
    rintro _ rfl
    refine ⟨by decide, ?_⟩
    rintro _ rfl
    rw [tdiv_pos hs0.1, wrap_i64 (n := s / 60) (by omega) (by omega), tmod_pos (a := s / 60) (by omega)]
    refine ⟨twoL (s / 60 % 60), fun u hu => quietCall (date_digits2_ok _ (by omega) (by omega) u) hu, ?_⟩
    refine ⟨fits (by simp only [List.length_append, two_len, hwl, hml, List.length_cons, List.length_nil]; omega), ?_⟩
    rintro _ rfl
    refine ⟨fits (by simp only [List.length_append, two_len, hwl, hml, List.length_cons, List.length_nil]; omega), ?_⟩
    rintro _ rfl
    refine ⟨by decide, ?_⟩
    rintro _ rfl
    rw [tmod_pos (a := s) hs0.1]
    refine ⟨twoL (s % 60), fun u hu => quietCall (date_digits2_ok _ (by omega) (by omega) u) hu, ?_⟩
    refine ⟨fits (by simp only [List.length_append, two_len, hwl, hml, List.length_cons, List.length_nil]; omega), ?_⟩
    rintro _ rfl
    refine ⟨fits (by simp only [List.length_append, two_len, hwl, hml, List.length_cons, List.length_nil]; omega), ?_⟩
    rintro _ rfl
    intro wq hq
    refine ⟨?_, below_step hb1 hq hb1.size⟩
    congr 2
    simp [textD, clockL, List.append_assoc]
end Go.Proofs.YtmlcilfcaogdcaaGreatDoor
