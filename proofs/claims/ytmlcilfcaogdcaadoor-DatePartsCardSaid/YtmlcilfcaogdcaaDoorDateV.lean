/- Contracts of the laws of dates: alive, DateDays, DateCookies, DateTells, DateNext. Its conditions: none. -/
import Derived.Test.YtmlcilfcaogdcaaDoorDateU
set_option linter.unusedVariables false
set_option linter.unusedSimpArgs false
set_option maxRecDepth 20000
namespace Go.Pk
theorem next_day {y m d : Int} (h : isDate y m d) : (isDate y m (d + 1) ∧ daysOf y m (d + 1) = daysOf y m d + 1) ∨ (isDate y (m + 1) 1 ∧ daysOf y (m + 1) 1 = daysOf y m d + 1 ∧ 28 ≤ d) ∨
    (isDate (y + 1) 1 1 ∧ daysOf (y + 1) 1 1 = daysOf y m d + 1 ∧ m = 12 ∧ d = 31) ∨ (y = 9999 ∧ m = 12 ∧ d = 31) := by
  have hh := h
  obtain ⟨h1, h2, h3, h4, h5, h6⟩ := h
  by_cases c1 : d < lenM y m
  · exact .inl ⟨⟨h1, h2, h3, h4, by omega, by omega⟩, by unfold daysOf; omega⟩
  have hd : d = lenM y m := by omega
  have hl := lenM_le y m
  have hs := cM_succ (y := y) h3 h4
  by_cases c2 : m < 12
  · right; left
    have hl2 := lenM_le y (m + 1)
    exact ⟨⟨h1, h2, by omega, by omega, by omega, by omega⟩, by unfold daysOf; omega, by omega⟩
  have hm : m = 12 := by omega
  subst hm
  have hd31 : d = 31 := by rw [hd]; rfl
  right; right
  by_cases c3 : y < 9999
  · left
    have e1 := dY_succ (y := y) (by omega)
    have e2 := cM_end y
    have e3 : cM (y + 1) 1 = 0 := rfl
    have hl3 := lenM_le (y + 1) 1
    exact ⟨⟨by omega, by omega, by omega, by omega, by omega, by omega⟩, by unfold daysOf; rw [show (12 : Int) + 1 = 13 from rfl] at hs; omega, rfl, hd31⟩
  · right; exact ⟨by omega, rfl, hd31⟩
end Go.Pk
namespace Go.Proofs.YtmlcilfcaogdcaaDoor
open Go.Pk
open Go.RowKit (Below)
abbrev Says (w : World) (v : Value) (w' : World) : Prop := v = .bool true ∧ Below w.heap.size w w'
theorem civV_cases (n : Int) : ∃ (y m d : Int) (b : Bool), civV n = .tuple #[.int .i64 y, .int .i64 m, .int .i64 d, .bool b] ∧ (b = true → isDate y m d ∧ daysOf y m d = n) ∧ (b = false → n < -134774 ∨ 2932896 < n) := by
  by_cases hr : n < -134774 ∨ 2932896 < n
  · exact ⟨_, _, _, _, civV_none hr, (fun e => by cases e), fun _ => hr⟩
  · obtain ⟨y, m, d, hd, he⟩ := civ_ex (n := n) (by omega) (by omega)
    exact ⟨y, m, d, true, by rw [← he]; exact civV_of hd, fun _ => ⟨hd, he⟩, (fun e => by cases e)⟩
theorem cookV_cases (f : Fnd) : ∃ (n : Int) (b : Bool), cookV f = .tuple #[.int .i64 n, .bool b] := by
  unfold cookV; split <;> exact ⟨_, _, rfl⟩
theorem dateAlive_ok (w : World) (ht : TabOk Tryd.prog w) : Calls Tryd.prog f_law07_dateAlive #[] w (Ret (Says w)) := by
  apply run_law07_dateAlive
  unfold vc_law07_dateAlive
  refine callK (date_Cookie_ok _ (by decide) w) ?_
  rintro _ w1 ⟨rfl, hb1⟩
  have e : cookV (toldV [49, 45, 102, 101, 98, 45, 55, 48, 32, 48, 58, 48, 58, 57]) = .tuple #[.int .i64 2678409, .bool true] := by
    have h : toldV [49, 45, 102, 101, 98, 45, 55, 48, 32, 48, 58, 48, 58, 57] = ⟨true, true, true, true, 0, 0, 9, 70, 2, 1⟩ := by kernel_rfl
    rw [h]
    have hc : cookP ⟨true, true, true, true, 0, 0, 9, 70, 2, 1⟩ := by decide
    unfold cookV; rw [if_pos hc]; rfl
  rw [e]
  refine ⟨_, _, rfl, BCase.yes rfl (BCase.yes rfl ?_)⟩
  refine callK (date_Text_ok 0 (by decide) (by decide) w1 (tab_step ht hb1)) ?_
  rintro _ w2 ⟨rfl, hb2⟩
  rw [textV_of (t := 0) (y := 1970) (m := 1) (d := 1) (by decide) (by decide)]
  exact ⟨_, rfl, by kernel_rfl, below_step hb1 hb2 hb1.size⟩
theorem law07_DateDays_ok (a b c n : Int) (hc : -9223372036854775808 ≤ c ∧ c ≤ 9223372036854775807) (hn : -9223372036854775808 ≤ n ∧ n ≤ 9223372036854775807) (w : World) (ht : TabOk Tryd.prog w) :
    Calls Tryd.prog f_law07_DateDays #[.agg #[.int .i64 a, .int .i64 b, .int .i64 c], .int .i64 n] w (Ret (Says w)) := by
  apply run_law07_DateDays
  unfold vc_law07_DateDays
  intro k2 w2 hk2 hw2
  have hB2 : Below w.heap.size w w2 := hw2 ▸ below_alloc _ _
  have ha : ArrAt w2 k2 T_arr3_int (arrV [a, b, c]) := ArrAt.new hk2 hw2
  refine callK (dateAlive_ok w2 (tab_step ht hB2)) ?_
  rintro _ w3 ⟨rfl, hb3⟩
  have hb := below_step hB2 hb3 hB2.size
  refine ⟨_, rfl, BCase.no rfl ?_⟩
  have ld : ∀ {w' : World}, Below w2.heap.size w2 w' → ∀ i : Nat, (hi : i < 3) → (Instr.loadAt T_int (.pointer (elemAddr (some ⟨k2, 0, none⟩) (i : Int) 1))).run Tryd.prog w' = .ok (.int .i64 ([a, b, c][i])) w' := fun hb' i hi => by
    rw [elem_eq, Nat.zero_add, Nat.mul_one, Int.toNat_natCast]
    exact (ha.below hb').load1 un_int rfl (by match i, hi with
                                              | 0, _ => rfl
                                              | 1, _ => rfl
                                              | 2, _ => rfl)
  refine ⟨⟨⟨by decide, by decide⟩, rfl⟩, _, ld hb3 0 (by decide), ⟨⟨by decide, by decide⟩, rfl⟩, _, ld hb3 1 (by decide), ⟨⟨by decide, by decide⟩, rfl⟩, _, ld hb3 2 (by decide), ?_⟩
  refine callK (date_Days_ok _ _ _ hc w3) ?_
  rintro _ w4 ⟨rfl, hb4⟩
  have hb24 := below_step hb3 hb4 hb3.size
  have hbw := below_step hb hb4 hb.size
  refine ⟨_, _, rfl, ⟨⟨by decide, by decide⟩, rfl⟩, _, ld hb24 0 (by decide), ⟨⟨by decide, by decide⟩, rfl⟩, _, ld hb24 1 (by decide), ⟨⟨by decide, by decide⟩, rfl⟩, _, ld hb24 2 (by decide), ?_⟩
  refine callK (ref07_Days_ok _ _ _ w4) ?_
  rintro _ w4 ⟨rfl, rfl⟩
  refine ⟨_, _, rfl, ?_⟩
  refine callK (date_Civil_ok _ w4 hn) ?_
  rintro _ w5 ⟨rfl, hb5⟩
  obtain ⟨y, m, d, bb, e, _, _⟩ := civV_cases n
  rw [e]
  refine ⟨_, _, _, _, rfl, ?_⟩
  refine callK (ref07_Civil_ok _ w5 hn) ?_
  rintro _ w5 ⟨rfl, rfl⟩
  rw [e]
  refine ⟨_, _, _, _, rfl, BCase.yes (beq_self_eq_true _) (BCase.yes (beq_self_eq_true _) (BCase.yes (beq_self_eq_true _) (BCase.yes (beq_self_eq_true _) (BCase.yes (beq_self_eq_true _) ?_))))⟩
  exact ⟨by rw [beq_self_eq_true], below_step hbw hb5 hbw.size⟩
theorem law07_DateCookies_ok (s : List UInt8) (w : World) (ht : TabOk Tryd.prog w) : Calls Tryd.prog f_law07_DateCookies #[.string (mkS s)] w (Ret (Says w)) := by
  apply run_law07_DateCookies
  unfold vc_law07_DateCookies
  refine callK (dateAlive_ok w ht) ?_
  rintro _ w1 ⟨rfl, hb1⟩
  refine ⟨_, rfl, BCase.no rfl ?_⟩
  refine BCase.of (fun h => ?_) (fun h => ?_) <;> simp only [gt_iff_lt, decide_eq_true_eq, decide_eq_false_iff_not] at h
  · exact ⟨rfl, hb1⟩
  · refine callK (date_Cookie_ok s (by omega) w1) ?_
    rintro _ w2 ⟨rfl, hb2⟩
    obtain ⟨n, b, e⟩ := cookV_cases (toldV s)
    rw [e]
    refine ⟨_, _, rfl, ?_⟩
    refine callK (ref07_Cookie_ok s (by omega) w2) ?_
    rintro _ w3 ⟨rfl, hb3⟩
    rw [e]
    have hb12 := below_step hb1 hb2 hb1.size
    refine ⟨_, _, rfl, BCase.yes (beq_self_eq_true _) ?_⟩
    exact ⟨by rw [beq_self_eq_true], below_step hb12 hb3 hb12.size⟩
theorem law07_DateTells_ok (t : Int) (hn : -9223372036854775808 ≤ t ∧ t ≤ 9223372036854775807) (w : World) (ht : TabOk Tryd.prog w) : Calls Tryd.prog f_law07_DateTells #[.int .i64 t] w (Ret (Says w)) := by
  apply run_law07_DateTells
  unfold vc_law07_DateTells
  refine callK (dateAlive_ok w ht) ?_
  rintro _ w1 ⟨rfl, hb1⟩
  refine ⟨_, rfl, BCase.no rfl ?_⟩
  refine callK (date_Text_ok t hn.1 hn.2 w1 (tab_step ht hb1)) ?_
  rintro _ w2 ⟨rfl, hb2⟩
  refine ⟨_, rfl, ?_⟩
  refine callK (ref07_Text_ok t hn.1 hn.2 w2) ?_
  rintro _ w3 ⟨rfl, hb3⟩
  have hb12 := below_step hb1 hb2 hb1.size
  exact ⟨_, rfl, by rw [beq_self_eq_true], below_step hb12 hb3 hb12.size⟩
theorem law07_DateNext_ok (n : Int) (hn : -9223372036854775808 ≤ n ∧ n ≤ 9223372036854775807) (w : World) (ht : TabOk Tryd.prog w) : Calls Tryd.prog f_law07_DateNext #[.int .i64 n] w (Ret (Says w)) := by
  apply run_law07_DateNext
  unfold vc_law07_DateNext
  refine callK (dateAlive_ok w ht) ?_
  rintro _ w1 ⟨rfl, hb1⟩
  refine ⟨_, rfl, BCase.no rfl ?_⟩
  refine callK (date_Civil_ok n w1 hn) ?_
  rintro _ w2 ⟨rfl, hb2⟩
  have hb12 := below_step hb1 hb2 hb1.size
  obtain ⟨y, m, d, b, e, hyes, hno⟩ := civV_cases n
  rw [e]
  refine ⟨_, _, _, _, rfl, ?_⟩
  refine factJ (w := w2) (b = true ∧ n ≠ 9223372036854775807) ?_ ?_
  · refine BCase.of (fun h => ?_) (fun h => ?_)
    · exact ⟨rfl, hb12⟩
    · refine BCase.of (fun h2 => ?_) (fun h2 => ?_)
      · exact ⟨rfl, hb12⟩
      · exact ⟨rfl, by simpa using h, by simpa using h2⟩
  rintro ⟨rfl, hne⟩
  obtain ⟨hd, he⟩ := hyes rfl
  rw [wrap_i64 (n := n + 1) (by omega) (by omega)]
  refine callK (date_Civil_ok (n + 1) w2 (by omega)) ?_
  rintro _ w3 ⟨rfl, hb3⟩
  have hb13 := below_step hb12 hb3 hb12.size
  have hdd := hd
  obtain ⟨h1, h2, h3, h4, h5, h6⟩ := hdd
  have hl := lenM_le y m
  rw [wrap_i64 (n := d + 1) (by omega) (by omega), wrap_i64 (n := m + 1) (by omega) (by omega), wrap_i64 (n := y + 1) (by omega) (by omega)]
  have fin : ∀ (a b c : Int), isDate a b c → daysOf a b c = n + 1 → (a = y ∧ b = m ∧ c = d + 1) ∨ (a = y ∧ b = m + 1 ∧ c = 1 ∧ 28 ≤ d) ∨ (a = y + 1 ∧ b = 1 ∧ c = 1 ∧ m = 12 ∧ d = 31) → civV (n + 1) = .tuple #[.int .i64 a, .int .i64 b, .int .i64 c, .bool true] :=
    fun a b c k e2 _ => by rw [← e2]; exact civV_of k
  have main : (∃ a b c : Int, civV (n + 1) = .tuple #[.int .i64 a, .int .i64 b, .int .i64 c, .bool true] ∧ ((a = y ∧ b = m ∧ c = d + 1) ∨ (a = y ∧ b = m + 1 ∧ c = 1 ∧ 28 ≤ d) ∨ (a = y + 1 ∧ b = 1 ∧ c = 1 ∧ m = 12 ∧ d = 31))) ∨
      (civV (n + 1) = .tuple #[.int .i64 0, .int .i64 0, .int .i64 0, .bool false] ∧ y = 9999 ∧ m = 12 ∧ d = 31) := by
    rcases next_day hd with ⟨k, e2⟩ | ⟨k, e2, e3⟩ | ⟨k, e2, e3, e4⟩ | ⟨e2, e3, e4⟩
    · exact .inl ⟨_, _, _, fin _ _ _ k (by omega) (.inl ⟨rfl, rfl, rfl⟩), .inl ⟨rfl, rfl, rfl⟩⟩
    · exact .inl ⟨_, _, _, fin _ _ _ k (by omega) (.inr (.inl ⟨rfl, rfl, rfl, e3⟩)), .inr (.inl ⟨rfl, rfl, rfl, e3⟩)⟩
    · exact .inl ⟨_, _, _, fin _ _ _ k (by omega) (.inr (.inr ⟨rfl, rfl, rfl, e3, e4⟩)), .inr (.inr ⟨rfl, rfl, rfl, e3, e4⟩)⟩
    · refine .inr ⟨civV_none ?_, e2, e3, e4⟩
      subst e2 e3 e4
      have := high_day.2
      omega
  rcases main with ⟨a, b, c, e2, hc⟩ | ⟨e2, rfl, rfl, rfl⟩
  · rw [e2]
    refine ⟨_, _, _, _, rfl, BCase.no rfl ?_⟩
    refine boolJ (w := w3) ((a == y) && ((b == m) && (c == d + 1))) ?_ ?_
    · refine BCase.of (fun h => ?_) (fun h => ?_)
      · refine BCase.of (fun h7 => ?_) (fun h7 => ?_)
        · exact ⟨rfl, by rw [h, h7]; rfl⟩
        · exact ⟨rfl, by rw [h, h7]; rfl⟩
      · exact ⟨rfl, by rw [h]; rfl⟩
    refine boolJ (w := w3) ((a == y) && ((b == m + 1) && ((c == 1) && decide (d ≥ 28)))) ?_ ?_
    · refine BCase.of (fun h => ?_) (fun h => ?_)
      · refine BCase.of (fun h7 => ?_) (fun h7 => ?_)
        · refine BCase.of (fun h8 => ?_) (fun h8 => ?_)
          · exact ⟨rfl, by rw [h, h7, h8]; rfl⟩
          · exact ⟨rfl, by rw [h, h7, h8]; rfl⟩
        · exact ⟨rfl, by rw [h, h7]; rfl⟩
      · exact ⟨rfl, by rw [h]; rfl⟩
    refine boolJ (w := w3) ((a == y + 1) && ((b == 1) && ((c == 1) && ((m == 12) && (d == 31))))) ?_ ?_
    · refine BCase.of (fun h => ?_) (fun h => ?_)
      · refine BCase.of (fun h7 => ?_) (fun h7 => ?_)
        · refine BCase.of (fun h8 => ?_) (fun h8 => ?_)
          · refine BCase.of (fun h9 => ?_) (fun h9 => ?_)
            · exact ⟨rfl, by rw [h, h7, h8, h9]; rfl⟩
            · exact ⟨rfl, by rw [h, h7, h8, h9]; rfl⟩
          · exact ⟨rfl, by rw [h, h7, h8]; rfl⟩
        · exact ⟨rfl, by rw [h, h7]; rfl⟩
      · exact ⟨rfl, by rw [h]; rfl⟩
    refine BCase.of (fun h => ⟨rfl, hb13⟩) (fun h => ?_)
    refine BCase.of (fun h7 => ⟨rfl, hb13⟩) (fun h7 => ?_)
    refine ⟨?_, hb13⟩
    congr 1
    rcases hc with ⟨rfl, rfl, rfl⟩ | ⟨rfl, rfl, rfl, h8⟩ | ⟨rfl, rfl, rfl, rfl, rfl⟩
    · simp at h
    · rw [decide_eq_true (show d ≥ 28 from h8)] at h7; simp at h7
    · simp
  · rw [e2]
    exact ⟨_, _, _, _, rfl, BCase.yes rfl (BCase.yes rfl (BCase.yes rfl ⟨rfl, hb13⟩))⟩
end Go.Proofs.YtmlcilfcaogdcaaDoor
