/- Plain laws: a moment's text tells that moment. Its conditions: none. -/
import Derived.Test.YtmlcilfcaogdcaaGreatDoorDateV
set_option linter.unusedVariables false
set_option linter.unusedSimpArgs false
set_option maxRecDepth 20000
namespace Go.Pk
theorem cutP_tok : ∀ (a cur r : List UInt8) (c : UInt8), (∀ x ∈ a, isPart x = false) → isPart c = true → cutP cur (a ++ c :: r) = (cur ++ a) :: cutP [] r
  | [], cur, r, c, _, hc => by
    show (if isPart c = true then _ else _) = _
    rw [if_pos hc, List.append_nil]
  | x :: a, cur, r, c, ha, hc => by
    have hx := ha x List.mem_cons_self
    show (if isPart x = true then _ else _) = _
    rw [if_neg (by rw [hx]; decide)]
    exact (cutP_tok a (cur ++ [x]) r c (fun y hy => ha y (List.mem_cons_of_mem _ hy)) hc).trans (by simp)
theorem cutP_last : ∀ (a cur : List UInt8), (∀ x ∈ a, isPart x = false) → cutP cur a = [cur ++ a]
  | [], cur, _ => by simp [cutP]
  | x :: a, cur, ha => by
    have hx := ha x List.mem_cons_self
    show (if isPart x = true then _ else _) = _
    rw [if_neg (by rw [hx]; decide), cutP_last a (cur ++ [x]) (fun y hy => ha y (List.mem_cons_of_mem _ hy))]
    simp
theorem dig_tw : ∀ (a r : List UInt8), (∀ x ∈ a, isDig x = true) → digP (a ++ r) = a ++ digP r
  | [], r, _ => rfl
  | x :: a, r, h => by
    unfold digP
    rw [List.cons_append, List.takeWhile_cons, if_pos (h x List.mem_cons_self)]
    show x :: digP (a ++ r) = _
    rw [dig_tw a r fun y hy => h y (List.mem_cons_of_mem _ hy)]; rfl
theorem two_dig (n : Int) : ∀ x ∈ twoL n, isDig x = true := by
  intro x hx
  simp only [twoL, List.mem_cons, List.mem_nil_iff, or_false] at hx
  rcases hx with rfl | rfl
  · exact (dig1_ok _).1
  · exact (dig1_ok _).1
theorem dig_part_all : ∀ n, n < 256 → isDig (UInt8.ofNat n) = true → isPart (UInt8.ofNat n) = false := by decide +kernel
theorem dig_part {x : UInt8} (h : isDig x = true) : isPart x = false := by
  have := dig_part_all x.toNat (by have := x.toNat_lt; omega)
  rw [UInt8.ofNat_toNat] at this; exact this h
theorem dec2 {n : Int} (h0 : 0 ≤ n) (h1 : n < 100) : decV (twoL n) = n := by
  have h := (dig1_ok (n / 10)).2
  have h2 := (dig1_ok n).2
  show (0 * 10 + (((dig1 (n / 10)).toNat : Int) - 48)) * 10 + (((dig1 n).toNat : Int) - 48) = n
  omega
theorem dec4 {n : Int} (h0 : 0 ≤ n) (h1 : n < 10000) : decV (twoL (n / 100) ++ twoL (n % 100)) = n := by
  have h := (dig1_ok (n / 100 / 10)).2
  have h2 := (dig1_ok (n / 100)).2
  have h3 := (dig1_ok (n % 100 / 10)).2
  have h4 := (dig1_ok (n % 100)).2
  show (((0 * 10 + (((dig1 (n / 100 / 10)).toNat : Int) - 48)) * 10 + (((dig1 (n / 100)).toNat : Int) - 48)) * 10 + (((dig1 (n % 100 / 10)).toNat : Int) - 48)) * 10 + (((dig1 (n % 100)).toNat : Int) - 48) = n
  omega
theorem stepC_two {i : Nat} {s u : List UInt8} (hc : colon i s = some u) {n : Int} {r : List UInt8} (hu : u = twoL n ++ r) (hr : digP r = []) (h0 : 0 ≤ n) (h1 : n < 100) : stepC i s = some (n, r) := by
  unfold stepC
  have hd : digP u = twoL n := by rw [hu, dig_tw _ _ (two_dig n), hr, List.append_nil]
  rw [hc, Option.bind_some, hd, if_pos ⟨by rw [two_len]; decide, by rw [two_len]; decide⟩, dec2 h0 h1, hu]
  rfl
theorem clock_text {s : Int} (h0 : 0 ≤ s) (h1 : s < 86400) : clockV (clockL s) = some [s / 3600, s / 60 % 60, s % 60] := by
  have e : clockL s = twoL (s / 3600) ++ (58 :: (twoL (s / 60 % 60) ++ (58 :: twoL (s % 60)))) := by simp [clockL]
  unfold clockV
  rw [e]
  unfold clockFrom
  rw [stepC_two (u := _) (n := s / 3600) rfl rfl rfl (by omega) (by omega), Option.bind_some]
  unfold clockFrom
  rw [stepC_two (i := 1) (u := twoL (s / 60 % 60) ++ (58 :: twoL (s % 60))) rfl rfl rfl (by omega) (by omega), Option.bind_some]
  unfold clockFrom
  rw [stepC_two (i := 2) (u := twoL (s % 60)) (r := []) rfl (List.append_nil _).symm rfl (by omega) (by omega), Option.bind_some]
  rfl
theorem clock_none {s : List UInt8} (h : ∀ c r, s.drop (digP s).length = c :: r → c ≠ 58) : clockV s = none := by
  unfold clockV clockFrom
  have e0 : stepC 0 s = stepD s := rfl
  rw [e0]
  unfold stepD
  split
  · rw [Option.bind_some]
    have : clockFrom 2 (0 + 1) (s.drop (digP s).length) = none := by
      rw [clockFrom_rest]
      have hc : colon (0 + 1) (s.drop (digP s).length) = none := by
        unfold colon
        rw [if_neg (by decide)]
        cases hs : s.drop (digP s).length with
        | nil => rfl
        | cons c r => rw [if_neg (by have := h c r hs; simpa using this)]
      rw [hc]; rfl
    show (clockFrom 2 (0 + 1) (s.drop (digP s).length)).map _ = none
    rw [this]; rfl
  · rfl
theorem tok_day {f : Fnd} {d : Int} (h0 : 0 ≤ d) (h1 : d < 100) (hf : f.day = false) : tokV f (twoL d) = { f with d := d, day := true } := by
  have hd : digP (twoL d) = twoL d := by have := dig_tw (twoL d) [] (two_dig d); rw [List.append_nil] at this; rw [this]; exact List.append_nil _
  have hc : clockV (twoL d) = none := clock_none fun c r h => by rw [hd, List.drop_length] at h; cases h
  rcases tokV_cases f (twoL d) with ⟨_, _, _, h, _⟩ | ⟨_, e⟩
  · rw [hc] at h; cases h
  · rw [e, if_pos ⟨by unfold numOk; rw [hd]; rfl, hf⟩, hd, dec2 h0 h1]
theorem mon_facts : ∀ k : Nat, k < 12 → clockV (monN ((k : Int) + 1)) = none ∧ numOk (monN ((k : Int) + 1)) 1 2 = false ∧ monthV (monN ((k : Int) + 1)) = (k : Int) + 1 ∧ (monN ((k : Int) + 1)).all (fun x => !isPart x) = true := by decide +kernel
theorem tok_mon {f : Fnd} {m : Int} (h0 : 1 ≤ m) (h1 : m ≤ 12) (hf : f.month = false) : tokV f (monN m) = { f with m := m, month := true } := by
  have h := mon_facts (m - 1).toNat (by omega)
  rw [show (((m - 1).toNat : Nat) : Int) + 1 = m by omega] at h
  obtain ⟨h2, h3, h4, _⟩ := h
  rcases tokV_cases f (monN m) with ⟨_, _, _, h, _⟩ | ⟨_, e⟩
  · rw [h2] at h; cases h
  · rw [e, if_neg (fun h => by rw [h3] at h; cases h.1), if_pos ⟨by omega, hf⟩, h4]
theorem tok_year {f : Fnd} {y : Int} (h0 : 0 ≤ y) (h1 : y < 10000) (hm : f.month = true) (hf : f.year = false) : tokV f (twoL (y / 100) ++ twoL (y % 100)) = { f with y := y, year := true } := by
  have hall : ∀ x ∈ twoL (y / 100) ++ twoL (y % 100), isDig x = true := fun x hx => (List.mem_append.1 hx).elim (two_dig _ x) (two_dig _ x)
  have hd : digP (twoL (y / 100) ++ twoL (y % 100)) = twoL (y / 100) ++ twoL (y % 100) := by have := dig_tw _ [] hall; rw [List.append_nil] at this; rw [this]; exact List.append_nil _
  have hc : clockV (twoL (y / 100) ++ twoL (y % 100)) = none := clock_none fun c r h => by rw [hd, List.drop_length] at h; cases h
  rcases tokV_cases f (twoL (y / 100) ++ twoL (y % 100)) with ⟨_, _, _, h, _⟩ | ⟨_, e⟩
  · rw [hc] at h; cases h
  · have hn : numOk (twoL (y / 100) ++ twoL (y % 100)) 1 2 = false := by unfold numOk; rw [hd]; rfl
    have hn2 : numOk (twoL (y / 100) ++ twoL (y % 100)) 2 4 = true := by unfold numOk; rw [hd]; rfl
    rw [e, if_neg (fun h => by rw [hn] at h; cases h.1), if_neg (fun h => by rw [hm] at h; cases h.2), if_pos ⟨hn2, hf⟩, hd, dec4 h0 h1]
theorem tok_clock {f : Fnd} {s : Int} (h0 : 0 ≤ s) (h1 : s < 86400) (hf : f.time = false) : tokV f (clockL s) = { f with s0 := s / 3600, s1 := s / 60 % 60, s2 := s % 60, time := true } := tokV_time' (clock_text h0 h1) hf
where tokV_time' {f : Fnd} {s : List UInt8} {a b c : Int} (h : clockV s = some [a, b, c]) (ht : f.time = false) : tokV f s = { f with s0 := a, s1 := b, s2 := c, time := true } := by
        unfold tokV; rw [h, ht]
theorem tok_full {f : Fnd} {s : List UInt8} (h1 : f.day = true) (h2 : f.month = true) (h3 : f.year = true) (h4 : f.time = true) : tokV f s = f := by
  rcases tokV_cases f s with ⟨_, _, _, _, h, _⟩ | ⟨_, e⟩
  · rw [h4] at h; cases h
  · rw [e, if_neg (fun h => by rw [h1] at h; cases h.2), if_neg (fun h => by rw [h2] at h; cases h.2), if_neg (fun h => by rw [h3] at h; cases h.2)]
theorem week_facts : ∀ k : Nat, k < 7 → (weekN (k : Int)).all (fun x => !isPart x) = true := by decide
theorem week_tok : ∀ k : Nat, k < 7 → tokV fnd0 (weekN (k : Int)) = fnd0
  | 0, _ => by kernel_rfl
  | 1, _ => by kernel_rfl
  | 2, _ => by kernel_rfl
  | 3, _ => by kernel_rfl
  | 4, _ => by kernel_rfl
  | 5, _ => by kernel_rfl
  | 6, _ => by kernel_rfl
  | n + 7, h => by omega
/-- what tells a moment, between any bytes that part tokens -/
def tailD (c : UInt8) (y m d s : Int) : List UInt8 := twoL d ++ c :: (monN m ++ c :: ((twoL (y / 100) ++ twoL (y % 100)) ++ c :: (clockL s ++ c :: [71, 77, 84])))
def fullF (y m d s : Int) : Fnd := ⟨true, true, true, true, s / 3600, s / 60 % 60, s % 60, y, m, d⟩
theorem clock_part {s : Int} (x : UInt8) (h : x ∈ clockL s) : isPart x = false := by
  unfold clockL at h
  simp only [List.mem_append, List.mem_singleton] at h
  rcases h with (((h | h) | h) | h) | h
  · exact dig_part (two_dig _ x h)
  · subst h; decide
  · exact dig_part (two_dig _ x h)
  · subst h; decide
  · exact dig_part (two_dig _ x h)
theorem tail_told {c : UInt8} (hc : isPart c = true) {y m d s : Int} (h : isDate y m d) (h0 : 0 ≤ s) (h1 : s < 86400) (r : List UInt8) (hr : r = [] ∨ ∃ r', r = c :: r') :
    (cutP [] (tailD c y m d s ++ r)).foldl tokV fnd0 = fullF y m d s := by
  obtain ⟨g1, g2, g3, g4, g5, g6⟩ := h
  have hl := lenM_le y m
  have hm := mon_facts (m - 1).toNat (by omega)
  rw [show (((m - 1).toNat : Nat) : Int) + 1 = m by omega] at hm
  have hmp : ∀ x ∈ monN m, isPart x = false := fun x hx => by have := List.all_eq_true.1 hm.2.2.2 x hx; simpa using this
  have e : tailD c y m d s ++ r = twoL d ++ c :: (monN m ++ c :: ((twoL (y / 100) ++ twoL (y % 100)) ++ c :: (clockL s ++ c :: ([71, 77, 84] ++ r)))) := by simp [tailD]
  rw [e, cutP_tok _ _ _ _ (fun x hx => dig_part (two_dig _ x hx)) hc, cutP_tok _ _ _ _ hmp hc,
    cutP_tok _ _ _ _ (fun x hx => dig_part ((List.mem_append.1 hx).elim (two_dig _ x) (two_dig _ x))) hc, cutP_tok _ _ _ _ clock_part hc]
  simp only [List.nil_append, List.foldl_cons]
  rw [tok_day (by omega) (by omega) rfl, tok_mon g3 g4 rfl, tok_year (by omega) (by omega) rfl rfl, tok_clock h0 h1 rfl]
  have fullk : ∀ l : List (List UInt8), l.foldl tokV (fullF y m d s) = fullF y m d s := by
    intro l
    induction l with
    | nil => rfl
    | cons x l ih => rw [List.foldl_cons, tok_full rfl rfl rfl rfl, ih]
  exact fullk _
theorem full_cook {t y m d : Int} (h : isDate y m d) (he : daysOf y m d = t / 86400) : cookV (fullF y m d (t % 86400)) = .tuple #[.int .i64 t, .bool true] := by
  have h1 := h.1
  have hy : fullY y = y := by unfold fullY; rw [if_neg (by omega), if_neg (by omega)]
  have hc : cookP (fullF y m d (t % 86400)) := by
    refine ⟨?_, rfl, rfl, ?_, ?_, ?_⟩
    · show isDate (fullY y) m d
      rw [hy]; exact h
    · show t % 86400 / 3600 ≤ 23; omega
    · show t % 86400 / 60 % 60 ≤ 59; omega
    · show t % 86400 % 60 ≤ 59; omega
  unfold cookV
  rw [if_pos hc]
  have : cookN (fullF y m d (t % 86400)) = t := by
    show daysOf (fullY y) m d * 86400 + t % 86400 / 3600 * 3600 + t % 86400 / 60 % 60 * 60 + t % 86400 % 60 = t
    rw [hy, he]; omega
  rw [this]
theorem textD_tail (n y m d s : Int) : textD n y m d s = weekN (n % 7) ++ 44 :: 32 :: tailD 32 y m d s := by simp [textD, tailD]
theorem text_told {n y m d s : Int} (h : isDate y m d) (h0 : 0 ≤ s) (h1 : s < 86400) : toldV (textD n y m d s) = fullF y m d s := by
  have hw := week_facts (n % 7).toNat (by omega)
  have hw2 := week_tok (n % 7).toNat (by omega)
  rw [show (((n % 7).toNat : Nat) : Int) = n % 7 by omega] at hw hw2
  unfold toldV
  rw [textD_tail, cutP_tok _ _ _ _ (fun x hx => by have := List.all_eq_true.1 hw x hx; simpa using this) (by decide)]
  have e : cutP [] (32 :: tailD 32 y m d s) = [] :: cutP [] (tailD 32 y m d s) := rfl
  rw [e, List.foldl_cons, List.foldl_cons, List.nil_append, hw2, tokV_nil]
  have := tail_told (c := 32) (by decide) h h0 h1 [] (.inl rfl)
  rwa [List.append_nil] at this
theorem textD_len {n y m d s : Int} (h : isDate y m d) : (textD n y m d s).length = 29 := by
  have h1 := weekN_len2 (k := n % 7) (by omega) (by omega)
  have h2 := monN_len2 h.2.2.1 h.2.2.2.1
  unfold textD clockL
  simp only [List.length_append, two_len, h1, h2, List.length_cons, List.length_nil]
where
  weekN_len2 {k : Int} (h0 : 0 ≤ k) (h1 : k < 7) : (weekN k).length = 3 := by
    have : ∀ k : Nat, k < 7 → (weekN (k : Int)).length = 3 := by decide
    have := this k.toNat (by omega)
    rwa [show ((k.toNat : Nat) : Int) = k by omega] at this
  monN_len2 {k : Int} (h0 : 1 ≤ k) (h1 : k ≤ 12) : (monN k).length = 3 := by
    have : ∀ k : Nat, k < 12 → (monN ((k : Int) + 1)).length = 3 := by decide
    have := this (k - 1).toNat (by omega)
    rwa [show (((k - 1).toNat : Nat) : Int) + 1 = k by omega] at this
end Go.Pk
