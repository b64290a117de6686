/- A header's text tells the header: plain law. Its conditions: none. -/
import Derived.Test.YtmlcilfcaogdcaaGreatDoorHdrH
import Derived.Test.YtmlcilfcaogdcaaGreatDoorDateX
set_option linter.unusedVariables false
set_option linter.unusedSimpArgs false
set_option maxRecDepth 20000
namespace Go.Pk
/-! ### Ends -/
def Lok (s : List UInt8) : Prop := stripR isBl s = s
def Hok (s : List UInt8) : Prop := s.dropWhile isBl = s
theorem dw_idem (p : UInt8 → Bool) : ∀ s : List UInt8, (s.dropWhile p).dropWhile p = s.dropWhile p
  | [] => rfl
  | x :: s => by
    by_cases h : p x = true
    · rw [List.dropWhile_cons, if_pos h]; exact dw_idem p s
    · rw [List.dropWhile_cons, if_neg h, List.dropWhile_cons, if_neg h]
theorem trim_hok (s : List UInt8) : Hok (trimB s) := by unfold Hok trimB; rw [← strip_comm]; exact dw_idem _ _
theorem trim_lok (s : List UInt8) : Lok (trimB s) := by unfold Lok trimB stripB stripR; rw [List.reverse_reverse, dw_idem]
theorem trim_id {s : List UInt8} (h : Hok s) (l : Lok s) : trimB s = s := by
  unfold trimB stripB
  rw [show s.dropWhile isBl = s from h]; exact l
theorem trim_iff {s : List UInt8} : trimB s = s ↔ Hok s ∧ Lok s := ⟨fun h => ⟨h ▸ trim_hok s, h ▸ trim_lok s⟩, fun h => trim_id h.1 h.2⟩
theorem hok_cons {c : UInt8} {s : List UInt8} (h : isBl c = false) : Hok (c :: s) := by unfold Hok; rw [List.dropWhile_cons, if_neg (by rw [h]; decide)]
theorem lok_cons {c : UInt8} {s : List UInt8} (h : Lok s) (hn : s ≠ [] ∨ isBl c = false) : Lok (c :: s) := by
  unfold Lok
  rw [stripR_cons, show stripR isBl s = s from h]
  by_cases hs : s = []
  · subst hs
    have : isBl c = false := hn.resolve_left fun h => h rfl
    rw [this]; rfl
  · rw [if_neg hs]
theorem lok_app : ∀ (a : List UInt8) {s : List UInt8}, Lok s → s ≠ [] → Lok (a ++ s)
  | [], _, h, _ => h
  | c :: a, s, h, hn => lok_cons (lok_app a h hn) (.inl fun e => hn (List.append_eq_nil_iff.1 e).2)
theorem lok_tail {c : UInt8} {s : List UInt8} (h : Lok (c :: s)) : Lok s := by
  unfold Lok at h ⊢
  rw [stripR_cons] at h
  split at h
  · rename_i h1
    split at h
    · cases h
    · injection h with _ h2; rw [h1]; exact h2
  · injection h
theorem trim_bl_cons {c : UInt8} (h : isBl c = true) (s : List UInt8) : trimB (c :: s) = trimB s := by unfold trimB stripB; rw [List.dropWhile_cons, if_pos h]
theorem low_bl_all : ∀ n, n < 256 → isBl (lowC (UInt8.ofNat n)) = isBl (UInt8.ofNat n) := by decide +kernel
theorem low_bl (c : UInt8) : isBl (lowC c) = isBl c := by
  have := low_bl_all c.toNat (by have := c.toNat_lt; omega)
  rwa [UInt8.ofNat_toNat] at this
theorem low_low_all : ∀ n, n < 256 → lowC (lowC (UInt8.ofNat n)) = lowC (UInt8.ofNat n) := by decide +kernel
theorem low_low (s : List UInt8) : lowL (lowL s) = lowL s := by
  unfold lowL
  rw [List.map_map]
  refine List.map_congr_left fun c _ => ?_
  have := low_low_all c.toNat (by have := c.toNat_lt; omega)
  rw [UInt8.ofNat_toNat] at this
  exact this
theorem dw_low : ∀ s : List UInt8, (lowL s).dropWhile isBl = lowL (s.dropWhile isBl)
  | [] => rfl
  | c :: s => by
    show (lowC c :: lowL s).dropWhile isBl = _
    rw [List.dropWhile_cons, List.dropWhile_cons, low_bl]
    split
    · exact dw_low s
    · rfl
theorem low_rev (s : List UInt8) : (lowL s).reverse = lowL s.reverse := by unfold lowL; rw [List.map_reverse]
theorem lok_low {s : List UInt8} (h : Lok s) : Lok (lowL s) := by
  unfold Lok stripR at *
  rw [low_rev, dw_low, low_rev, h]
/-! ### Bytes that may stand -/
def Clean (s : List UInt8) : Prop := ∀ c ∈ s, isCtl c = false ∧ c ≠ 59
def okB (c : UInt8) : Bool := !isCtl c && !(c == 59)
theorem okB_iff {c : UInt8} : okB c = true ↔ isCtl c = false ∧ c ≠ 59 := by simp [okB]
theorem clean_all {s : List UInt8} (h : s.all okB = true) : Clean s := fun c hc => okB_iff.1 (List.all_eq_true.1 h c hc)
theorem clean_nil : Clean [] := fun _ h => by cases h
theorem clean_app {a b : List UInt8} (h : Clean a) (k : Clean b) : Clean (a ++ b) := fun c hc => (List.mem_append.1 hc).elim (h c) (k c)
theorem clean_sub {a b : List UInt8} (h : Clean b) (k : ∀ c ∈ a, c ∈ b) : Clean a := fun c hc => h c (k c hc)
theorem clean_trim {s : List UInt8} (h : Clean s) : Clean (trimB s) := clean_sub h (stripB_mem _ _)
theorem low_clean_all : ∀ n, n < 256 → okB (UInt8.ofNat n) = true → okB (lowC (UInt8.ofNat n)) = true := by decide +kernel
theorem clean_low {s : List UInt8} (h : Clean s) : Clean (lowL s) := by
  intro c hc
  obtain ⟨d, hd, rfl⟩ := List.mem_map.1 hc
  have := low_clean_all d.toNat (by have := d.toNat_lt; omega)
  rw [UInt8.ofNat_toNat] at this
  exact okB_iff.1 (this (okB_iff.2 (h d hd)))
theorem dig_clean_all : ∀ n, n < 256 → isDig (UInt8.ofNat n) = true → okB (UInt8.ofNat n) = true ∧ isBl (UInt8.ofNat n) = false := by decide +kernel
theorem dig_clean {c : UInt8} (h : isDig c = true) : (isCtl c = false ∧ c ≠ 59) ∧ isBl c = false := by
  have := dig_clean_all c.toNat (by have := c.toNat_lt; omega)
  rw [UInt8.ofNat_toNat] at this
  exact ⟨okB_iff.1 (this h).1, (this h).2⟩
theorem clean_ahead {s : List UInt8} (h : Clean s) : Clean (aheadL s) := clean_trim (clean_sub h fun c hc => (List.takeWhile_sublist _).subset hc)
theorem clean_after {s : List UInt8} (h : Clean s) : Clean (afterL s) := clean_trim (clean_sub h fun c hc => (List.dropWhile_sublist _).subset (List.mem_of_mem_drop hc))
/-! ### A sign in a part -/
theorem tw61 {k : List UInt8} (v : List UInt8) (h : ∀ c ∈ k, c ≠ 61) : (k ++ 61 :: v).takeWhile (· != 61) = k ∧ (k ++ 61 :: v).dropWhile (· != 61) = 61 :: v := by
  induction k with
  | nil => exact ⟨rfl, rfl⟩
  | cons c k ih =>
    have hc : (c != 61) = true := by simpa using h c List.mem_cons_self
    obtain ⟨e1, e2⟩ := ih fun x hx => h x (List.mem_cons_of_mem _ hx)
    rw [List.cons_append, List.takeWhile_cons, List.dropWhile_cons, if_pos hc, if_pos hc, e1, e2]
    exact ⟨rfl, rfl⟩
theorem ahead_eq {k : List UInt8} (v : List UInt8) (h : ∀ c ∈ k, c ≠ 61) : aheadL (k ++ 61 :: v) = trimB k ∧ afterL (k ++ 61 :: v) = trimB v ∧ hasEq (k ++ 61 :: v) = true := by
  unfold aheadL afterL hasEq
  rw [(tw61 v h).1, (tw61 v h).2]
  exact ⟨rfl, rfl, by simp⟩
/-! ### Numbers -/
theorem dd_facts (u : Nat) : (∀ c ∈ Lib.decDigits u, isDig c = true) ∧ Lib.decDigits u ≠ [] ∧ decV (Lib.decDigits u) = (u : Int) := by
  induction u using Nat.strongRecOn with
  | _ u ih =>
    have hd : ∀ k, k < 10 → isDig (UInt8.ofNat (48 + k)) = true ∧ ((UInt8.ofNat (48 + k)).toNat : Int) - 48 = (k : Int) := by decide
    rw [Lib.decDigits]
    split
    · rename_i h
      refine ⟨fun c hc => ?_, by simp, ?_⟩
      · rw [List.mem_singleton.1 hc]; exact (hd u h).1
      · show (0 * 10 + (((UInt8.ofNat (48 + u)).toNat : Int) - 48)) = u
        rw [(hd u h).2]; omega
    · rename_i h
      obtain ⟨i1, i2, i3⟩ := ih (u / 10) (by omega)
      have hm := hd (u % 10) (by omega)
      refine ⟨fun c hc => ?_, by simp, ?_⟩
      · rcases List.mem_append.1 hc with hc | hc
        · exact i1 c hc
        · rw [List.mem_singleton.1 hc]; exact hm.1
      · unfold decV at i3 ⊢
        rw [List.foldl_append, i3]
        show (u / 10 : Nat) * 10 + (((UInt8.ofNat (48 + u % 10)).toNat : Int) - 48) = u
        rw [hm.2]; omega
theorem itoa_pos {n : Int} (h : 0 ≤ n) : Lib.itoa n = Lib.decDigits n.toNat := by unfold Lib.itoa; rw [if_neg (by omega)]
theorem dig_trim {s : List UInt8} (h : ∀ c ∈ s, isDig c = true) : trimB s = s := by
  refine trim_id ?_ ?_
  · cases s with
    | nil => rfl
    | cons c s => exact hok_cons (dig_clean (h c List.mem_cons_self)).2
  · induction s with
    | nil => rfl
    | cons c s ih => exact lok_cons (ih fun x hx => h x (List.mem_cons_of_mem _ hx)) (.inr (dig_clean (h c List.mem_cons_self)).2)
theorem age_itoa {n : Int} (h0 : 0 ≤ n) (h1 : n ≤ 34560000) : ageV (Lib.itoa n) = some n := by
  rw [itoa_pos h0]
  obtain ⟨i1, i2, i3⟩ := dd_facts n.toNat
  have hh : (Lib.decDigits n.toNat).head? ≠ some 45 := by
    cases hc : Lib.decDigits n.toNat with
    | nil => exact absurd hc i2
    | cons c r =>
      intro e
      rw [List.head?_cons] at e
      have := i1 c (by rw [hc]; exact List.mem_cons_self)
      rw [Option.some.inj e] at this
      exact absurd this (by decide)
  have hd : digitsB (Lib.decDigits n.toNat) = true := by
    unfold digitsB
    rw [Bool.and_eq_true, List.all_eq_true]
    exact ⟨by simpa using i2, i1⟩
  unfold ageV
  rw [if_neg hh, if_pos hd, i3]
  congr 1
  rw [Int.min_eq_left (by omega)]; omega
/-! ### Moments -/
theorem week_ok : ∀ k : Nat, k < 7 → (weekN (k : Int)).all (fun c => okB c && !isBl c) = true ∧ weekN (k : Int) ≠ [] := by decide
theorem mon_ok : ∀ k : Nat, k < 12 → (monN ((k : Int) + 1)).all okB = true := by decide
theorem text_facts {f : Fnd} (hf : FndOk f) (hc : cookP f) : toldV (textV (cookN f)) = toldV (textV (cookN f)) ∧ cookP (toldV (textV (cookN f))) ∧ cookN (toldV (textV (cookN f))) = cookN f ∧ trimB (textV (cookN f)) = textV (cookN f) ∧ Clean (textV (cookN f)) ∧ (-9223372036854775808 ≤ cookN f ∧ cookN f ≤ 9223372036854775807) := by
  obtain ⟨hd, -, -, c1, c2, c3⟩ := hc
  have hr := day_range hd
  have e1 : cookN f / 86400 = daysOf (fullY f.y) f.m f.d := by
    unfold cookN; have := hf.s0; have := hf.s1; have := hf.s2; omega
  have ht := textV_of hd e1.symm
  have htl := text_told (n := cookN f / 86400) (s := cookN f % 86400) hd (by omega) (by omega)
  have hfc := full_cook hd e1.symm
  rw [← ht] at htl
  rw [← htl] at hfc
  unfold cookV at hfc
  by_cases hp : cookP (toldV (textV (cookN f)))
  · rw [if_pos hp] at hfc
    injection hfc with hfc
    have hn : cookN (toldV (textV (cookN f))) = cookN f := by
      have := congrArg (fun a : Array Value => a[0]?) hfc
      simpa using this
    have hw := week_ok (cookN f / 86400 % 7).toNat (by omega)
    rw [show (((cookN f / 86400 % 7).toNat : Nat) : Int) = cookN f / 86400 % 7 by omega] at hw
    have hm := mon_ok (f.m - 1).toNat (by have := hd.2.2.1; have := hd.2.2.2.1; omega)
    rw [show (((f.m - 1).toNat : Nat) : Int) + 1 = f.m by have := hd.2.2.1; omega] at hm
    refine ⟨rfl, hp, hn, ?_, ?_, ?_⟩
    · rw [ht]
      refine trim_id ?_ ?_
      · unfold textD
        cases hc : weekN (cookN f / 86400 % 7) with
        | nil => exact absurd hc hw.2
        | cons c r =>
          have := List.all_eq_true.1 hw.1 c (by rw [hc]; exact List.mem_cons_self)
          simp only [List.cons_append]
          exact hok_cons (by rw [Bool.and_eq_true] at this; simpa using this.2)
      · unfold textD
        exact lok_app _ (show Lok [32, 71, 77, 84] from rfl) (by simp)
    · rw [ht]
      have two : ∀ n, Clean (twoL n) := fun n c hc => (dig_clean (two_dig n c hc)).1
      unfold textD clockL
      refine clean_app (clean_app (clean_app (clean_app (clean_app (clean_app (clean_app (clean_app (clean_app ?_ ?_) (two _)) ?_) ?_) ?_) (clean_app (two _) (two _))) ?_) (clean_app (clean_app (clean_app (clean_app (two _) ?_) (two _)) ?_) (two _))) ?_
      · intro c hc
        have := List.all_eq_true.1 hw.1 c hc
        rw [Bool.and_eq_true] at this
        exact okB_iff.1 this.1
      · exact clean_all (by decide)
      · exact clean_all (by decide)
      · exact clean_all hm
      · exact clean_all (by decide)
      · exact clean_all (by decide)
      · exact clean_all (by decide)
      · exact clean_all (by decide)
      · exact clean_all (by decide)
    · have := hf.s0; have := hf.s1; have := hf.s2
      unfold cookN; omega
  · rw [if_neg hp] at hfc
    have := congrArg (fun v : Value => match v with | .tuple a => a[1]? | _ => none) hfc
    simp at this
/-! ### What can be read -/
structure Good (h : Hdr) : Prop where
  nc : Clean h.name
  vc : Clean h.value
  nt : trimB h.name = h.name
  vt : trimB h.value = h.value
  ne : ∀ c ∈ h.name, c ≠ 61
  nz : h.name ++ h.value ≠ []
  nl : h.name.length + h.value.length ≤ 4096
  dc : Clean h.domain
  de : Lok h.domain
  dl : lowL h.domain = h.domain
  dn : (dotV h.domain).length ≤ 1024
  pc : Clean h.path
  pt : trimB h.path = h.path
  ph : h.path = [] ∨ h.path.head? = some 47
  pl : h.path.length ≤ 1024
  ex : if h.hasE = true then cookP (toldV (textV h.exp)) ∧ cookN (toldV (textV h.exp)) = h.exp ∧ trimB (textV h.exp) = textV h.exp ∧ Clean (textV h.exp) ∧ (-9223372036854775808 ≤ h.exp ∧ h.exp ≤ 9223372036854775807) else h.exp = 0
  ag : 0 ≤ h.age ∧ h.age ≤ 34560000 ∧ (h.hasA = false → h.age = 0)
  sm : 0 ≤ h.same ∧ h.same ≤ 3
theorem ageV_bound {s : List UInt8} {n : Int} (h : ageV s = some n) : 0 ≤ n ∧ n ≤ 34560000 := by
  unfold ageV at h
  split at h
  · split at h
    · cases h; decide
    · cases h
  · split at h
    · rename_i hd
      have := (decV_bound s 0 (by decide) (fun c hc => by
        unfold digitsB at hd
        rw [Bool.and_eq_true] at hd
        exact List.all_eq_true.1 hd.2 c hc)).1
      have h2 : min (decV s) 34560000 = n := Option.some.inj h
      have h3 : 0 ≤ decV s := this
      omega
    · cases h
theorem sameN_bound (v : List UInt8) : 0 ≤ sameN v ∧ sameN v ≤ 3 := by unfold sameN; split; decide; split; decide; split <;> decide
theorem dotV_low {v : List UInt8} (hv : trimB v = v) (hl : v.length ≤ 1024) : (dotV (lowL (if v.head? = some 46 then v.drop 1 else v))).length ≤ 1024 := by
  split
  · rename_i h
    have h1 := dotV_len (lowL (v.drop 1))
    have h2 : (lowL (v.drop 1)).length = v.length - 1 := by unfold lowL; simp
    have h3 : 0 < v.length := by cases v with
      | nil => cases h
      | cons => simp
    omega
  · rename_i h
    have h1 : trimB (lowL v) = lowL v := by
      obtain ⟨a, b⟩ := trim_iff.1 hv
      refine trim_id ?_ (lok_low b)
      unfold Hok; rw [dw_low, show v.dropWhile isBl = v from a]
    have h2 : (lowL v).head? ≠ some 46 := by
      intro e
      cases v with
      | nil => cases e
      | cons c v =>
        have e' : lowC c = 46 := Option.some.inj e
        have hall : ∀ n, n < 256 → lowC (UInt8.ofNat n) = 46 → UInt8.ofNat n = 46 := by decide +kernel
        have := hall c.toNat (by have := c.toNat_lt; omega)
        rw [UInt8.ofNat_toNat] at this
        exact h (by rw [this e']; rfl)
    unfold dotV
    rw [if_pos ⟨h1, h2⟩]
    unfold lowL; simpa using hl
theorem attr_good {h : Hdr} (g : Good h) (key : List UInt8) {v : List UInt8} (hv : trimB v = v) (hc : Clean v) (hl : v.length ≤ 1024) : Good (attrV h key v) := by
  unfold attrV
  split
  · split
    · rename_i hk
      have hf : FndOk (toldV v) := told_ok _ fnd0_ok
      obtain ⟨-, h1, h2, h3, h4, h5⟩ := text_facts hf hk
      exact { g with ex := by show if true = true then _ else _; rw [if_pos rfl]; exact ⟨h1, h2, h3, h4, h5⟩ }
    · exact g
  split
  · split
    · rename_i n hn
      have := ageV_bound hn
      exact { g with ag := ⟨this.1, this.2, fun h => by cases h⟩ }
    · exact g
  split
  · refine { g with dc := clean_low ?_, de := lok_low ?_, dl := low_low _, dn := dotV_low hv hl }
    · split
      · exact clean_sub hc fun c hc => List.mem_of_mem_drop hc
      · exact hc
    · have := (trim_iff.1 hv).2
      split
      · cases v with
        | nil => exact this
        | cons c v => exact lok_tail this
      · exact this
  split
  · by_cases h47 : v.head? = some 47
    · rw [if_pos h47]
      exact { g with pc := hc, pt := hv, ph := .inr h47, pl := hl }
    · rw [if_neg h47]
      exact { g with pc := clean_nil, pt := rfl, ph := .inl rfl, pl := (show ([] : List UInt8).length ≤ 1024 by decide) }
  split
  · exact { g with }
  split
  · exact { g with }
  split
  · exact { g with sm := sameN_bound v }
  · exact g
theorem trim_trim (s : List UInt8) : trimB (trimB s) = trimB s := trim_iff.2 ⟨trim_hok s, trim_lok s⟩
theorem step_good {h : Hdr} (g : Good h) {x : List UInt8} (hc : Clean x) : Good (stepA h x) := by
  unfold stepA
  split
  · rename_i hl
    exact attr_good g _ (trim_trim _) (clean_after hc) hl
  · exact g
theorem fold_good : ∀ (l : List (List UInt8)) {h : Hdr}, Good h → (∀ x ∈ l, Clean x) → Good (l.foldl stepA h)
  | [], _, g, _ => g
  | x :: l, _, g, hc => fold_good l (step_good g (hc x List.mem_cons_self)) fun y hy => hc y (List.mem_cons_of_mem _ hy)
/-- what was read can be read again -/
theorem parse_good {s : List UInt8} {h : Hdr} (hp : parseH s = (h, 0)) : Good h := by
  unfold parseH at hp
  split at hp
  · cases hp
  split at hp
  · cases hp
  split at hp
  · cases hp
  rename_i h1 h2 h3
  obtain ⟨rfl, -⟩ := Prod.mk.inj hp
  have hcs : ∀ x ∈ cutC 59 [] s, Clean x := fun x hx c hc => by
    obtain ⟨k1, k2⟩ := cutC_mem 59 s [] x hx (fun _ h => by cases h) c hc
    refine ⟨?_, k2⟩
    rcases k1 with k1 | k1
    · cases k1
    · cases hcc : isCtl c
      · rfl
      · exact absurd (List.any_eq_true.2 ⟨c, k1, hcc⟩) h1
  have hx0 : Clean ((cutC 59 [] s).headD []) := by
    have := cutC_ne 59 s []
    cases hcc : cutC 59 [] s with
    | nil => exact absurd hcc this
    | cons x l => exact hcs x (by rw [hcc]; exact List.mem_cons_self)
  refine fold_good _ ?_ fun x hx => hcs x (List.mem_of_mem_drop hx)
  generalize (cutC 59 [] s).headD [] = x at *
  have hn : Clean (nameOf x).1 ∧ Clean (nameOf x).2 ∧ trimB (nameOf x).1 = (nameOf x).1 ∧ trimB (nameOf x).2 = (nameOf x).2 ∧ ∀ c ∈ (nameOf x).1, c ≠ 61 := by
    unfold nameOf
    split
    · refine ⟨clean_ahead hx0, clean_after hx0, trim_trim _, trim_trim _, fun c hc => ?_⟩
      have h1 : c ∈ x.takeWhile (· != 61) := stripB_mem _ _ c hc
      have := List.all_eq_true.1 (List.all_takeWhile (p := (· != (61 : UInt8))) (l := x)) c h1
      simpa using this
    · exact ⟨clean_nil, clean_ahead hx0, rfl, trim_trim _, fun c hc => by cases hc⟩
  exact { nc := hn.1, vc := hn.2.1, nt := hn.2.2.1, vt := hn.2.2.2.1, ne := hn.2.2.2.2, nz := h2, nl := by show (nameOf x).1.length + (nameOf x).2.length ≤ 4096; omega,
          dc := clean_nil, de := rfl, dl := rfl, dn := by show (dotV []).length ≤ 1024; decide, pc := clean_nil, pt := rfl, ph := .inl rfl, pl := (show ([] : List UInt8).length ≤ 1024 by decide), ex := rfl, ag := ⟨Int.le_refl 0, (show (0 : Int) ≤ 34560000 by decide), fun _ => rfl⟩, sm := ⟨Int.le_refl 0, (show (0 : Int) ≤ 3 by decide)⟩ }
end Go.Pk
