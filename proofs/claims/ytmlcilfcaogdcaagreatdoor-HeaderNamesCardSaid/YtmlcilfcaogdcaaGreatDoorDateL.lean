/- Plain laws of cookies' dates: the tokens of a text, what they tell. Its conditions: none. -/
import Derived.Test.YtmlcilfcaogdcaaGreatDoorDateK
set_option linter.unusedVariables false
set_option linter.unusedSimpArgs false
namespace Go.Pk
def isPart (c : UInt8) : Bool := decide (partsP (c.toNat : Int))
/-- the tokens of a text, the empty ones too; 'cur': what there is of the first one -/
def cutP : List UInt8 → List UInt8 → List (List UInt8)
  | cur, [] => [cur]
  | cur, c :: r => if isPart c then cur :: cutP [] r else cutP (cur ++ [c]) r
def fnd0 : Fnd := ⟨false, false, false, false, 0, 0, 0, 0, 0, 0⟩
def toldV (s : List UInt8) : Fnd := (cutP [] s).foldl tokV fnd0
def fullY (y : Int) : Int := if 70 ≤ y ∧ y ≤ 99 then y + 1900 else if y < 70 then y + 2000 else y
def cookP (f : Fnd) : Prop := isDate (fullY f.y) f.m f.d ∧ f.time = true ∧ f.year = true ∧ f.s0 ≤ 23 ∧ f.s1 ≤ 59 ∧ f.s2 ≤ 59
instance (f : Fnd) : Decidable (cookP f) := by unfold cookP; infer_instance
def cookN (f : Fnd) : Int := daysOf (fullY f.y) f.m f.d * 86400 + f.s0 * 3600 + f.s1 * 60 + f.s2
def cookV (f : Fnd) : Value := if cookP f then .tuple #[.int .i64 (cookN f), .bool true] else .tuple #[.int .i64 0, .bool false]

/-- what tokens can have told -/
structure FndOk (f : Fnd) : Prop where
  s0 : 0 ≤ f.s0 ∧ f.s0 ≤ 99
  s1 : 0 ≤ f.s1 ∧ f.s1 ≤ 99
  s2 : 0 ≤ f.s2 ∧ f.s2 ≤ 99
  y : 0 ≤ f.y ∧ f.y ≤ 9999
  d : 0 ≤ f.d ∧ f.d ≤ 99
  m : 0 ≤ f.m ∧ f.m ≤ 12
  m0 : f.month = false ↔ f.m = 0
  d0 : f.day = false → f.d = 0
  y0 : f.year = false → f.y = 0
theorem decV_bound : ∀ (l : List UInt8) (acc : Int), 0 ≤ acc → (∀ c ∈ l, isDig c = true) → 0 ≤ l.foldl (fun n c => n * 10 + ((c.toNat : Int) - 48)) acc ∧ l.foldl (fun n c => n * 10 + ((c.toNat : Int) - 48)) acc < (acc + 1) * 10 ^ l.length
  | [], acc, h, _ => by simp; omega
  | c :: l, acc, h, hd => by
    have hc := isDig_iff.1 (hd c List.mem_cons_self)
    obtain ⟨h1, h2⟩ := decV_bound l (acc * 10 + ((c.toNat : Int) - 48)) (by omega) fun x hx => hd x (List.mem_cons_of_mem _ hx)
    rw [List.foldl_cons]
    refine ⟨h1, Int.lt_of_lt_of_le h2 ?_⟩
    rw [List.length_cons, Int.pow_succ, Int.mul_comm (10 ^ l.length) 10, ← Int.mul_assoc]
    exact Int.mul_le_mul_of_nonneg_right (by omega) (Int.pow_nonneg (by decide))
theorem pow10_le {a b : Nat} (h : a ≤ b) : (10 : Int) ^ a ≤ 10 ^ b := by
  have := Nat.pow_le_pow_right (n := 10) (by decide) h
  have e : ∀ k : Nat, ((10 ^ k : Nat) : Int) = 10 ^ k := fun k => by simp
  rw [← e, ← e]; omega
theorem decV_le {s : List UInt8} (k : Nat) (h : (digP s).length ≤ k) : 0 ≤ decV (digP s) ∧ decV (digP s) < 10 ^ k := by
  obtain ⟨h1, h2⟩ := decV_bound (digP s) 0 (by decide) digP_all
  refine ⟨h1, Int.lt_of_lt_of_le h2 ?_⟩
  rw [Int.zero_add, Int.one_mul]
  exact pow10_le h
theorem clockFrom_ok : ∀ (f i : Nat) (s : List UInt8) (l : List Int), clockFrom f i s = some l → l.length = f ∧ ∀ x ∈ l, 0 ≤ x ∧ x ≤ 99
  | 0, i, s, l, h => by simp [clockFrom] at h; subst h; simp
  | f + 1, i, s, l, h => by
    unfold clockFrom at h
    cases hs : stepC i s with
    | none => rw [hs] at h; cases h
    | some p =>
      rw [hs] at h
      simp only [Option.bind_some] at h
      cases hr : clockFrom f (i + 1) p.2 with
      | none => rw [hr] at h; cases h
      | some r =>
        rw [hr] at h
        simp only [Option.map_some, Option.some.injEq] at h
        subst h
        obtain ⟨h1, h2⟩ := clockFrom_ok f (i + 1) p.2 r hr
        refine ⟨by simp [h1], fun x hx => ?_⟩
        rcases List.mem_cons.1 hx with rfl | hx
        · unfold stepC at hs
          cases hc : colon i s with
          | none => rw [hc] at hs; cases hs
          | some t =>
            rw [hc] at hs
            simp only [Option.bind_some] at hs
            split at hs
            · rename_i hd
              simp only [Option.some.injEq] at hs
              subst hs
              have := decV_le 2 hd.2
              simp only; omega
            · cases hs
        · exact h2 x hx
theorem monthFrom_le (s : List UInt8) : ∀ (f k : Nat), 0 ≤ monthFrom s f k ∧ monthFrom s f k ≤ (k : Int) + f
  | 0, k => by simp [monthFrom]
  | f + 1, k => by
    unfold monthFrom
    have := monthFrom_le s f (k + 1)
    split <;> omega
theorem tokV_cases (f : Fnd) (s : List UInt8) : (∃ a b c, clockV s = some [a, b, c] ∧ f.time = false ∧ tokV f s = { f with s0 := a, s1 := b, s2 := c, time := true }) ∨
    (clockV s = none ∨ f.time = true) ∧ tokV f s = if numOk s 1 2 = true ∧ f.day = false then { f with d := decV (digP s), day := true }
    else if 0 < monthV s ∧ f.month = false then { f with m := monthV s, month := true }
    else if numOk s 2 4 = true ∧ f.year = false then { f with y := decV (digP s), year := true } else f := by
  cases hc : clockV s with
  | none => right; refine ⟨.inl rfl, ?_⟩; unfold tokV; rw [hc]
  | some l =>
    obtain ⟨hl, _⟩ := clockFrom_ok 3 0 s l hc
    match l, hl with
    | [a, b, c], _ =>
      cases ht : f.time with
      | false => left; refine ⟨a, b, c, rfl, rfl, ?_⟩; unfold tokV; rw [hc, ht]
      | true =>
        right; refine ⟨.inr rfl, ?_⟩; unfold tokV; rw [hc, ht]
theorem tokV_ok {f : Fnd} (h : FndOk f) (s : List UInt8) : FndOk (tokV f s) := by
  rcases tokV_cases f s with ⟨a, b, c, hc, ht, e⟩ | ⟨_, e⟩
  · rw [e]
    obtain ⟨_, hr⟩ := clockFrom_ok 3 0 s _ hc
    exact ⟨hr a (by simp), hr b (by simp), hr c (by simp), h.y, h.d, h.m, h.m0, h.d0, h.y0⟩
  · rw [e]
    split
    · rename_i h1
      have hn : (digP s).length ≤ 2 := by have := h1.1; unfold numOk at this; simp at this; omega
      have := decV_le 2 hn
      exact ⟨h.s0, h.s1, h.s2, h.y, ⟨this.1, by simp only; omega⟩, h.m, h.m0, (fun e => by cases e), h.y0⟩
    · split
      · rename_i h1
        have := monthFrom_le s 12 0
        have h2 := h1.1
        unfold monthV at h2 ⊢
        refine ⟨h.s0, h.s1, h.s2, h.y, h.d, ⟨by simp only; omega, by simp only; omega⟩, ⟨(fun e => by cases e), fun e => ?_⟩, h.d0, h.y0⟩
        simp only at e; omega
      · split
        · rename_i h1
          have hn : (digP s).length ≤ 4 := by have := h1.1; unfold numOk at this; simp at this; omega
          have := decV_le 4 hn
          exact ⟨h.s0, h.s1, h.s2, ⟨this.1, by simp only; omega⟩, h.d, h.m, h.m0, h.d0, fun e => by cases e⟩
        · exact h
theorem fnd0_ok : FndOk fnd0 := ⟨by decide, by decide, by decide, by decide, by decide, by decide, by decide, by decide, by decide⟩
theorem told_ok : ∀ (l : List (List UInt8)) {f : Fnd}, FndOk f → FndOk (l.foldl tokV f)
  | [], f, h => h
  | s :: l, f, h => told_ok l (tokV_ok h s)
theorem tokV_nil (f : Fnd) : tokV f [] = f := by
  rcases tokV_cases f [] with ⟨a, b, c, hc, _⟩ | ⟨_, e⟩
  · have : clockV [] = none := by decide
    rw [this] at hc; cases hc
  · rw [e, if_neg (fun h => by have : numOk [] 1 2 = false := by decide
                               rw [this] at h; cases h.1),
      if_neg (fun h => by have : monthV [] = 0 := by decide
                          rw [this] at h; exact absurd h.1 (by decide)),
      if_neg (fun h => by have : numOk [] 2 4 = false := by decide
                          rw [this] at h; cases h.1)]
theorem cutP_len : ∀ (s cur x : List UInt8), x ∈ cutP cur s → x.length ≤ cur.length + s.length
  | [], cur, x, h => by simp [cutP] at h; subst h; simp
  | c :: r, cur, x, h => by
    unfold cutP at h
    split at h
    · rcases List.mem_cons.1 h with rfl | h
      · simp
      · have := cutP_len r [] x h; simp at this ⊢; omega
    · have := cutP_len r _ x h; simp at this ⊢; omega
theorem cook_days {f : Fnd} (h : isDate (fullY f.y) f.m f.d) : -134774 ≤ daysOf (fullY f.y) f.m f.d ∧ daysOf (fullY f.y) f.m f.d ≤ 2932896 := by
  have hh := day_in h
  obtain ⟨h1, h2, h3, h4, h5, h6⟩ := h
  have e1 := dY_mono (a := 1601) (b := fullY f.y) (by omega) h1
  have e2 := dY_mono (a := fullY f.y + 1) (b := 10000) (by omega) (by omega)
  have e3 : dY 1601 = 584388 := by decide
  have e4 : dY 10000 = 3652059 := by decide
  omega
end Go.Pk
