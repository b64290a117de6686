/- Contracts of age and attribute. Its conditions: none. -/
import Derived.Test.YtmlcilfcaogdcaaGreatDoorHdrB
set_option linter.unusedVariables false
set_option linter.unusedSimpArgs false
set_option maxRecDepth 20000
namespace Go.Pk
open Go.RowKit (Below)
/-- so many seconds, as far as they may go -/
def ageV (s : List UInt8) : Option Int := if s.head? = some 45 then (if digitsB (s.drop 1) then some 0 else none) else if digitsB s then some (min (decV s) 34560000) else none
theorem pre_byte (s : List UInt8) (c : UInt8) : Lib.hasPrefix s [c] = decide (s.head? = some c) ∧ Lib.trimPrefix s [c] = if s.head? = some c then s.drop 1 else s := by
  cases s with
  | nil => exact ⟨by simp [Lib.hasPrefix], rfl⟩
  | cons x s =>
    by_cases h : x = c
    · subst h
      have ht : Lib.hasPrefix (x :: s) [x] = true := by simp [Lib.hasPrefix, List.isPrefixOf]
      refine ⟨by rw [ht]; simp, ?_⟩
      unfold Lib.trimPrefix; rw [ht]; simp
    · have hf : Lib.hasPrefix (x :: s) [c] = false := by simp [Lib.hasPrefix, List.isPrefixOf, Ne.symm h]
      refine ⟨by rw [hf]; simp [h], ?_⟩
      unfold Lib.trimPrefix; rw [hf]; simp [h]
theorem dw_nil (p : UInt8 → Bool) : ∀ s : List UInt8, s.dropWhile p = [] ↔ s.all p = true
  | [] => by simp
  | x :: s => by
    rw [List.dropWhile_cons, List.all_cons]
    cases h : p x with
    | true => rw [if_pos rfl, Bool.true_and]; exact dw_nil p s
    | false => simp
theorem dec_zeros : ∀ (l : List UInt8) (acc : Int), l.foldl (fun n c => n * 10 + ((c.toNat : Int) - 48)) acc = (l.dropWhile (· == 48)).foldl (fun n c => n * 10 + ((c.toNat : Int) - 48)) acc ∨ acc ≠ 0
  | [], acc => .inl rfl
  | c :: l, acc => by
    by_cases ha : acc = 0
    · subst ha
      left
      rw [List.dropWhile_cons]
      split
      · rename_i h
        have : c = 48 := by simpa using h
        subst this
        rw [List.foldl_cons]
        have e : (0 : Int) * 10 + (((48 : UInt8).toNat : Int) - 48) = 0 := by decide
        rw [e]
        rcases dec_zeros l 0 with h | h
        · exact h
        · exact absurd rfl h
      · rfl
    · exact .inr ha
theorem decV_zeros (l : List UInt8) : decV l = decV (l.dropWhile (· == 48)) := by
  rcases dec_zeros l 0 with h | h
  · exact h
  · exact absurd rfl h
theorem dec_low : ∀ (l : List UInt8) (acc : Int), 0 ≤ acc → (∀ c ∈ l, isDig c = true) → acc * 10 ^ l.length ≤ l.foldl (fun n c => n * 10 + ((c.toNat : Int) - 48)) acc
  | [], acc, h, _ => by simp
  | c :: l, acc, h, hd => by
    have hc := isDig_iff.1 (hd c List.mem_cons_self)
    have h1 := dec_low l (acc * 10 + ((c.toNat : Int) - 48)) (by omega) fun x hx => hd x (List.mem_cons_of_mem _ hx)
    rw [List.foldl_cons]
    refine Int.le_trans ?_ h1
    rw [List.length_cons, Int.pow_succ, Int.mul_comm (10 ^ l.length) 10, ← Int.mul_assoc]
    exact Int.mul_le_mul_of_nonneg_right (by omega) (Int.pow_nonneg (by decide))
theorem decV_big {l : List UInt8} (hd : ∀ c ∈ l, isDig c = true) (h0 : l.head? ≠ some 48) (hl : 19 ≤ l.length) : 34560000 < decV l := by
  match l, hl with
  | c :: r, hl =>
    have hc := isDig_iff.1 (hd c List.mem_cons_self)
    have hne : c.toNat ≠ 48 := fun e => h0 (by have : c = 48 := UInt8.toNat_inj.1 e; rw [this]; rfl)
    have h1 := dec_low r (0 * 10 + ((c.toNat : Int) - 48)) (by omega) fun x hx => hd x (List.mem_cons_of_mem _ hx)
    have h2 : decV (c :: r) = r.foldl (fun n c => n * 10 + ((c.toNat : Int) - 48)) (0 * 10 + ((c.toNat : Int) - 48)) := rfl
    rw [h2]
    have h3 : (10 : Int) ^ 18 ≤ 10 ^ r.length := pow10_le (by simp at hl; omega)
    have e18 : (10 : Int) ^ 18 = 1000000000000000000 := by decide
    have h4 : (1 : Int) * 10 ^ r.length ≤ (0 * 10 + ((c.toNat : Int) - 48)) * 10 ^ r.length := Int.mul_le_mul_of_nonneg_right (by omega) (Int.pow_nonneg (by decide))
    omega
structure Hdr where
  name : List UInt8
  value : List UInt8
  domain : List UInt8
  path : List UInt8
  hasE : Bool
  exp : Int
  hasA : Bool
  age : Int
  sec : Bool
  http : Bool
  same : Int
def Hdr.cells (h : Hdr) : List Value := [.string (mkS h.name), .string (mkS h.value), .string (mkS h.domain), .string (mkS h.path), .bool h.hasE, .int .i64 h.exp, .bool h.hasA, .int .i64 h.age, .bool h.sec, .bool h.http, .int .i64 h.same]
def Hdr.v (h : Hdr) : Value := .agg h.cells.toArray
def hdr0 : Hdr := ⟨[], [], [], [], false, 0, false, 0, false, false, 0⟩
def sameN (v : List UInt8) : Int := if lowL v = [110, 111, 110, 101] then 1 else if lowL v = [108, 97, 120] then 2 else if lowL v = [115, 116, 114, 105, 99, 116] then 3 else 0
/-- what one attribute says -/
def attrV (h : Hdr) (key value : List UInt8) : Hdr :=
  if key = [101, 120, 112, 105, 114, 101, 115] then (if cookP (toldV value) then { h with hasE := true, exp := cookN (toldV value) } else h)
  else if key = [109, 97, 120, 45, 97, 103, 101] then (match ageV value with | some n => { h with hasA := true, age := n } | none => h)
  else if key = [100, 111, 109, 97, 105, 110] then { h with domain := lowL (if value.head? = some 46 then value.drop 1 else value) }
  else if key = [112, 97, 116, 104] then { h with path := if value.head? = some 47 then value else [] }
  else if key = [115, 101, 99, 117, 114, 101] then { h with sec := true }
  else if key = [104, 116, 116, 112, 111, 110, 108, 121] then { h with http := true }
  else if key = [115, 97, 109, 101, 115, 105, 116, 101] then { h with same := sameN value }
  else h
theorem ArrAt.put {P : Program} {u : TypeId} {bytes : Nat} {z : Value} (tf : TF P u 1 bytes z) {w : World} {k : Nat} {t : TypeId} {vs : List Value} (h : ArrAt w k t vs) {i : Nat} {v : Value} (hi : i < vs.length) (h1 : v.oneCell' = true) (hc : v.cells = #[v]) :
    ∃ w', (Instr.storeAt u (.pointer (some ⟨k, i, none⟩)) v).run P w = .ok () w' ∧ ArrAt w' k t (vs.set i v) ∧ w.grownBy w' (some k) := by
  obtain ⟨w', hs, ha, hg⟩ := h.store tf (i := i) (v := v) (by rw [hc]; rfl) (by omega) (by rw [hc]; intro c hcc; simp at hcc; subst hcc; exact h1)
  refine ⟨w', hs, ?_, hg⟩
  rw [hc] at ha
  have : vs.set i v = vs.take i ++ [v] ++ vs.drop (i + 1) := by
    rw [List.set_eq_take_append_cons_drop, if_pos hi]; simp
  rw [this]; exact ha
end Go.Pk
namespace Go.Proofs.YtmlcilfcaogdcaaGreatDoor
open Go.Pk
open Go.RowKit (Below)
theorem cutPre_ok (s : List UInt8) (c : UInt8) (w : World) : Calls Tryz.prog f_strings_CutPrefix #[.string (mkS s), .string (mkS [c])] w (Ret fun v w' => v = .tuple #[.string (mkS (if s.head? = some c then s.drop 1 else s)), .bool (decide (s.head? = some c))] ∧ w' = w) := by
  refine (Tryz.strings_CutPrefix (mkS s) (mkS [c]) w).mono ?_
  rintro _ _ ⟨rfl, rfl⟩
  refine ⟨_, rfl, ?_, rfl⟩
  have h := pre_byte s c
  have e : (mkS s).data.toList = s := rfl
  have e2 : (mkS [c]).data.toList = [c] := rfl
  rw [e, e2, h.1]
  by_cases hc : s.head? = some c
  · rw [if_pos hc]
    have h2 := h.2
    rw [if_pos hc] at h2
    rw [h2]; rfl
  · rw [if_neg hc]
    have h2 := h.2
    rw [if_neg hc] at h2
    rw [h2]; rfl
def ageT (s : List UInt8) : Value := match ageV s with | some n => .tuple #[.int .i64 n, .bool true] | none => .tuple #[.int .i64 0, .bool false]
theorem header_age_ok (s : List UInt8) (hs : s.length ≤ 1000000) (w : World) : Calls Tryz.prog f_header_age #[.string (mkS s)] w (Ret fun v w' => v = ageT s ∧ Below w.heap.size w w') := by
  apply run_header_age
  unfold vc_header_age
  refine callK (cutPre_ok s 45 w) ?_
  rintro _ w ⟨rfl, rfl⟩
  refine ⟨_, _, rfl, ?_⟩
  have hl : (if s.head? = some 45 then s.drop 1 else s).length ≤ s.length := by split <;> simp
  refine callK (octet_Digits_ok _ (by omega) w) ?_
  rintro _ w1 ⟨rfl, hb1⟩
  refine ⟨_, rfl, ?_⟩
  by_cases h45 : s.head? = some 45
  · rw [if_pos h45, decide_eq_true h45]
    unfold ageT ageV
    rw [if_pos h45]
    cases hd : digitsB (s.drop 1)
    · exact BCase.yes rfl ⟨rfl, hb1⟩
    · exact BCase.no rfl (BCase.yes rfl ⟨rfl, hb1⟩)
  · rw [if_neg h45, decide_eq_false h45]
    unfold ageT ageV
    rw [if_neg h45]
    cases hd : digitsB s
    · exact BCase.yes rfl ⟨rfl, hb1⟩
    · refine BCase.no rfl (BCase.no rfl ?_)
      refine (Tryz.strings_TrimLeft_one (mkS s) 48 (by decide) w1).mono ?_
      rintro _ _ ⟨rfl, rfl⟩
      have e : Lib.trimLeftB (mkS s).data.toList 48 = s.dropWhile (· == 48) := rfl
      rw [e]
      refine ⟨s.dropWhile (· == 48), rfl, ?_⟩
      have hall : ∀ c ∈ s, isDig c = true := fun c hc => by
        unfold digitsB at hd
        rw [Bool.and_eq_true] at hd
        exact List.all_eq_true.1 hd.2 c hc
      have hsub := List.dropWhile_sublist (fun c : UInt8 => c == 48) (l := s)
      have hall2 : ∀ c ∈ s.dropWhile (· == 48), isDig c = true := fun c hc => hall c (hsub.subset hc)
      have hhead : (s.dropWhile (· == 48)).head? ≠ some 48 := fun e => by
        have := List.head?_dropWhile_not (fun c : UInt8 => c == 48) s
        rw [e] at this
        simp at this
      have hlen := hsub.length_le
      have hz := decV_zeros s
      refine callK (octet_Number_ok _ (by omega) _) ?_
      rintro _ w3 ⟨rfl, hb3⟩
      have hb13 := below_step hb1 hb3 hb1.size
      rw [hz]
      have htrim : (s.dropWhile (· == 48) = []) ↔ s.all (· == 48) = true := by
        exact dw_nil _ s
      generalize s.dropWhile (· == 48) = t at *
      have hbd := decV_bound t 0 (by decide) hall2
      have hge : 0 ≤ decV t := hbd.1
      by_cases hn : numP t
      · rw [if_pos hn]
        refine ⟨_, _, rfl, BCase.no rfl ?_⟩
        refine BCase.of (fun h => ?_) (fun h => ?_) <;> simp only [gt_iff_lt, decide_eq_true_eq, decide_eq_false_iff_not] at h
        · exact ⟨by rw [if_pos rfl]; simp only []; rw [Int.min_eq_right (by omega)], hb13⟩
        · exact ⟨by rw [if_pos rfl]; simp only []; rw [Int.min_eq_left (by omega)], hb13⟩
      · rw [if_neg hn]
        refine ⟨_, _, rfl, BCase.yes rfl ?_⟩
        refine (Tryz.strings_Trim_one (mkS s) 48 (by decide) w3 (by show s.length ≤ _; omega)).mono ?_
        rintro _ w4 ⟨rfl, hw4⟩
        have hb4 : Below w3.heap.size w3 w4 := by
          rcases hw4 with rfl | rfl
          · exact Below.refl _ _
          · exact below_drew _
        have hb14 := below_step hb13 hb4 hb13.size
        have e2 : Lib.trimB (mkS s).data.toList 48 = stripB (· == 48) s := strip_comm _ s
        rw [e2]
        refine ⟨stripB (· == 48) s, rfl, ?_⟩
        by_cases ht : t = []
        · have hst : stripB (· == 48) s = [] := (stripB_nil_iff _ s).2 (htrim.1 ht)
          rw [hst]
          refine BCase.no rfl (BCase.no rfl ⟨?_, hb14⟩)
          rw [ht, if_pos rfl]; rfl
        · have hst : stripB (· == 48) s ≠ [] := fun e => ht (htrim.2 ((stripB_nil_iff _ s).1 e))
          have hdt : digitsB t = true := by
            unfold digitsB
            rw [Bool.and_eq_true]
            exact ⟨by simpa using ht, List.all_eq_true.2 hall2⟩
          have hbig : 34560000 < decV t := decV_big hall2 hhead (by
            by_cases c : t.length ≤ 18
            · exact absurd ⟨hdt, c, fun h => hhead h.1⟩ hn
            · omega)
          refine BCase.yes (by simpa using hst) ⟨?_, hb14⟩
          rw [if_pos rfl]; simp only []; rw [Int.min_eq_right (by omega)]
theorem ref08_age_ok (s : List UInt8) (hs : s.length ≤ 1000000) (w : World) : Calls Tryz.prog f_ref08_age #[.string (mkS s)] w (Ret fun v w' => v = ageT s ∧ w' = w) := by
  apply run_ref08_age
  unfold vc_ref08_age
  refine factJ (w := w) (¬ s.head? = some 45) ?_ ?_
  · refine boolJ (w := w) (decide (s.head? = some 45)) ?_ ?_
    · refine BCase.of (fun h => ?_) (fun h => ?_) <;> simp only [gt_iff_lt, decide_eq_true_eq, decide_eq_false_iff_not] at h
      · match s, h with
        | c :: r, h =>
          refine ⟨⟨by decide, h⟩, rfl, ?_⟩
          have hx : byteAt (c :: r) 0 = ((c.toNat : Nat) : Int) := rfl
          rw [hx]
          have e45 := u8_eq c 45
          rw [show ((((c.toNat : Nat) : Int)) == (45 : Int)) = (c == 45) from e45]
          simp
          rw [Bool.eq_iff_iff]; simp
      · have : s = [] := List.eq_nil_of_length_eq_zero (by omega)
        subst this
        exact ⟨rfl, rfl⟩
    · refine BCase.of (fun h => ?_) (fun h => ?_) <;> simp only [decide_eq_true_eq, decide_eq_false_iff_not] at h
      · have hl : 1 ≤ s.length := by
          cases s with
          | nil => cases h
          | cons c r => simp
        refine ⟨⟨by decide, by omega⟩, ?_⟩
        rintro _ rfl
        have e1 : Int.toNat (1 : Int) = 1 := rfl
        rw [e1]
        refine callK (ref01_Digits_ok (s.drop 1) (by simp; omega) w) ?_
        rintro _ w ⟨rfl, rfl⟩
        refine ⟨_, rfl, ?_, rfl⟩
        unfold ageT ageV
        rw [if_pos h]
        cases digitsB (s.drop 1) <;> rfl
      · exact ⟨rfl, h⟩
  · intro h45
    refine callK (ref01_Digits_ok s (by omega) w) ?_
    rintro _ w ⟨rfl, rfl⟩
    refine ⟨_, rfl, ?_⟩
    unfold ageT ageV
    rw [if_neg h45]
    cases hd : digitsB s
    · exact BCase.yes rfl ⟨rfl, rfl⟩
    · refine BCase.no rfl ?_
      have hall : ∀ c ∈ s, isDig c = true := fun c hc => by
        unfold digitsB at hd
        rw [Bool.and_eq_true] at hd
        exact List.all_eq_true.1 hd.2 c hc
      refine ⟨fun m n i w' => ∃ k : Nat, k ≤ s.length ∧ i = (k : Int) ∧ m = s.length - k ∧ n = min (decV (s.take k)) 34560000 ∧ w' = w, ⟨_, 0, by omega, rfl, rfl, rfl, rfl⟩, ?_⟩
      intro m n i
      refine AllJ.of ?_ _
      rintro w' ⟨k, hk, rfl, rfl, rfl, rfl⟩
      refine BCase.of (fun h => ?_) (fun h => ?_) <;> simp only [decide_eq_true_eq, decide_eq_false_iff_not] at h
      · have hlt : k < s.length := by omega
        have hc := isDig_iff.1 (hall s[k] (List.getElem_mem hlt))
        have hge := (decV_bound (s.take k) 0 (by decide) fun c hc => hall c (List.mem_of_mem_take hc)).1
        have hge' : 0 ≤ decV (s.take k) := hge
        have hsn : decV (s.take (k + 1)) = decV (s.take k) * 10 + ((s[k].toNat : Int) - 48) := by rw [List.take_succ_eq_append_getElem hlt, decV_snoc]
        rw [byte_at hlt]
        generalize hD : decV (s.take k) = D at *
        have hm1 : min D 34560000 ≤ 34560000 := Int.min_le_right _ _
        have hm2 : 0 ≤ min D 34560000 := by rw [Int.min_def]; split <;> omega
        rw [wrap_i64 (n := min D 34560000 * 10) (by omega) (by omega), wrap_i64 (n := ((s[k].toNat : Nat) : Int)) (by omega) (by omega), wrap_i64 (n := min D 34560000 * 10 + ((s[k].toNat : Nat) : Int)) (by omega) (by omega), wrap_i64 (n := min D 34560000 * 10 + ((s[k].toNat : Nat) : Int) - 48) (by omega) (by omega), wrap_i64 (n := (k : Int) + 1) (by omega) (by omega)]
        refine ⟨⟨by omega, h⟩, ?_⟩
        refine BCase.of (fun h2 => ?_) (fun h2 => ?_) <;> simp only [gt_iff_lt, decide_eq_true_eq, decide_eq_false_iff_not] at h2
        · refine ⟨s.length - (k + 1), by omega, k + 1, by omega, by omega, rfl, ?_, rfl⟩
          rw [hsn]
          rw [Int.min_def] at h2
          rw [Int.min_def]
          split at h2 <;> split <;> omega
        · refine ⟨s.length - (k + 1), by omega, k + 1, by omega, by omega, rfl, ?_, rfl⟩
          rw [hsn]
          rw [Int.min_def] at h2
          rw [Int.min_def, Int.min_def]
          split at h2 <;> split <;> omega
      · have : k = s.length := by omega
        subst this
        rw [List.take_length]
        exact ⟨rfl, rfl⟩
end Go.Proofs.YtmlcilfcaogdcaaGreatDoor
