/- Contracts of the document's Trim, Digits, Split, cut, ahead, after; of pair, control. Its conditions: none. -/
import Derived.Test.YtmlcilfcaogdcaaGreatDoorHdrA
set_option linter.unusedVariables false
set_option linter.unusedSimpArgs false
set_option maxRecDepth 20000
namespace Go.Pk
open Go.RowKit (Below)
theorem take_last {s : List UInt8} (h : 0 < s.length) : s = s.take (s.length - 1) ++ [s[s.length - 1]] := by
  conv => lhs; rw [← List.take_length (l := s)]
  have : s.length = (s.length - 1) + 1 := by omega
  conv => lhs; rw [this, List.take_succ_eq_append_getElem (by omega)]
def aheadL (s : List UInt8) : List UInt8 := trimB (s.takeWhile (· != 61))
def afterL (s : List UInt8) : List UInt8 := trimB ((s.dropWhile (· != 61)).drop 1)
def hasEq (s : List UInt8) : Bool := decide ((61 : UInt8) ∈ s)
theorem ne61 (c : UInt8) : ((c != 61) = true) ↔ c ≠ 61 := by simp
theorem tw_take (p : UInt8 → Bool) (s : List UInt8) : s.take (s.takeWhile p).length = s.takeWhile p := by
  have h : (s.takeWhile p ++ s.dropWhile p).take (s.takeWhile p).length = s.takeWhile p := List.take_left' rfl
  rwa [List.takeWhile_append_dropWhile] at h
theorem tw_drop (p : UInt8 → Bool) (s : List UInt8) : s.drop (s.takeWhile p).length = s.dropWhile p := by
  have h : (s.takeWhile p ++ s.dropWhile p).drop (s.takeWhile p).length = s.dropWhile p := List.drop_left' rfl
  rwa [List.takeWhile_append_dropWhile] at h
theorem no_eq {s : List UInt8} (h : (61 : UInt8) ∉ s) : s.takeWhile (· != 61) = s ∧ s.dropWhile (· != 61) = [] := by
  have hp : ∀ x ∈ s, (x != 61) = true := fun x hx => (ne61 x).2 fun e => h (e ▸ hx)
  have h1 : s.takeWhile (· != 61) = s := by
    have := List.takeWhile_append_of_pos (p := (· != 61)) (l₁ := s) (l₂ := []) hp
    simpa using this
  have h2 := List.takeWhile_append_dropWhile (p := (· != (61 : UInt8))) (l := s)
  refine ⟨h1, ?_⟩
  rw [h1] at h2
  exact List.append_cancel_left (h2.trans (List.append_nil s).symm)
theorem has_eq_lt {s : List UInt8} (h : (61 : UInt8) ∈ s) : (s.takeWhile (· != 61)).length < s.length := by
  have h1 := takeWhile_le (· != (61 : UInt8)) s
  by_cases c : (s.takeWhile (· != 61)).length = s.length
  · have e : s.takeWhile (· != 61) = s := (List.takeWhile_sublist _).eq_of_length c
    have := List.all_takeWhile (p := (· != (61 : UInt8))) (l := s)
    rw [e] at this
    have := List.all_eq_true.1 this 61 h
    simp at this
  · omega
def isCtl (c : UInt8) : Bool := (decide (c.toNat < 32) && !(c == 9)) || c == 127
end Go.Pk
namespace Go.Proofs.YtmlcilfcaogdcaaGreatDoor
open Go.Pk
open Go.RowKit (Below)
theorem u8_eq (c n : UInt8) : ((((c.toNat : Nat) : Int)) == ((n.toNat : Nat) : Int)) = (c == n) := by
  rw [Bool.eq_iff_iff, beq_iff_eq, beq_iff_eq]
  exact ⟨fun h => u8_inj h, fun h => by rw [h]⟩
theorem byte_at {s : List UInt8} {k : Nat} (h : k < s.length) : byteAt s (k : Int) = ((s[k].toNat : Nat) : Int) := by
  rw [byteAt_get (i := (k : Int)) (by simpa using h)]; simp only [Int.toNat_natCast]
/-- the second loop: from the end -/
theorem trim_end (K : Value → World → Prop) (s : List UInt8) (hs : s.length ≤ 9223372036854775807) (w : World) (hK : K (.string (mkS (stripR isBl s))) w) {a b : Nat} :
    ∃ I : Nat → FP [.one (.str)], (∃ m : Nat, I m s w) ∧ ∀ (m : Nat) (t : List UInt8), AllJ a (∀ (wl : World), I m t wl →
      ∃ J : FP [],
      (BCase (decide (((List.length t : Nat) : Int) > (0 : Int)))
      (((0 ≤ (IntKind.i64.wrap (((List.length t : Nat) : Int) - (1 : Int))) ∧ (IntKind.i64.wrap (((List.length t : Nat) : Int) - (1 : Int))) < ((List.length t : Nat) : Int))) ∧
      Calls Tryz.prog f_ref01_blank #[.int .u8 (byteAt t (IntKind.i64.wrap (((List.length t : Nat) : Int) - (1 : Int))))] wl fun e22 w22 => ∃ (b22 : Bool), e22 = .returned (.bool b22) ∧
      BCase b22
      (J w22)
      (K (.string (mkS t)) w22))
      (K (.string (mkS t)) wl)) ∧
      AllJ b (∀ (wj : World), J wj →
      ((0 ≤ (IntKind.i64.wrap (((List.length t : Nat) : Int) - (1 : Int))) ∧ (IntKind.i64.wrap (((List.length t : Nat) : Int) - (1 : Int))) ≤ (((List.length t) : Nat) : Int))) ∧
      ∀ (s28 : List UInt8), s28 = (List.take (Int.toNat (IntKind.i64.wrap (((List.length t : Nat) : Int) - (1 : Int)))) t) →
      ∃ m' : Nat, m' < m ∧ I m' s28 wj)) := by
  refine ⟨fun m t w' => m = t.length ∧ stripR isBl s = stripR isBl t ∧ t.length ≤ s.length ∧ w' = w, ⟨_, rfl, rfl, Nat.le_refl _, rfl⟩, ?_⟩
  intro m t
  refine AllJ.of ?_ _
  rintro w' ⟨rfl, ht, htl, rfl⟩
  refine factJ (w := w') (∃ h : 0 < t.length, isBl t[t.length - 1] = true) ?_ ?_
  · refine BCase.of (fun h => ?_) (fun h => ?_) <;> simp only [gt_iff_lt, decide_eq_true_eq, decide_eq_false_iff_not] at h
    · have h0 : 0 < t.length := by omega
      have e1 : IntKind.i64.wrap (((t.length : Nat) : Int) - 1) = ((t.length - 1 : Nat) : Int) := by rw [wrap_i64 (by omega) (by omega)]; omega
      rw [e1, byte_at (by omega)]
      refine ⟨⟨by omega, by omega⟩, ?_⟩
      refine callK (ref01_blank_ok _ w') ?_
      rintro _ w' ⟨rfl, rfl⟩
      refine ⟨_, rfl, ?_⟩
      refine BCase.of (fun h2 => ?_) (fun h2 => ?_)
      · exact ⟨rfl, h0, h2⟩
      · have e2 : stripR isBl t = t := by
          conv => lhs; rw [take_last h0]
          rw [stripR_snoc, if_neg (by rw [h2]; decide), ← take_last h0]
        rw [ht, e2] at hK; exact hK
    · have : t = [] := List.eq_nil_of_length_eq_zero (by omega)
      subst this
      rw [ht] at hK; exact hK
  · rintro ⟨h0, hb⟩
    have e1 : IntKind.i64.wrap (((t.length : Nat) : Int) - 1) = ((t.length - 1 : Nat) : Int) := by rw [wrap_i64 (by omega) (by omega)]; omega
    rw [e1]
    refine ⟨⟨by omega, by omega⟩, ?_⟩
    rintro _ rfl
    simp only [Int.toNat_natCast]
    refine ⟨t.length - 1, by omega, by rw [List.length_take]; omega, ?_, by rw [List.length_take]; omega, trivial⟩
    rw [ht]
    conv => lhs; rw [take_last h0]
    rw [stripR_snoc, if_pos hb]
theorem ref01_Trim_ok (s : List UInt8) (hs : s.length ≤ 9223372036854775807) (w : World) : Calls Tryz.prog f_ref01_Trim #[.string (mkS s)] w (Ret fun v w' => v = .string (mkS (trimB s)) ∧ w' = w) := by
  apply run_ref01_Trim
  unfold vc_ref01_Trim
  refine ⟨fun m t w' => m = t.length ∧ s.dropWhile isBl = t.dropWhile isBl ∧ t.length ≤ s.length ∧ w' = w, ⟨_, rfl, rfl, Nat.le_refl _, rfl⟩, ?_⟩
  intro m t
  refine AllJ.of ?_ _
  rintro w' ⟨rfl, ht, htl, rfl⟩
  refine BCase.of (fun h => ?_) (fun h => ?_) <;> simp only [gt_iff_lt, decide_eq_true_eq, decide_eq_false_iff_not] at h
  · match t, h with
    | c :: r, h =>
      have hx : byteAt (c :: r) 0 = ((c.toNat : Nat) : Int) := rfl
      rw [hx]
      refine ⟨⟨by decide, h⟩, ?_⟩
      refine callK (ref01_blank_ok c w') ?_
      rintro _ w' ⟨rfl, rfl⟩
      refine ⟨_, rfl, ?_⟩
      refine BCase.of (fun h2 => ?_) (fun h2 => ?_)
      · refine ⟨⟨by decide, by simp only [List.length_cons]; omega⟩, ?_⟩
        rintro r' hr'
        obtain rfl : r' = r := hr'
        refine ⟨_, Nat.lt_succ_self _, rfl, ?_, ?_, rfl⟩
        · rw [ht, List.dropWhile_cons, if_pos h2]
        · simp only [List.length_cons] at htl; omega
      · refine trim_end (fun v w'' => v = .string (mkS (trimB s)) ∧ w'' = w') (c :: r) (by omega) w' ?_
        refine ⟨?_, rfl⟩
        unfold trimB stripB
        rw [ht, List.dropWhile_cons, if_neg (by rw [h2]; decide)]
  · have : t = [] := List.eq_nil_of_length_eq_zero (by omega)
    subst this
    refine trim_end (fun v w'' => v = .string (mkS (trimB s)) ∧ w'' = w') [] (by simp) w' ?_
    refine ⟨?_, rfl⟩
    unfold trimB stripB
    rw [ht]; rfl
theorem ref01_Digits_ok (s : List UInt8) (hs : s.length ≤ 9223372036854775807) (w : World) : Calls Tryz.prog f_ref01_Digits #[.string (mkS s)] w (Ret fun v w' => v = .bool (digitsB s) ∧ w' = w) := by
  apply run_ref01_Digits
  unfold vc_ref01_Digits
  refine ⟨fun m i w' => ∃ k : Nat, k ≤ s.length ∧ i = (k : Int) ∧ m = s.length - k ∧ (s.take k).all isDig = true ∧ w' = w, ⟨_, 0, by omega, rfl, rfl, rfl, rfl⟩, ?_⟩
  intro m i
  refine AllJ.of ?_ _
  rintro w' ⟨k, hk, rfl, rfl, hall, rfl⟩
  refine BCase.of (fun h => ?_) (fun h => ?_) <;> simp only [decide_eq_true_eq, decide_eq_false_iff_not] at h
  · have hlt : k < s.length := by omega
    have hd := dig_int hlt
    have bad : ¬ isDig s[k] = true → (.bool false : Value) = .bool (digitsB s) ∧ w' = w' := fun hn => ⟨by
      congr 1
      symm
      unfold digitsB
      rw [Bool.and_eq_false_iff]
      right
      rw [Bool.eq_false_iff]
      intro hc
      exact hn (List.all_eq_true.1 hc _ (List.getElem_mem hlt)), rfl⟩
    refine ⟨⟨by omega, h⟩, ?_⟩
    refine BCase.of (fun h2 => ?_) (fun h2 => ?_) <;> simp only [decide_eq_true_eq, decide_eq_false_iff_not] at h2
    · exact bad fun hc => by have := (hd.1 hc).1; omega
    refine ⟨⟨by omega, h⟩, ?_⟩
    refine BCase.of (fun h3 => ?_) (fun h3 => ?_) <;> simp only [gt_iff_lt, decide_eq_true_eq, decide_eq_false_iff_not] at h3
    · exact bad fun hc => by have := (hd.1 hc).2; omega
    · refine ⟨s.length - (k + 1), by omega, k + 1, by omega, by rw [wrap_i64 (by omega) (by omega)]; omega, rfl, ?_, rfl⟩
      rw [List.take_succ_eq_append_getElem hlt, List.all_append, hall]
      simp [hd.2 ⟨by omega, by omega⟩]
  · have : k = s.length := by omega
    subst this
    rw [List.take_length] at hall
    refine ⟨?_, rfl⟩
    congr 1
    unfold digitsB
    rw [hall, Bool.and_true]
    cases s <;> simp
theorem ref01_Split_ok (s : List UInt8) (c : UInt8) (hs : s.length ≤ 1000000) (w : World) :
    Calls Tryz.prog f_ref01_Split #[.string (mkS s), .int .u8 ((c.toNat : Nat) : Int)] w (Ret fun v w' => ∃ a n cp, v = .slice a n cp ∧ Ow tS T_string w' NoB a n cp (cutC c [] s) ∧ Fresh w.heap.size a ∧ Below w.heap.size w w') := by
  apply run_ref01_Split
  unfold vc_ref01_Split
  intro k8 w8 hk8 hw8
  have hB := (hw8 ▸ below_alloc w _ : Below w.heap.size w w8)
  have ho8 : Ow tS T_string w8 NoB (some ⟨k8, 0, none⟩) 0 0 [] := Ow.newF (flat_str _) hk8 hw8 (RepL.nil _ _ _) (Nat.zero_le _)
  refine ⟨fun m a n cp fr i w' => ∃ (k j : Nat) (done : List (List UInt8)), k ≤ s.length ∧ j ≤ k ∧ i = (k : Int) ∧ fr = (j : Int) ∧ m = s.length - k ∧ done.length ≤ k ∧ cutC c [] s = done ++ cutC c ((s.take k).drop j) (s.drop k) ∧
      Ow tS T_string w' NoB a n cp done ∧ Fresh w.heap.size a ∧ Below w.heap.size w w',
    ⟨_, 0, 0, [], by omega, by omega, rfl, rfl, rfl, Nat.le_refl _, rfl, ho8, fresh_new hk8, hB⟩, ?_⟩
  intro m a n cp fr i
  refine AllJ.of ?_ _
  rintro w1 ⟨k, j, done, hk, hj, rfl, rfl, rfl, hdl, hcut, ho, hf, hb⟩
  refine BCase.of (fun h => ?_) (fun h => ?_) <;> simp only [decide_eq_true_eq, decide_eq_false_iff_not] at h
  · have hlt : k < s.length := by omega
    have ew : IntKind.i64.wrap ((k : Int) + 1) = ((k + 1 : Nat) : Int) := by rw [wrap_i64 (by omega) (by omega)]; omega
    rw [ew, byte_at hlt, u8_eq]
    rw [cutC_at c s _ k hlt] at hcut
    refine ⟨⟨by omega, h⟩, ?_⟩
    refine BCase.of (fun h2 => ?_) (fun h2 => ?_)
    · rw [beq_iff_eq] at h2
      rw [if_pos h2] at hcut
      refine ⟨⟨⟨by omega, by omega⟩, by omega, by omega⟩, ?_⟩
      rintro _ rfl k3 w3 hk3 hw3
      simp only [Int.toNat_natCast] at hw3 ⊢
      obtain ⟨w4, a4, n4, c4, hr, ho4, hf4, hb4⟩ := pushF (ty := T_sl_string) (w0 := w) (cm := 1) (vs := [_]) (flat_str _) un_sl_string tf_string (by decide) ho hf hb hk3 hw3 (rep_str trivial) (by omega)
      refine ⟨w4, a4, n4, c4, hr, s.length - (k + 1), by omega, k + 1, k + 1, _, by omega, Nat.le_refl _, rfl, rfl, rfl, ?_, ?_, ho4, hf4, hb4⟩
      · simp; omega
      · have hnil : (s.take (k + 1)).drop (k + 1) = [] := List.drop_eq_nil_of_le (by rw [List.length_take]; omega)
        rw [hcut, hnil]
        simp
    · rw [beq_eq_false_iff_ne] at h2
      rw [if_neg h2] at hcut
      refine ⟨s.length - (k + 1), by omega, k + 1, j, done, by omega, by omega, rfl, rfl, rfl, by omega, ?_, ho, hf, hb⟩
      rw [hcut, List.take_succ_eq_append_getElem hlt, List.drop_append_of_le_length (by rw [List.length_take]; omega)]
  · have : k = s.length := by omega
    subst this
    refine ⟨⟨by omega, by omega⟩, ?_⟩
    rintro _ rfl k3 w3 hk3 hw3
    simp only [Int.toNat_natCast] at hw3 ⊢
    obtain ⟨w4, a4, n4, c4, hr, ho4, hf4, hb4⟩ := pushF (ty := T_sl_string) (w0 := w) (cm := 1) (vs := [_]) (flat_str _) un_sl_string tf_string (by decide) ho hf hb hk3 hw3 (rep_str trivial) (by omega)
    refine ⟨w4, a4, n4, c4, hr, _, _, _, rfl, ?_, hf4, hb4⟩
    rw [hcut]
    simpa [cutC] using ho4
theorem ref08_cut_ok (s : List UInt8) (hs : s.length ≤ 9223372036854775807) (w : World) : Calls Tryz.prog f_ref08_cut #[.string (mkS s)] w (Ret fun v w' => v = .int .i64 ((s.takeWhile (· != 61)).length : Nat) ∧ w' = w) := by
  apply run_ref08_cut
  unfold vc_ref08_cut
  have hle := takeWhile_le (· != (61 : UInt8)) s
  refine ⟨fun m i w' => ∃ k : Nat, k ≤ (s.takeWhile (· != 61)).length ∧ i = (k : Int) ∧ m = s.length - k ∧ w' = w, ⟨_, 0, by omega, rfl, rfl, rfl⟩, ?_⟩
  intro m i
  refine AllJ.of ?_ _
  rintro w' ⟨k, hk, rfl, rfl, rfl⟩
  refine BCase.of (fun h => ?_) (fun h => ?_) <;> simp only [decide_eq_true_eq, decide_eq_false_iff_not] at h
  · have hlt : k < s.length := by omega
    have hat := takeWhile_at (· != (61 : UInt8)) s k hlt hk
    rw [ne61] at hat
    rw [byte_at hlt]
    refine ⟨⟨by omega, h⟩, ?_⟩
    have e61 := u8_eq s[k] 61
    refine BCase.of (fun h2 => ?_) (fun h2 => ?_)
    · rw [show ((((s[k].toNat : Nat) : Int)) == ((UInt8.toNat 61 : Nat) : Int)) = true from h2] at e61
      have hc : s[k] = 61 := by simpa using e61.symm
      exact ⟨by congr 1; have : ¬ k < (s.takeWhile (· != 61)).length := fun e => hat.2 e hc; omega, rfl⟩
    · rw [show ((((s[k].toNat : Nat) : Int)) == ((UInt8.toNat 61 : Nat) : Int)) = false from h2] at e61
      have hc : s[k] ≠ 61 := by simpa using e61.symm
      have := hat.1 hc
      exact ⟨s.length - (k + 1), by omega, k + 1, this, by rw [wrap_i64 (by omega) (by omega)]; omega, rfl, rfl⟩
  · exact ⟨by congr 1; omega, rfl⟩
theorem ref08_ahead_ok (s : List UInt8) (hs : s.length ≤ 9223372036854775807) (w : World) : Calls Tryz.prog f_ref08_ahead #[.string (mkS s)] w (Ret fun v w' => v = .string (mkS (aheadL s)) ∧ w' = w) := by
  apply run_ref08_ahead
  unfold vc_ref08_ahead
  have hle := takeWhile_le (· != (61 : UInt8)) s
  refine callK (ref08_cut_ok s hs w) ?_
  rintro _ w ⟨rfl, rfl⟩
  refine ⟨_, rfl, ⟨by omega, by omega⟩, ?_⟩
  rintro _ rfl
  simp only [Int.toNat_natCast]
  rw [tw_take]
  refine callK (ref01_Trim_ok _ (by omega) w) ?_
  rintro _ w ⟨rfl, rfl⟩
  exact ⟨_, rfl, rfl, rfl⟩
theorem ref08_after_ok (s : List UInt8) (hs : s.length ≤ 9223372036854775800) (w : World) : Calls Tryz.prog f_ref08_after #[.string (mkS s)] w (Ret fun v w' => v = .string (mkS (afterL s)) ∧ w' = w) := by
  apply run_ref08_after
  unfold vc_ref08_after
  have hle := takeWhile_le (· != (61 : UInt8)) s
  refine callK (ref08_cut_ok s (by omega) w) ?_
  rintro _ w ⟨rfl, rfl⟩
  refine ⟨_, rfl, ?_⟩
  refine BCase.of (fun h => ?_) (fun h => ?_)
  · rw [beq_iff_eq] at h
    refine ⟨?_, rfl⟩
    unfold afterL
    by_cases hm : (61 : UInt8) ∈ s
    · have := has_eq_lt hm; omega
    · rw [(no_eq hm).2]; rfl
  · rw [beq_eq_false_iff_ne] at h
    have hlt : (s.takeWhile (· != 61)).length < s.length := by omega
    rw [wrap_i64 (by omega) (by omega)]
    refine ⟨⟨by omega, by omega⟩, ?_⟩
    rintro _ rfl
    have e1 : Int.toNat (((s.takeWhile (· != 61)).length : Nat) + 1 : Int) = (s.takeWhile (· != 61)).length + 1 := by omega
    rw [e1, ← List.drop_drop, tw_drop]
    refine callK (ref01_Trim_ok _ (by simp; have := (List.dropWhile_sublist (· != (61 : UInt8)) (l := s)).length_le; omega) w) ?_
    rintro _ w ⟨rfl, rfl⟩
    exact ⟨_, rfl, rfl, rfl⟩
theorem header_pair_ok (s : List UInt8) (hs : s.length < 4294967281) (w : World) (he : Env w) :
    Calls Tryz.prog f_header_pair #[.string (mkS s)] w (Ret fun v w' => v = .tuple #[.string (mkS (aheadL s)), .string (mkS (afterL s)), .bool (hasEq s)] ∧ Below w.heap.size w w') := by
  apply run_header_pair
  unfold vc_header_pair
  obtain ⟨m, hm⟩ := he.max
  refine (Tryz.strings_Cut (mkS s) (mkS [61]) m w hs hm).mono ?_
  rintro _ w1 ⟨rfl, n, rfl⟩
  have e : Lib.cut (mkS s).data.toList (mkS [61]).data.toList = (s.takeWhile (· != 61), (s.dropWhile (· != 61)).drop 1, hasEq s) := by
    show Lib.cut s [61] = _
    rw [cut_byte]
    unfold hasEq
    by_cases hm : (61 : UInt8) ∈ s
    · rw [if_pos hm, decide_eq_true hm]
    · rw [if_neg hm, decide_eq_false hm, (no_eq hm).1, (no_eq hm).2]; rfl
  rw [e]
  refine ⟨s.takeWhile (· != 61), (s.dropWhile (· != 61)).drop 1, _, rfl, ?_⟩
  have h1 := takeWhile_le (· != (61 : UInt8)) s
  have h2 := (List.dropWhile_sublist (· != (61 : UInt8)) (l := s)).length_le
  refine callK (octet_Trim_ok _ (by omega) _) ?_
  rintro _ w2 ⟨rfl, hb2⟩
  refine ⟨_, rfl, ?_⟩
  refine callK (octet_Trim_ok _ (by rw [List.length_drop]; omega) w2) ?_
  rintro _ w3 ⟨rfl, hb3⟩
  have hb0 : Below w.heap.size w (w.drewN n) := grow_new rfl rfl rfl (Nat.le_refl _) (fun _ _ => rfl)
  have hb02 := below_step hb0 hb2 hb0.size
  exact ⟨_, rfl, rfl, below_step hb02 hb3 hb02.size⟩
theorem header_control_ok (s : List UInt8) (hs : s.length ≤ 9223372036854775807) (w : World) : Calls Tryz.prog f_header_control #[.string (mkS s)] w (Ret fun v w' => v = .bool (s.any isCtl) ∧ Below w.heap.size w w') := by
  apply run_header_control
  unfold vc_header_control
  obtain ⟨w2, a, n, c, hr, ho, hb2, hf⟩ := bytes_of un_string un_sl_uint8 un_uint8 w s hs NoB
  have hnn := ho.len
  subst hnn
  refine ⟨w2, a, _, c, hr, ?_⟩
  refine ⟨fun m i w' => ∃ k : Nat, k ≤ s.length ∧ i = (k : Int) ∧ m = s.length - k ∧ (s.take k).any isCtl = false ∧ w' = w2, ⟨_, 0, by omega, rfl, rfl, rfl, rfl⟩, ?_⟩
  intro m i
  refine AllJ.of ?_ _
  rintro w' ⟨k, hk, rfl, rfl, hno, rfl⟩
  refine BCase.of (fun h => ?_) (fun h => ?_) <;> simp only [decide_eq_true_eq, decide_eq_false_iff_not] at h
  · have hlt : k < s.length := by omega
    obtain ⟨v, hv, hrep⟩ := ho.all.load1 (i := (k : Int)) un_uint8 rfl rfl (by simpa using hlt)
    have := u8_rep hrep
    subst this
    simp only [Int.toNat_natCast] at hv
    have bad : isCtl s[k] = true → (.bool true : Value) = .bool (s.any isCtl) ∧ Below w.heap.size w w' := fun hc => ⟨by
      congr 1; symm
      exact List.any_eq_true.2 ⟨_, List.getElem_mem hlt, hc⟩, hb2⟩
    have good : isCtl s[k] = false → ∃ m' : Nat, m' < s.length - k ∧ ∃ k2 : Nat, k2 ≤ s.length ∧ IntKind.i64.wrap ((k : Int) + 1) = (k2 : Int) ∧ m' = s.length - k2 ∧ (s.take k2).any isCtl = false ∧ w' = w' := fun hc =>
      ⟨s.length - (k + 1), by omega, k + 1, by omega, by rw [wrap_i64 (by omega) (by omega)]; omega, rfl, by rw [List.take_succ_eq_append_getElem hlt, List.any_append, hno]; simp [hc], rfl⟩
    have e9 := u8_eq s[k] 9
    have e127 := u8_eq s[k] 127
    refine ⟨⟨⟨by omega, h⟩, ho.all.isSome hlt⟩, _, hv, ?_⟩
    refine BCase.of (fun h2 => ?_) (fun h2 => ?_)
    · simp only [decide_eq_true_eq] at h2
      refine BCase.of (fun h3 => ?_) (fun h3 => ?_)
      · refine bad ?_
        have h9 : (s[k] == 9) = false := by rw [← e9]; simpa using h3
        unfold isCtl
        rw [h9, decide_eq_true (show s[k].toNat < 32 by omega)]; rfl
      · have h9 : (s[k] == 9) = true := by rw [← e9]; simpa using h3
        refine BCase.of (fun h4 => ?_) (fun h4 => ?_)
        · refine bad ?_
          unfold isCtl
          rw [← e127, show ((((s[k].toNat : Nat) : Int)) == ((UInt8.toNat 127 : Nat) : Int)) = true from h4, Bool.or_true]
        · refine good ?_
          unfold isCtl
          rw [← e127, show ((((s[k].toNat : Nat) : Int)) == ((UInt8.toNat 127 : Nat) : Int)) = false from h4, h9]
          simp
    · simp only [decide_eq_false_iff_not] at h2
      refine BCase.of (fun h4 => ?_) (fun h4 => ?_)
      · refine bad ?_
        unfold isCtl
        rw [← e127, show ((((s[k].toNat : Nat) : Int)) == ((UInt8.toNat 127 : Nat) : Int)) = true from h4, Bool.or_true]
      · refine good ?_
        unfold isCtl
        rw [← e127, show ((((s[k].toNat : Nat) : Int)) == ((UInt8.toNat 127 : Nat) : Int)) = false from h4, decide_eq_false (show ¬ s[k].toNat < 32 by omega)]
        rfl
  · have : k = s.length := by omega
    subst this
    rw [List.take_length] at hno
    exact ⟨by rw [hno], hb2⟩
end Go.Proofs.YtmlcilfcaogdcaaGreatDoor
