/- Contracts of the document's digits, value, two; of Lower byte by byte. Its conditions: none. -/
import Derived.Test.YtmlcilfcaogdcaaGreatDoorDateM
import Derived.Test.YtmlcilfcaogdcaaGreatDoorH
set_option linter.unusedVariables false
set_option linter.unusedSimpArgs false
set_option maxRecDepth 20000
namespace Go.Pk
theorem dig_int {s : List UInt8} {k : Nat} (h : k < s.length) : isDig s[k] = true ↔ 48 ≤ byteAt s (k : Int) ∧ byteAt s (k : Int) ≤ 57 := by
  rw [byteAt_get (i := (k : Int)) (by simpa using h), isDig_iff]
  simp only [Int.toNat_natCast]; omega
theorem decV_snoc (l : List UInt8) (c : UInt8) : decV (l ++ [c]) = decV l * 10 + ((c.toNat : Int) - 48) := by unfold decV; rw [List.foldl_append]; rfl
end Go.Pk
namespace Go.Proofs.YtmlcilfcaogdcaaGreatDoor
open Go.Pk
open Go.RowKit (Below)
theorem ref07_digits_ok (s : List UInt8) (hs : s.length ≤ 9223372036854775807) (w : World) : Calls Tryz.prog f_ref07_digits #[.string (mkS s)] w (Ret fun v w' => v = .int .i64 ((digP s).length : Nat) ∧ w' = w) := by
  apply run_ref07_digits
  unfold vc_ref07_digits
  have hle := takeWhile_le isDig s
  refine ⟨fun m i w' => ∃ k : Nat, k ≤ (digP s).length ∧ i = (k : Int) ∧ m = s.length - k ∧ w' = w, ⟨_, 0, by omega, rfl, rfl, rfl⟩, ?_⟩
  intro m i
  refine AllJ.of ?_ _
  rintro w' ⟨k, hk, rfl, rfl, rfl⟩
  have hk2 : k ≤ s.length := Nat.le_trans hk hle
  refine BCase.of (fun h => ?_) (fun h => ?_) <;> simp only [decide_eq_true_eq, decide_eq_false_iff_not] at h
  · have hlt : k < s.length := by omega
    have hat := takeWhile_at isDig s k hlt hk
    rw [dig_int hlt] at hat
    have stop : ¬ (k < (digP s).length) → (.int .i64 (k : Int) : Value) = .int .i64 ((digP s).length : Nat) ∧ w' = w' := fun hn => ⟨by congr 1; omega, rfl⟩
    refine ⟨⟨by omega, h⟩, BCase.of (fun h2 => ?_) (fun h2 => ?_)⟩ <;> simp only [ge_iff_le, decide_eq_true_eq, decide_eq_false_iff_not] at h2
    · refine ⟨⟨by omega, h⟩, BCase.of (fun h3 => ?_) (fun h3 => ?_)⟩ <;> simp only [decide_eq_true_eq, decide_eq_false_iff_not] at h3
      · have := hat.1 ⟨h2, h3⟩
        exact ⟨s.length - (k + 1), by omega, k + 1, this, by rw [wrap_i64 (by omega) (by omega)]; omega, rfl, rfl⟩
      · exact stop fun hc => h3 (hat.2 hc).2
    · exact stop fun hc => h2 (hat.2 hc).1
  · exact ⟨by congr 1; have : (digP s).length ≤ s.length := hle; omega, rfl⟩
theorem ref07_value_ok (s : List UInt8) (hs : s.length ≤ 18) (hd : ∀ c ∈ s, isDig c = true) (w : World) : Calls Tryz.prog f_ref07_value #[.string (mkS s)] w (Ret fun v w' => v = .int .i64 (decV s) ∧ w' = w) := by
  apply run_ref07_value
  unfold vc_ref07_value
  refine ⟨fun m n i w' => ∃ k : Nat, k ≤ s.length ∧ i = (k : Int) ∧ n = decV (s.take k) ∧ m = s.length - k ∧ w' = w, ⟨_, 0, by omega, rfl, rfl, rfl, rfl⟩, ?_⟩
  intro m n i
  refine AllJ.of ?_ _
  rintro w' ⟨k, hk, rfl, rfl, rfl, rfl⟩
  refine BCase.of (fun h => ?_) (fun h => ?_) <;> simp only [decide_eq_true_eq, decide_eq_false_iff_not] at h
  · have hlt : k < s.length := by omega
    have hc := isDig_iff.1 (hd s[k] (List.getElem_mem hlt))
    have hb := decV_bound (s.take k) 0 (by decide) fun c hc => hd c (List.mem_of_mem_take hc)
    have hp : (10 : Int) ^ (s.take k).length ≤ 10 ^ 17 := pow10_le (by rw [List.length_take]; omega)
    have e17 : (10 : Int) ^ 17 = 100000000000000000 := by decide
    have hV : (s.take k).foldl (fun n c => n * 10 + ((c.toNat : Int) - 48)) 0 = decV (s.take k) := rfl
    rw [hV] at hb
    have hbb := hb.2
    rw [Int.zero_add, Int.one_mul] at hbb
    rw [byteAt_get (i := (k : Int)) (by simpa using hlt)]
    simp only [Int.toNat_natCast]
    refine ⟨⟨by omega, h⟩, s.length - (k + 1), by omega, k + 1, by omega, by rw [wrap_i64 (by omega) (by omega)]; omega, ?_, rfl, trivial⟩
    rw [List.take_succ_eq_append_getElem hlt, decV_snoc, wrap_i64 (n := decV (s.take k) * 10) (by omega) (by omega), wrap_i64 (n := ((s[k].toNat : Nat) : Int)) (by omega) (by omega), wrap_i64 (n := decV (s.take k) * 10 + ((s[k].toNat : Nat) : Int)) (by omega) (by omega), wrap_i64 (by omega) (by omega)]
    omega
  · have : k = s.length := by omega
    subst this
    rw [List.take_length]; exact ⟨rfl, rfl⟩
theorem ref01_Lower_ok (s : List UInt8) (hs : s.length ≤ 9223372036854775800) (w : World) : Calls Tryz.prog f_ref01_Lower #[.string (mkS s)] w (Ret fun v w' => v = .string (mkS (lowL s)) ∧ Below w.heap.size w w') := by
  apply run_ref01_Lower
  unfold vc_ref01_Lower
  refine ⟨fun m o i w' => ∃ k : Nat, k ≤ s.length ∧ i = (k : Int) ∧ o = lowL (s.take k) ∧ m = s.length - k ∧ Below w.heap.size w w', ⟨_, 0, by omega, rfl, rfl, rfl, Below.refl _ _⟩, ?_⟩
  intro m o i
  refine AllJ.of ?_ _
  rintro w1 ⟨k, hk, rfl, rfl, rfl, hb⟩
  refine BCase.of (fun h => ?_) (fun h => ?_) <;> simp only [decide_eq_true_eq, decide_eq_false_iff_not] at h
  · have hlt : k < s.length := by omega
    have hlow := lowC_int s[k]
    have hu := u8_lt s[k]
    rw [byteAt_get (i := (k : Int)) (by simpa using hlt)]
    simp only [Int.toNat_natCast]
    refine ⟨⟨by omega, h⟩, intJ (w := w1) ((lowC s[k]).toNat : Nat) ?_ ?_⟩
    · refine BCase.of (fun h2 => ?_) (fun h2 => ?_) <;> simp only [ge_iff_le, decide_eq_true_eq, decide_eq_false_iff_not] at h2
      · refine BCase.of (fun h3 => ?_) (fun h3 => ?_) <;> simp only [ge_iff_le, decide_eq_true_eq, decide_eq_false_iff_not] at h3
        · rw [if_pos ⟨h2, h3⟩] at hlow
          exact ⟨rfl, by rw [wrap_u8 (by omega) (by omega), hlow]⟩
        · rw [if_neg (fun e => h3 e.2)] at hlow
          exact ⟨rfl, hlow.symm⟩
      · rw [if_neg (fun e => h2 e.1)] at hlow
        exact ⟨rfl, hlow.symm⟩
    · intro k1 w2 hk1 hw2
      have ho : Ow tU8 T_uint8 w2 NoB (some ⟨k1, 0, none⟩) 1 1 [lowC s[k]] := Ow.newF flat_u8 hk1 hw2 (RepL.one (rep_u8 rfl)) (show 1 ≤ maxLen by decide)
      have hl : (lowL (s.take k)).length = k := by simp [lowL]; omega
      refine ⟨_, text_of un_sl_uint8 un_string un_uint8 ho.all, by rw [hl]; simp [IntKind.max, IntKind.bits]; omega, ?_⟩
      rintro _ rfl
      refine ⟨s.length - (k + 1), by omega, k + 1, by omega, by rw [wrap_i64 (by omega) (by omega)]; omega, ?_, rfl, below_step hb (hw2 ▸ below_alloc _ _) hb.size⟩
      unfold lowL; rw [List.take_succ_eq_append_getElem hlt, List.map_append]; rfl
  · have : k = s.length := by omega
    subst this
    rw [List.take_length]; exact ⟨rfl, hb⟩
end Go.Proofs.YtmlcilfcaogdcaaGreatDoor
