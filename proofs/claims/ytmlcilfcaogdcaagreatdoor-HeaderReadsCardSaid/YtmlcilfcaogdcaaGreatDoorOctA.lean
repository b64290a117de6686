/- Contracts of octet.Lower, octet.Same. Its conditions: none. -/
import Derived.Test.YtmlcilfcaogdcaaGreatDoorV1
set_option linter.unusedVariables false
set_option linter.unusedSimpArgs false
set_option maxRecDepth 20000
namespace Go.Pk
def lowC (c : UInt8) : UInt8 := if 65 ≤ c ∧ c ≤ 90 then c + 32 else c
def lowL (s : List UInt8) : List UInt8 := s.map lowC
theorem lowC_all : ∀ n, n < 256 → ((lowC (UInt8.ofNat n)).toNat : Int) = if 65 ≤ (n : Int) ∧ (n : Int) ≤ 90 then (n : Int) + 32 else (n : Int) := by decide +kernel
theorem lowC_int (c : UInt8) : ((lowC c).toNat : Int) = if 65 ≤ (c.toNat : Int) ∧ (c.toNat : Int) ≤ 90 then (c.toNat : Int) + 32 else (c.toNat : Int) := by
  have := lowC_all c.toNat (by have := c.toNat_lt; omega)
  rwa [UInt8.ofNat_toNat] at this
end Go.Pk
namespace Go.Proofs.YtmlcilfcaogdcaaGreatDoor
open Go.Pk
open Go.RowKit (Below)

theorem octet_Lower_ok (s : List UInt8) (hs : s.length ≤ 9223372036854775800) (w : World) : Calls Tryz.prog f_octet_Lower #[.string (mkS s)] w (Ret fun v w' => v = .string (mkS (lowL s)) ∧ Below w.heap.size w w') := by
  apply run_octet_Lower
  unfold vc_octet_Lower
  obtain ⟨w1, a, n, c, hr, ho, hb, hf⟩ := bytes_of un_string un_sl_uint8 un_uint8 w s (by omega) NoB
  have hn := ho.len
  subst hn
  refine ⟨w1, a, _, c, hr, ?_⟩
  refine ⟨fun m i w' => ∃ k : Nat, k ≤ s.length ∧ i = (k : Int) ∧ m = s.length - k ∧ Ow tU8 T_uint8 w' NoB a s.length c (lowL (s.take k) ++ s.drop k) ∧ w1.grownBy w' (ownB a),
    ⟨_, 0, by omega, rfl, rfl, by simpa [lowL] using ho, ⟨rfl, rfl, rfl, Nat.le_refl _, fun _ _ _ => rfl⟩⟩, ?_⟩
  intro m i
  refine AllJ.of ?_ _
  rintro w' ⟨k, hk, rfl, rfl, ho', hg⟩
  have hll : (lowL (s.take k) ++ s.drop k).length = s.length := by simp [lowL]; omega
  refine BCase.of (fun h => ?_) (fun h => ?_) <;> simp at h
  · have hlk : (lowL (s.take k)).length = k := by simp [lowL]; omega
    have hsl := ho'.all
    obtain ⟨v, hv, hrep⟩ := hsl.load1 (i := (k : Int)) un_uint8 rfl rfl (by rw [hll]; simpa using h)
    have := u8_rep hrep
    subst this
    have eg : (lowL (s.take k) ++ s.drop k)[(k : Int).toNat]'(by rw [hll]; simpa using h) = s[k] := by
      simp only [Int.toNat_natCast]
      rw [List.getElem_append_right (by rw [hlk]; exact Nat.le_refl _)]
      simp [hlk]
    rw [eg] at hv
    have hin : (0 ≤ (k : Int) ∧ (k : Int) < ((s.length : Nat) : Int)) ∧ Option.isSome a = true := ⟨⟨by omega, by omega⟩, hsl.isSome (i := k) (by rw [hll]; exact h)⟩
    have hlt := u8_lt s[k]
    have hlow := lowC_int s[k]
    have e1 : IntKind.i64.wrap ((k : Int) + 1) = ((k + 1 : Nat) : Int) := by rw [wrap_i64 (by omega) (by omega)]; omega
    rw [e1]
    have hstep : ∀ x, (lowL (s.take k) ++ s.drop k).set k x = lowL (s.take k) ++ x :: s.drop (k + 1) := fun x => by
      rw [List.set_append_right _ _ (by rw [hlk]; exact Nat.le_refl _), hlk, Nat.sub_self, List.drop_eq_getElem_cons h]; rfl
    have hnext : lowL (s.take (k + 1)) ++ s.drop (k + 1) = lowL (s.take k) ++ lowC s[k] :: s.drop (k + 1) := by
      unfold lowL; rw [List.take_succ_eq_append_getElem h, List.map_append, List.append_assoc]; rfl
    refine ⟨hin, _, hv, fun b w'' => w'' = w' ∧ b = decide (65 ≤ (s[k].toNat : Int) ∧ (s[k].toNat : Int) ≤ 90), ?_, ?_⟩
    · refine BCase.of (fun h2 => ?_) (fun h2 => ?_) <;> simp only [ge_iff_le, decide_eq_true_eq, decide_eq_false_iff_not] at h2
      · exact ⟨rfl, by simp [h2]⟩
      · exact ⟨rfl, by simp [h2]⟩
    · intro b
      refine AllJ.of ?_ _
      rintro w' ⟨rfl, rfl⟩
      refine BCase.of (fun h2 => ?_) (fun h2 => ?_) <;> simp only [decide_eq_true_eq, decide_eq_false_iff_not] at h2
      · rw [if_pos h2] at hlow
        rw [wrap_u8 (n := (s[k].toNat : Int) - 65) (by omega) (by omega), wrap_u8 (by omega) (by omega)]
        obtain ⟨w4, hs4, ho4, hg4⟩ := ho'.store (P := Tryz.prog) (bytes := 1) (z := .int .u8 0) tf_uint8 (fun _ _ h => h) (i := (k : Int)) (by rw [hll]; simpa using h) (k := 1) rfl (v := .int .u8 ((s[k].toNat : Int) - 65 + 97)) (x := lowC s[k]) (rep_u8 (by rw [hlow]; omega))
        simp only [Int.toNat_natCast] at ho4
        rw [hstep, ← hnext] at ho4
        exact ⟨hin, w4, hs4, s.length - (k + 1), by omega, k + 1, by omega, rfl, rfl, ho4, ⟨hg4.os.trans hg.os, hg4.tape.trans hg.tape, hg4.output.trans hg.output, Nat.le_trans hg.size hg4.size, fun q hq hne => (hg4.block q (Nat.lt_of_lt_of_le hq hg.size) hne).trans (hg.block q hq hne)⟩⟩
      · rw [if_neg h2] at hlow
        have hc : lowC s[k] = s[k] := u8_inj hlow
        refine ⟨s.length - (k + 1), by omega, k + 1, by omega, rfl, rfl, ?_, hg⟩
        rw [hnext, hc, ← List.drop_eq_getElem_cons h]; exact ho'
  · have : k = s.length := by omega
    subst this
    have e2 : lowL (s.take s.length) ++ s.drop s.length = lowL s := by simp
    rw [e2] at ho'
    exact ⟨_, text_of un_sl_uint8 un_string un_uint8 ho'.all, rfl, hb.grown hg hb.size hf⟩

theorem octet_Same_ok (s t : List UInt8) (hs : s.length ≤ 9223372036854775800) (ht : t.length ≤ 9223372036854775800) (w : World) : Calls Tryz.prog f_octet_Same #[.string (mkS s), .string (mkS t)] w (Ret fun v w' => v = .bool (lowL s == lowL t) ∧ Below w.heap.size w w') := by
  apply run_octet_Same
  unfold vc_octet_Same
  refine callK (octet_Lower_ok s hs w) ?_
  rintro _ w1 ⟨rfl, hb1⟩
  refine ⟨_, rfl, ?_⟩
  refine callK (octet_Lower_ok t ht w1) ?_
  rintro _ w2 ⟨rfl, hb2⟩
  exact ⟨_, rfl, rfl, below_step hb1 hb2 hb1.size⟩
end Go.Proofs.YtmlcilfcaogdcaaGreatDoor
