/- Contracts of the functions of layer 14 on bytes and symbols. Its conditions: none. -/
import Derived.Test.YtdamklkdjknnpaaV1
import Derived.Test.YtdamklkdjknnpaaShelf
set_option linter.unusedVariables false
set_option linter.unusedSimpArgs false
set_option maxRecDepth 20000
namespace Go.Proofs.Ytdamklkdjknnpaa
open Go.Pk
open Go.RowKit (Below)
def cnt (k : Int) : Int := if k ≤ 35 then k - 33 else if k ≤ 63 then k - 34 else k - 35
def symOf (c : Int) : Int := if c < 33 ∨ c > 126 ∨ c = 35 ∨ c = 63 then -1 else cnt c
theorem ref14_Byte_ok (c : Int) (w : World) : Calls Try.prog f_ref14_Byte #[.int .u8 c] w (Ret fun v w' => v = .int .i64 (symOf c) ∧ w' = w) := by
  apply run_ref14_Byte
  unfold vc_ref14_Byte
  refine ⟨fun m n k w' => w' = w ∧ 33 ≤ k ∧ k ≤ 127 ∧ n = cnt k ∧ m = (127 - k).toNat ∧ ¬ (33 ≤ c ∧ c < k ∧ c ≠ 35 ∧ c ≠ 63), ⟨_, rfl, by omega, by omega, rfl, rfl, by omega⟩, ?_⟩
  intro m n k
  refine AllJ.of ?_ _
  rintro w' ⟨rfl, h1, h2, rfl, rfl, h3⟩
  refine BCase.of (fun h => ?_) (fun h => ?_) <;> simp at h
  · have e1 : IntKind.u8.wrap (k + 1) = k + 1 := wrap_u8 (by omega) (by omega)
    have e2 : IntKind.i64.wrap (cnt k + 1) = cnt k + 1 := wrap_i64 (by unfold cnt; omega) (by unfold cnt; omega)
    rw [e1, e2]
    refine ⟨fun w'' => w'' = w' ∧ k ≠ 63 ∧ k ≠ 35, ?_, ?_⟩
    · refine BCase.of (fun h4 => ?_) (fun h4 => BCase.of (fun h5 => ?_) (fun h5 => ?_)) <;> simp at h4
      · exact ⟨_, by omega, rfl, by omega, by omega, by subst h4; rfl, rfl, by omega⟩
      · simp at h5
        exact ⟨_, by omega, rfl, by omega, by omega, by subst h5; rfl, rfl, by omega⟩
      · simp at h5; exact ⟨rfl, h4, h5⟩
    · refine AllJ.of ?_ _
      rintro w2 ⟨rfl, h4, h5⟩
      refine BCase.of (fun h => ?_) (fun h => ?_) <;> simp at h
      · subst h
        exact ⟨by rw [symOf, if_neg (by omega)], rfl⟩
      · exact ⟨_, by omega, rfl, by omega, by omega, by unfold cnt; omega, rfl, by omega⟩
  · exact ⟨by rw [symOf, if_pos (by omega)], rfl⟩

/-- the bytes of paths from 33 to below k -/
def pathTo : Nat → List UInt8
  | 0 => []
  | n + 1 => if n + 33 = 63 ∨ n + 33 = 35 then pathTo n else pathTo n ++ [UInt8.ofNat (n + 33)]
def allPath : List UInt8 := pathTo 94
theorem pathTo_le : ∀ n, (pathTo n).length ≤ n
  | 0 => by simp [pathTo]
  | n + 1 => by
    have := pathTo_le n
    unfold pathTo; split <;> simp <;> omega
theorem symbol_bytes_ok (w : World) : Calls Try.prog f_symbol_bytes #[] w (Ret fun v w' => v = .string (mkS allPath) ∧ Below w.heap.size w w') := by
  apply run_symbol_bytes
  unfold vc_symbol_bytes
  refine ⟨fun m a l c k w' => ∃ n : Nat, n ≤ 94 ∧ k = (n : Int) + 33 ∧ m = 94 - n ∧ Ow tU8 T_uint8 w' NoB a l c (pathTo n) ∧ Fresh w.heap.size a ∧ Below w.heap.size w w',
    ⟨_, 0, by omega, by simp, rfl, Ow.nil _ _ _ _, Fresh.none _, Below.refl _ _⟩, ?_⟩
  intro m a l c k
  refine AllJ.of ?_ _
  rintro w' ⟨n, hn, rfl, rfl, ho, hf, hb⟩
  refine BCase.of (fun h => ?_) (fun h => ?_) <;> simp at h
  · have e1 : IntKind.u8.wrap ((n : Int) + 33 + 1) = ((n + 1 : Nat) : Int) + 33 := by rw [wrap_u8 (by omega) (by omega)]; omega
    rw [e1]
    refine ⟨fun b w'' => w'' = w' ∧ b = decide (¬ (n + 33 = 63 ∨ n + 33 = 35)), ?_, ?_⟩
    · refine BCase.of (fun h4 => ?_) (fun h4 => ?_) <;> simp at h4
      · refine ⟨rfl, ?_⟩
        rw [Bool.eq_iff_iff]; simp; omega
      · refine ⟨rfl, ?_⟩
        rw [Bool.eq_iff_iff]; simp; omega
    · intro b
      refine AllJ.of ?_ _
      rintro w2 ⟨rfl, rfl⟩
      refine BCase.of (fun h4 => ?_) (fun h4 => ?_) <;> simp at h4
      · intro k1 w3 hk1 hw3
        have ho3 : Ow tU8 T_uint8 w3 NoB a l c (pathTo n) := ho.below (hw3 ▸ below_alloc _ _)
        have hsrc : Src tU8 w3 NoB (some ⟨k1, 0, none⟩) 1 [UInt8.ofNat (n + 33)] :=
          Src.new1F flat_u8 hk1 hw3 (rep_u8 (by rw [toNat_ofNat (by omega)]; omega))
        obtain ⟨w4, a', n', c', hr, ho4, hg, hfr⟩ := append_own (ty := T_sl_uint8) un_sl_uint8 tf_uint8 (by decide) ho3 (fun _ _ h => h) (cm := 1) hsrc (by have := pathTo_le n; simp; omega)
        refine ⟨w4, a', n', c', hr, _, ?_, n + 1, by omega, rfl, rfl, ?_, ?_, ?_⟩
        · omega
        · unfold pathTo; rw [if_neg (by omega)]; exact ho4
        · subst hw3; exact hf.app (by have := hb.size; simp; omega) hfr
        · subst hw3
          exact (below_step hb (below_alloc _ _) hb.size).grown hg (by have := hb.size; simp; omega) hf
      · refine ⟨_, ?_, n + 1, by omega, rfl, rfl, ?_, hf, hb⟩
        · omega
        · unfold pathTo; rw [if_pos (by omega)]; exact ho
  · have : n = 94 := by omega
    subst this
    exact ⟨_, text_of un_sl_uint8 un_string un_uint8 ho.all, rfl, hb⟩
end Go.Proofs.Ytdamklkdjknnpaa
