/- Contracts of Bytes, FromBytes and Same of layer 14. Its conditions: none. -/
import Derived.Test.YtdamklkdjknnpaaSymA
set_option linter.unusedVariables false
set_option linter.unusedSimpArgs false
set_option maxRecDepth 20000
namespace Go.Proofs.Ytdamklkdjknnpaa
open Go.Pk
open Go.RowKit (Below)
def sym (c : UInt8) : Int := symOf (c.toNat : Nat)
def good (s : List UInt8) : Bool := s.all fun c => decide (0 ≤ sym c)
def symsOf (s : List UInt8) : List Int := if good s then s.map sym else []
theorem idx_all : ∀ n, n < 256 → Lib.indexByte allPath (UInt8.ofNat n) = symOf n := by decide +kernel
theorem idx_sym (c : UInt8) : Lib.indexByte allPath c = sym c := by
  have := idx_all c.toNat (by have := c.toNat_lt; omega)
  rwa [UInt8.ofNat_toNat] at this
theorem sym_le (c : UInt8) : -1 ≤ sym c ∧ sym c ≤ 91 := by
  have := u8_lt c
  unfold sym symOf cnt
  split <;> (try split) <;> (try split) <;> omega
theorem take_succ' {α : Type} {l : List α} {k : Nat} (h : k < l.length) : l.take (k + 1) = l.take k ++ [l[k]] := by
  rw [List.take_succ_eq_append_getElem h]
theorem good_bad {s : List UInt8} {k : Nat} (hk : k < s.length) (h : sym s[k] < 0) : good s = false := by
  rw [Bool.eq_false_iff]
  intro hg
  unfold good at hg
  rw [List.all_eq_true] at hg
  have := hg s[k] (List.getElem_mem hk)
  simp at this; omega
theorem good_step {s : List UInt8} {k : Nat} (hk : k < s.length) (hg : good (s.take k) = true) (h : ¬ sym s[k] < 0) : good (s.take (k + 1)) = true := by
  unfold good at *
  rw [take_succ' hk, List.all_append, hg]
  simp; omega
def BytesPost (s : List UInt8) (w : World) (v : Value) (w' : World) : Prop :=
  ∃ a n c, v = .tuple #[.slice a n c, .bool (good s)] ∧ Ow tI64 T_int w' NoB a n c (symsOf s) ∧ Fresh w.heap.size a ∧ Below w.heap.size w w'
theorem bytes_bad {s : List UInt8} {w w' : World} (hg : good s = false) (hb : Below w.heap.size w w') : BytesPost s w (.tuple #[.slice none 0 0, .bool false]) w' := by
  refine ⟨none, 0, 0, by rw [hg], ?_, Fresh.none _, hb⟩
  rw [symsOf, hg]; exact Ow.nil _ _ _ _
theorem bytes_good {s : List UInt8} {w w' : World} {a : Option Addr} {n c : Nat} (hg : good s = true) (ho : Ow tI64 T_int w' NoB a n c (s.map sym)) (hf : Fresh w.heap.size a) (hb : Below w.heap.size w w') : BytesPost s w (.tuple #[.slice a n c, .bool true]) w' := by
  refine ⟨a, n, c, by rw [hg], ?_, hf, hb⟩
  rw [symsOf, hg]; exact ho

theorem symbol_Bytes_ok (s : List UInt8) (hs : s.length ≤ 1000000) (w : World) : Calls Try.prog f_symbol_Bytes #[.string (mkS s)] w (Ret (BytesPost s w)) := by
  apply run_symbol_Bytes
  unfold vc_symbol_Bytes
  refine callK (symbol_bytes_ok w) ?_
  rintro _ w1 ⟨rfl, hb1⟩
  refine ⟨_, rfl, ?_⟩
  obtain ⟨w2, a2, n2, c2, hr, ho2, hb2, hf2⟩ := bytes_of un_string un_sl_uint8 un_uint8 w1 s (by omega) NoB
  have hn2 := ho2.len
  subst hn2
  have hB2 : Below w.heap.size w w2 := below_step hb1 hb2 hb1.size
  refine ⟨w2, a2, _, c2, hr, ?_⟩
  refine ⟨fun m a l c k w' => ∃ n : Nat, n ≤ s.length ∧ k = (n : Int) ∧ m = s.length - n ∧ good (s.take n) = true ∧ Ow tI64 T_int w' NoB a l c ((s.take n).map sym) ∧ Fresh w2.heap.size a ∧ Below w2.heap.size w2 w',
    ⟨_, 0, by omega, rfl, rfl, rfl, Ow.nil _ _ _ _, Fresh.none _, Below.refl _ _⟩, ?_⟩
  intro m a l c k
  refine AllJ.of ?_ _
  rintro w' ⟨n, hn, rfl, rfl, hg, ho, hf, hb⟩
  refine BCase.of (fun h => ?_) (fun h => ?_) <;> simp at h
  · have hsl := (ho2.below hb).all
    refine ⟨⟨⟨by omega, by omega⟩, hsl.isSome h⟩, ?_⟩
    obtain ⟨v, hv, hrep⟩ := hsl.load1 (i := (n : Int)) un_uint8 rfl rfl (by simpa using h)
    have := u8_rep hrep
    subst this
    simp only [Int.toNat_natCast] at hv
    refine ⟨_, hv, ?_⟩
    refine (Try.strings_IndexByte (mkS allPath) _ _).mono ?_
    rintro _ _ ⟨rfl, rfl⟩
    have e : Lib.indexByte (mkS allPath).data.toList (Int.toNat ((s[n].toNat : Nat) : Int)).toUInt8 = sym s[n] := by
      rw [← idx_sym]
      congr 1
      simp [Nat.toUInt8]
    rw [e]
    refine ⟨_, rfl, ?_⟩
    refine BCase.of (fun h4 => ?_) (fun h4 => ?_) <;> simp at h4
    · exact bytes_bad (good_bad h h4) (below_step hB2 hb hB2.size)
    · intro k1 w3 hk1 hw3
      have ho3 : Ow tI64 T_int w3 NoB a l c ((s.take n).map sym) := ho.below (hw3 ▸ below_alloc _ _)
      have hsrc : Src tI64 w3 NoB (some ⟨k1, 0, none⟩) 1 [sym s[n]] := Src.new1F flat_i64 hk1 hw3 rep_i64
      obtain ⟨w4, a', n', c', hr, ho4, hgr, hfr⟩ := append_own (ty := T_sl_int) un_sl_int tf_int (by decide) ho3 (fun _ _ h => h) (cm := 1) hsrc (by simp; omega)
      have e1 : IntKind.i64.wrap ((n : Int) + 1) = ((n + 1 : Nat) : Int) := by rw [wrap_i64 (by omega) (by omega)]; omega
      rw [e1]
      refine ⟨w4, a', n', c', hr, _, ?_, n + 1, by omega, rfl, rfl, good_step h hg (by omega), ?_, ?_, ?_⟩
      · omega
      · rw [take_succ' h, List.map_append]; exact ho4
      · subst hw3; exact hf.app (by have := hb.size; simp; omega) hfr
      · subst hw3; exact (below_step hb (below_alloc _ _) hb.size).grown hgr (by have := hb.size; simp; omega) hf
  · have : n = s.length := by omega
    subst this
    rw [List.take_length] at hg ho
    exact bytes_good hg ho (hf.mono hB2.size) (below_step hB2 hb hB2.size)

theorem ref14_Bytes_ok (s : List UInt8) (hs : s.length ≤ 1000000) (w : World) : Calls Try.prog f_ref14_Bytes #[.string (mkS s)] w (Ret (BytesPost s w)) := by
  apply run_ref14_Bytes
  unfold vc_ref14_Bytes
  intro k0 w0 hk0 hw0
  have hB0 : Below w.heap.size w w0 := hw0 ▸ below_alloc _ _
  have ho0 : Ow tI64 T_int w0 NoB (some ⟨k0, 0, none⟩) 0 0 [] := Ow.newF flat_i64 hk0 hw0 (RepL.nil _ _ _) (Nat.zero_le _)
  have hf0 := fresh_new hk0
  refine ⟨fun m a l c k w' => ∃ n : Nat, n ≤ s.length ∧ k = (n : Int) ∧ m = s.length - n ∧ good (s.take n) = true ∧ Ow tI64 T_int w' NoB a l c ((s.take n).map sym) ∧ Fresh w.heap.size a ∧ Below w.heap.size w w',
    ⟨_, 0, by omega, rfl, rfl, rfl, ho0, hf0, hB0⟩, ?_⟩
  intro m a l c k
  refine AllJ.of ?_ _
  rintro w' ⟨n, hn, rfl, rfl, hg, ho, hf, hb⟩
  refine BCase.of (fun h => ?_) (fun h => ?_) <;> simp at h
  · refine ⟨⟨by omega, by omega⟩, ?_⟩
    refine callK (ref14_Byte_ok _ _) ?_
    rintro _ _ ⟨rfl, rfl⟩
    have e : symOf (byteAt s (n : Int)) = sym s[n] := by rw [byteAt_get (by simpa using h)]; rfl
    rw [e]
    refine ⟨_, rfl, ?_⟩
    refine BCase.of (fun h4 => ?_) (fun h4 => ?_) <;> simp at h4
    · exact bytes_bad (good_bad h h4) hb
    · intro k1 w3 hk1 hw3
      have ho3 : Ow tI64 T_int w3 NoB a l c ((s.take n).map sym) := ho.below (hw3 ▸ below_alloc _ _)
      have hsrc : Src tI64 w3 NoB (some ⟨k1, 0, none⟩) 1 [sym s[n]] := Src.new1F flat_i64 hk1 hw3 rep_i64
      obtain ⟨w4, a', n', c', hr, ho4, hgr, hfr⟩ := append_own (ty := T_sl_int) un_sl_int tf_int (by decide) ho3 (fun _ _ h => h) (cm := 1) hsrc (by simp; omega)
      have e1 : IntKind.i64.wrap ((n : Int) + 1) = ((n + 1 : Nat) : Int) := by rw [wrap_i64 (by omega) (by omega)]; omega
      rw [e1]
      refine ⟨w4, a', n', c', hr, _, ?_, n + 1, by omega, rfl, rfl, good_step h hg (by omega), ?_, ?_, ?_⟩
      · omega
      · rw [take_succ' h, List.map_append]; exact ho4
      · subst hw3; exact hf.app (by have := hb.size; simp; omega) hfr
      · subst hw3; exact (below_step hb (below_alloc _ _) hb.size).grown hgr (by have := hb.size; simp; omega) hf
  · have : n = s.length := by omega
    subst this
    rw [List.take_length] at hg ho
    exact bytes_good hg ho hf hb
end Go.Proofs.Ytdamklkdjknnpaa
