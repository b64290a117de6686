/- The law SymbolWords holds of what the code computes. Its conditions: none. -/
import Derived.Test.YtdamklkdjknnpaaSymJ
set_option linter.unusedVariables false
set_option linter.unusedSimpArgs false
set_option maxRecDepth 20000
namespace Go.Proofs.Ytdamklkdjknnpaa
open Go.Pk
open Go.RowKit (Below)

theorem chr_sym_all : ∀ n, n < 256 → 0 ≤ sym (UInt8.ofNat n) → isSym (sym (UInt8.ofNat n)) = true ∧ chr (sym (UInt8.ofNat n)) = UInt8.ofNat n := by decide +kernel
theorem chr_sym {c : UInt8} (h : 0 ≤ sym c) : isSym (sym c) = true ∧ chr (sym c) = c := by
  have := chr_sym_all c.toNat (by have := c.toNat_lt; omega)
  rw [UInt8.ofNat_toNat] at this
  exact this h
theorem sym_chr_all : ∀ n, n < 92 → sym (chr (n : Nat)) = (n : Nat) := by decide +kernel
theorem sym_chr {i : Int} (h : isSym i = true) : sym (chr i) = i := by
  unfold isSym at h
  simp at h
  have := sym_chr_all i.toNat (by omega)
  rwa [show ((i.toNat : Nat) : Int) = i by omega] at this
theorem words_back {s : List UInt8} (h : good s = true) : okL (s.map sym) = true ∧ (s.map sym).map chr = s := by
  unfold good at h
  rw [List.all_eq_true] at h
  have h' : ∀ c ∈ s, 0 ≤ sym c := fun c hc => by simpa using h c hc
  refine ⟨?_, ?_⟩
  · unfold okL
    rw [List.all_eq_true]
    intro i hi
    obtain ⟨c, hc, rfl⟩ := List.mem_map.1 hi
    exact (chr_sym (h' c hc)).1
  · rw [List.map_map]
    have : s.map (chr ∘ sym) = s.map id := List.map_congr_left fun c hc => (chr_sym (h' c hc)).2
    rw [this, List.map_id]
theorem back_words {l : List Int} (h : okL l = true) : good (l.map chr) = true ∧ (l.map chr).map sym = l := by
  unfold okL at h
  rw [List.all_eq_true] at h
  refine ⟨?_, ?_⟩
  · unfold good
    rw [List.all_eq_true]
    intro c hc
    obtain ⟨i, hi, rfl⟩ := List.mem_map.1 hc
    have h1 := h i hi
    rw [sym_chr h1]
    unfold isSym at h1; simp at h1; simp; omega
  · rw [List.map_map]
    have : l.map (sym ∘ chr) = l.map id := List.map_congr_left fun c hc => sym_chr (h c hc)
    rw [this, List.map_id]

theorem law14_SymbolWords_ok (s : List UInt8) (a : Option Addr) (n c : Nat) (l : List Int) (w : World) (hs : Sl tI64 w AllB a n c l) :
    Calls Try.prog f_law14_SymbolWords #[.string (mkS s), .slice a n c] w (Ret (Says w)) := by
  apply run_law14_SymbolWords
  unfold vc_law14_SymbolWords
  have hn := hs.len
  subst hn
  refine callK (law14_alive_ok w) ?_
  rintro _ w0 ⟨rfl, hB0⟩
  refine ⟨_, rfl, BCase.no rfl ?_⟩
  refine ⟨fun w' => w' = w0 ∧ s.length ≤ 500 ∧ l.length ≤ 500, ?_, ?_⟩
  · refine BCase.of (fun h => ?_) (fun h => ?_) <;> simp at h
    · exact ⟨rfl, hB0⟩
    · refine BCase.of (fun h2 => ?_) (fun h2 => ?_) <;> simp at h2
      · exact ⟨rfl, hB0⟩
      · exact ⟨rfl, by omega, by omega⟩
  · refine AllJ.of ?_ _
    rintro _ ⟨rfl, h1, h2⟩
    refine ⟨fun w' => Below w.heap.size w w', ?_, ?_⟩
    · refine callK (symbol_Bytes_ok s (by omega) _) ?_
      rintro _ w1 ⟨a1, n1, c1, rfl, ho1, hf1, hb1⟩
      have hB1 := below_step hB0 hb1 hB0.size
      refine ⟨_, _, _, _, rfl, ?_⟩
      refine BCase.of (fun hg => ?_) (fun hg => ?_)
      · have hsy : symsOf s = s.map sym := by unfold symsOf; rw [if_pos hg]
        rw [hsy] at ho1
        obtain ⟨hk1, hk2⟩ := words_back hg
        have hn1 := ho1.len
        refine callK (symbol_FromBytes_ok (l := s.map sym) (by simp; omega) ho1.all) ?_
        rintro _ w2 ⟨rfl, hb2⟩
        have ht : textOf (s.map sym) = s := by unfold textOf; rw [if_pos hk1, hk2]
        refine ⟨_, _, rfl, BCase.no (by rw [hk1]; rfl) ?_⟩
        rw [ht]
        refine BCase.no (by simp) ?_
        refine BCase.no (by rw [hn1]; simp) ?_
        exact below_step hB1 hb2 hB1.size
      · exact hB1
    · refine AllJ.of ?_ _
      intro w1 hB1
      refine callK (symbol_FromBytes_ok (l := l) (by omega) (hs.below hB1)) ?_
      rintro _ w2 ⟨rfl, hb2⟩
      have hB2 := below_step hB1 hb2 hB1.size
      refine ⟨_, _, rfl, ?_⟩
      refine BCase.of (fun hg => ?_) (fun hg => ?_) <;> simp at hg
      · refine ⟨?_, hB2⟩
        unfold textOf; rw [hg]; rfl
      · have ht : textOf l = l.map chr := by unfold textOf; rw [if_pos hg]
        obtain ⟨hk1, hk2⟩ := back_words hg
        rw [ht]
        refine callK (symbol_Bytes_ok (l.map chr) (by simp; omega) _) ?_
        rintro _ w3 ⟨a3, n3, c3, rfl, ho3, hf3, hb3⟩
        have hB3 := below_step hB2 hb3 hB2.size
        have hsy : symsOf (l.map chr) = l := by unfold symsOf; rw [if_pos hk1, hk2]
        rw [hsy] at ho3
        refine ⟨_, _, _, _, rfl, BCase.yes hk1 ?_⟩
        refine callK (ref14_Same_ok ho3.all (hs.below hB3)) ?_
        rintro _ w4 ⟨rfl, hb4⟩
        exact ⟨_, rfl, by simp, below_step hB3 hb4 hB3.size⟩
end Go.Proofs.Ytdamklkdjknnpaa
