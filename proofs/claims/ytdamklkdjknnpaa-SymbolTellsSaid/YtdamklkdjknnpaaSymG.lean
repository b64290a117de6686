/- Contracts of names and fresh texts of alphabets. Its conditions: none. -/
import Derived.Test.YtdamklkdjknnpaaSymF
set_option linter.unusedVariables false
set_option linter.unusedSimpArgs false
set_option maxRecDepth 20000
namespace Go.Proofs.Ytdamklkdjknnpaa
open Go.Pk
open Go.RowKit (Below)

theorem letter_at (r : Nat) (h : r < 38) : byteAt [97, 98, 99, 100, 101, 102, 103, 104, 105, 106, 107, 108, 109, 110, 111, 112, 113, 114, 115, 116, 117, 118, 119, 120, 121, 122, 48, 49, 50, 51, 52, 53, 54, 55, 56, 57, 45, 95] (r : Int) = (((letter r).toNat : Nat) : Int) := by
  rw [byteAt_get (by simpa using h)]
  unfold letter
  rw [List.getElem?_eq_getElem (by simpa [lettersL] using h)]
  rfl

/-- digits that were written, and the number that is left -/
theorem symbol_name_ok (n : Nat) (hn : n ≤ 1000000) (w : World) : Calls Try.prog f_symbol_name #[.int .i64 (n : Int)] w (Ret fun v w' => v = .string (mkS (nameL n)) ∧ Below w.heap.size w w') := by
  apply run_symbol_name
  unfold vc_symbol_name
  refine ⟨fun m i a l c w' => ∃ (k : Nat) (xs : List UInt8), k ≤ n ∧ xs.length + k ≤ n ∧ i = (k : Int) ∧ m = k + 1 ∧ digs n = xs ++ digs k ∧ Ow tU8 T_uint8 w' NoB a l c xs ∧ Fresh w.heap.size a ∧ Below w.heap.size w w',
    ⟨_, n, [], Nat.le_refl _, by simp, rfl, rfl, rfl, Ow.nil _ _ _ _, Fresh.none _, Below.refl _ _⟩, ?_⟩
  intro m i a l c
  refine AllJ.of ?_ _
  rintro w' ⟨k, xs, hk, hx, rfl, rfl, hd, ho, hf, hb⟩
  refine BCase.of (fun h => ?_) (fun h => ?_) <;> simp at h
  · have e1 : IntKind.i64.wrap ((k : Int) - 1) = ((k - 1 : Nat) : Int) := by rw [wrap_i64 (by omega) (by omega)]; omega
    have e2 : Int.tmod ((k - 1 : Nat) : Int) 38 = (((k - 1) % 38 : Nat) : Int) := rfl
    have e3 : Int.tdiv ((k - 1 : Nat) : Int) 38 = (((k - 1) / 38 : Nat) : Int) := rfl
    rw [e1, e2, e3, wrap_i64 (by omega) (by omega), letter_at _ (by omega)]
    refine ⟨by decide, ⟨by omega, by simp; omega⟩, ?_⟩
    intro k1 w3 hk1 hw3
    have ho3 : Ow tU8 T_uint8 w3 NoB a l c xs := ho.below (hw3 ▸ below_alloc _ _)
    have hsrc : Src tU8 w3 NoB (some ⟨k1, 0, none⟩) 1 [letter ((k - 1) % 38)] := Src.new1F flat_u8 hk1 hw3 (rep_u8 rfl)
    obtain ⟨w4, a', n', c', hr, ho4, hgr, hfr⟩ := append_own (ty := T_sl_uint8) un_sl_uint8 tf_uint8 (by decide) ho3 (fun _ _ h => h) (cm := 1) hsrc (by simp; omega)
    refine ⟨w4, a', n', c', hr, by decide, (k - 1) / 38 + 1, by omega, (k - 1) / 38, xs ++ [letter ((k - 1) % 38)], by omega, ?_, rfl, rfl, ?_, ho4, ?_, ?_⟩
    · simp; omega
    · rw [hd, digs_pos (by omega)]; simp
    · subst hw3; exact hf.app (by have := hb.size; simp; omega) hfr
    · subst hw3; exact (below_step hb (below_alloc _ _) hb.size).grown hgr (by have := hb.size; simp; omega) hf
  · have : k = 0 := by omega
    subst this
    rw [digs_zero, List.append_nil] at hd
    refine callK (reverse_ok a l c xs (by omega) w' ho) ?_
    rintro _ w5 ⟨rfl, ho5, hg5⟩
    refine ⟨rfl, _, text_of un_sl_uint8 un_string un_uint8 ho5.all, ?_, hb.grown hg5 hb.size hf⟩
    unfold nameL; rw [hd]

theorem symbol_Fresh_ok (p : Option Addr) (ts : List Txt) (hl : ts.length ≤ 100000) (w : World) (h : Alpha w p ts) :
    Calls Try.prog f_symbol_Alphabet_Fresh #[.pointer p] w (Ret fun v w' => v = .string (mkS (freshT ts)) ∧ Below w.heap.size w w') := by
  apply run_symbol_Alphabet_Fresh
  unfold vc_symbol_Alphabet_Fresh
  refine ⟨fun m i w' => ∃ k : Nat, 1 ≤ k ∧ k ≤ ts.length + 1 ∧ i = (k : Int) ∧ m = ts.length + 2 - k ∧ (∀ j, 1 ≤ j → j < k → nameL j ∈ ts) ∧ Below w.heap.size w w',
    ⟨_, 1, by omega, by omega, rfl, rfl, fun j h1 h2 => by omega, Below.refl _ _⟩, ?_⟩
  intro m i
  refine AllJ.of ?_ _
  rintro w' ⟨k, hk1, hk2, rfl, rfl, hall, hb⟩
  have h' := h.below hb
  obtain ⟨r, hr, hm, hp⟩ := h'.load1
  refine ⟨hp, hp, some r, ?_, nameL k, ?_, (lookK (nameL k) (idxs ts)).getD 0, (lookK (nameL k) (idxs ts)).isSome, ?_, ?_⟩
  · intro u hu
    have hb' := h'
    obtain ⟨b, a, n, c, m, cs, fr, rfl, h2, rfl, h4, h5, _⟩ := h'
    have hh2 := (hu.block b (Array.getElem?_eq_some_iff.1 h2).1).trans h2
    have em : m = r := by
      have hr0 : (Instr.loadAt T_map_string_int (.pointer (Option.map (fun (x : Addr) => x.add 1) (some (⟨b, 0, none⟩ : Addr))))).run Try.prog w' = .ok (.map (some m)) w' := by
        show (Instr.loadAt T_map_string_int (.pointer (Option.some ((⟨b, 0, none⟩ : Addr).add 1)))).run Try.prog w' = _
        rw [add_none]
        exact loadVar_one un_map_string_int rfl (by rw [cell_row h2]; rfl)
      rw [hr0] at hr
      injection hr with hr _
      injection hr with hr
      exact Option.some.inj hr
    subst em
    show (Instr.loadAt T_map_string_int (.pointer (Option.some ((⟨b, 0, none⟩ : Addr).add 1)))).run Try.prog u = _
    rw [add_none]
    exact loadVar_one un_map_string_int rfl (by rw [cell_row hh2]; rfl)
  · intro u hu
    refine (symbol_name_ok k (by omega) u).mono ?_
    rintro _ w2 ⟨_, rfl, rfl, hb2⟩
    exact ⟨rfl, hb2.mono hu.size⟩
  · intro u hu
    exact lookup_ok (z := .int .i64 0) un_map_string_int un_string tf_int (hm.below hu) (nameL k)
  · intro wq hwq
    rw [lookK_idxs h.pw]
    refine BCase.of (fun hc => ?_) (fun hc => ?_)
    · refine callK (symbol_name_ok k (by omega) wq) ?_
      rintro _ w3 ⟨rfl, hb3⟩
      have hno : nameL k ∉ ts := fun hmem => by rw [if_pos hmem] at hc; simp at hc
      have hB := below_step hb hwq hb.size
      exact ⟨_, rfl, by rw [freshT_of ⟨hk1, hno, hall⟩], below_step hB hb3 hB.size⟩
    · have hyes : nameL k ∈ ts := by
        by_cases hmem : nameL k ∈ ts
        · exact hmem
        · rw [if_neg hmem] at hc; simp at hc
      have hall' : ∀ j, 1 ≤ j → j < k + 1 → nameL j ∈ ts := fun j h1 h2 => by
        by_cases e : j = k
        · rw [e]; exact hyes
        · exact hall j h1 (by omega)
      have hle := fresh_le hall'
      refine ⟨ts.length + 2 - (k + 1), by omega, k + 1, by omega, hle, ?_, rfl, hall', below_step hb hwq hb.size⟩
      rw [wrap_i64 (by omega) (by omega)]; omega

theorem symbol_Text_ok (p : Option Addr) (ts : List Txt) (hl : ts.length ≤ 100000) (i : Int) (w : World) (h : Alpha w p ts) :
    Calls Try.prog f_symbol_Alphabet_Text #[.pointer p, .int .i64 i] w (Ret fun v w' => v = .string (mkS (textT ts i)) ∧ Below w.heap.size w w') := by
  apply run_symbol_Alphabet_Text
  unfold vc_symbol_Alphabet_Text
  obtain ⟨a, n, c, hr, hs⟩ := h.load0
  have hn := hs.len
  refine ⟨fun w' => w' = w ∧ 0 ≤ i ∧ i < (ts.length : Int), ⟨fun b w' => w' = w ∧ b = decide (i < 0 ∨ i > (ts.length : Int)), ?_, ?_⟩, ?_⟩
  · refine BCase.of (fun hc => ?_) (fun hc => ?_) <;> simp at hc
    · exact ⟨rfl, by simp [hc]⟩
    · refine ⟨h.some, h.some, a, n, c, hr, rfl, ?_⟩
      rw [hn]; simp; omega
  · intro b
    refine AllJ.of ?_ _
    rintro _ ⟨rfl, rfl⟩
    refine BCase.of (fun hc => ?_) (fun hc => ?_) <;> simp at hc
    · refine ⟨?_, Below.refl _ _⟩
      unfold textT
      rw [if_neg (by omega), if_neg (by omega)]
    · refine ⟨h.some, h.some, a, n, c, hr, ?_⟩
      rw [hn]
      refine BCase.of (fun hc2 => ?_) (fun hc2 => ?_) <;> simp at hc2
      · refine callK (symbol_Fresh_ok p ts hl _ h) ?_
        rintro _ w2 ⟨rfl, hb⟩
        refine ⟨_, rfl, ?_, hb⟩
        unfold textT
        rw [if_pos hc2]
      · exact ⟨rfl, by omega, by omega⟩
  · refine AllJ.of ?_ _
    rintro _ ⟨rfl, h0, h1⟩
    have hi : i.toNat < ts.length := by omega
    obtain ⟨v, hv, hrep⟩ := hs.load1 (i := i) un_string rfl rfl hi
    obtain ⟨rfl, -⟩ := str_rep hrep
    refine ⟨h.some, h.some, a, n, c, hr, ⟨⟨by omega, by omega⟩, hs.isSome hi⟩, _, hv, ?_, Below.refl _ _⟩
    unfold textT
    rw [if_neg (by omega), if_pos ⟨h0, h1⟩, List.getElem?_eq_getElem hi]; rfl
end Go.Proofs.Ytdamklkdjknnpaa
