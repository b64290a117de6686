/- Contracts of the methods of alphabets. Its conditions: none. -/
import Derived.Test.YtdamklkdjknnpaaSymE
import Derived.Test.YtdamklkdjknnpaaSymQ
set_option linter.unusedVariables false
set_option linter.unusedSimpArgs false
set_option maxRecDepth 20000
namespace Go.Proofs.Ytdamklkdjknnpaa
open Go.Pk
open Go.RowKit (Below)

theorem lookK_idxs {ts : List Txt} (hp : ts.Pairwise (· < ·)) (s : Txt) : lookK s (idxs ts) = if s ∈ ts then some (ofT ts s) else none := by
  by_cases h : s ∈ ts
  · rw [if_pos h]
    obtain ⟨i, hi, rfl⟩ := List.getElem_of_mem h
    rw [ofT_get hp hi]
    have e : ts = ts.take i ++ [ts[i]] ++ ts.drop (i + 1) := by
      rw [← take_snoc hi, List.take_append_drop]
    have hno : ts[i] ∉ ts.take i := fun hmem => by
      obtain ⟨j, hj, e⟩ := List.getElem_of_mem hmem
      rw [List.length_take] at hj
      rw [List.getElem_take] at e
      have := List.pairwise_iff_getElem.1 hp j i (by omega) hi (by omega)
      rw [e] at this
      exact List.lt_irrefl _ this
    have e2 : idxs ts = idxs (ts.take i ++ [ts[i]]) ++ ((ts.drop (i + 1)).zipIdx (i + 1)).map fun p => (p.1, ((p.2 : Nat) : Int)) := by
      conv => lhs; rw [e]
      unfold idxs
      rw [List.zipIdx_append, List.map_append]
      congr 2
      simp; congr 1; omega
    rw [e2, lookK_append, idxs_snoc, lookK_append, lookK_idxs_none hno]
    simp [lookK]; omega
  · rw [if_neg h]; exact lookK_idxs_none h

theorem Alpha.pw {w : World} {p : Option Addr} {ts : List Txt} (h : Alpha w p ts) : ts.Pairwise (· < ·) := by
  obtain ⟨b, a, n, c, m, cs, fr, _, _, _, _, _, h⟩ := h; exact h
theorem Alpha.nd {w : World} {p : Option Addr} {ts : List Txt} (h : Alpha w p ts) : ts.Nodup := h.pw.imp fun {a b} h e => by subst e; exact List.lt_irrefl a h
theorem Alpha.some {w : World} {p : Option Addr} {ts : List Txt} (h : Alpha w p ts) : Option.isSome p = true := by
  obtain ⟨b, a, n, c, m, cs, fr, rfl, _⟩ := h; rfl
theorem Alpha.load0 {w : World} {p : Option Addr} {ts : List Txt} (h : Alpha w p ts) : ∃ a n c, (Instr.loadAt T_sl_string (.pointer (Option.map (fun x => x.add 0) p))).run Try.prog w = .ok (.slice a n c) w ∧ Sl tS w AllB a n c ts := by
  obtain ⟨b, a, n, c, m, cs, fr, rfl, h2, rfl, h4, _⟩ := h
  refine ⟨a, n, c, ?_, h4⟩
  show (Instr.loadAt T_sl_string (.pointer (Option.some ((⟨b, 0, none⟩ : Addr).add 0)))).run Try.prog w = _
  rw [add_none]
  exact loadVar_one un_sl_string rfl (by rw [cell_row h2]; rfl)
theorem Alpha.load1 {w : World} {p : Option Addr} {ts : List Txt} (h : Alpha w p ts) : ∃ m, (Instr.loadAt T_map_string_int (.pointer (Option.map (fun x => x.add 1) p))).run Try.prog w = .ok (.map (Option.some m)) w ∧ MapAt w m (idxs ts) ∧ p.isSome = true := by
  obtain ⟨b, a, n, c, m, cs, fr, rfl, h2, rfl, h4, h5, _⟩ := h
  refine ⟨m, ?_, h5, rfl⟩
  show (Instr.loadAt T_map_string_int (.pointer (Option.some ((⟨b, 0, none⟩ : Addr).add 1)))).run Try.prog w = _
  rw [add_none]
  exact loadVar_one un_map_string_int rfl (by rw [cell_row h2]; rfl)

theorem symbol_Len_ok (p : Option Addr) (ts : List Txt) (hl : ts.length ≤ 1000000) (w : World) (h : Alpha w p ts) :
    Calls Try.prog f_symbol_Alphabet_Len #[.pointer p] w (Ret fun v w' => v = .int .i64 ((ts.length : Int) + 1) ∧ w' = w) := by
  apply run_symbol_Alphabet_Len
  unfold vc_symbol_Alphabet_Len
  obtain ⟨a, n, c, hr, hs⟩ := h.load0
  have hn := hs.len
  refine ⟨h.some, h.some, a, n, c, hr, ?_, rfl⟩
  rw [wrap_i64 (by omega) (by omega), hn]
theorem symbol_Of_ok (p : Option Addr) (ts : List Txt) (s : Txt) (w : World) (h : Alpha w p ts) :
    Calls Try.prog f_symbol_Alphabet_Of #[.pointer p, .string (mkS s)] w (Ret fun v w' => v = .int .i64 (ofT ts s) ∧ w' = w) := by
  apply run_symbol_Alphabet_Of
  unfold vc_symbol_Alphabet_Of
  obtain ⟨m, hr1, hm, hp⟩ := h.load1
  refine ⟨hp, hp, Option.some m, hr1, _, _, lookup_ok (z := .int .i64 0) un_map_string_int un_string tf_int hm s, ?_⟩
  rw [lookK_idxs h.pw]
  refine BCase.of (fun hc => ?_) (fun hc => ?_)
  · by_cases hs : s ∈ ts
    · rw [if_pos hs]; exact ⟨rfl, rfl⟩
    · rw [if_neg hs] at hc; simp at hc
  · by_cases hs : s ∈ ts
    · rw [if_pos hs] at hc; simp at hc
    · obtain ⟨a, n, c, hr, hsl⟩ := h.load0
      have hn := hsl.len
      refine ⟨hp, hp, a, n, c, hr, ?_, rfl⟩
      rw [hn]; unfold ofT; rw [if_neg hs]

/-- what the first i swaps make of xs -/
def revTo (xs : List UInt8) (i : Nat) : List UInt8 := (List.range xs.length).map fun k => if k < i ∨ xs.length ≤ k + i then xs[xs.length - 1 - k]?.getD 0 else xs[k]?.getD 0
theorem revTo_len (xs : List UInt8) (i : Nat) : (revTo xs i).length = xs.length := by simp [revTo]
theorem revTo_zero (xs : List UInt8) : revTo xs 0 = xs := by
  apply List.ext_getElem
  · simp [revTo]
  · intro k h1 h2
    have : ¬ xs.length ≤ k := by omega
    simp [revTo, this, h2]
theorem revTo_end (xs : List UInt8) (i : Nat) (h : xs.length ≤ 2 * i + 1) : revTo xs i = xs.reverse := by
  apply List.ext_getElem
  · simp [revTo]
  · intro k h1 h2
    have hk : k < xs.length := by simpa using h2
    simp only [revTo, List.getElem_map, List.getElem_range, List.getElem_reverse]
    by_cases c : k < i ∨ xs.length ≤ k + i
    · rw [if_pos c, List.getElem?_eq_getElem (by omega)]; rfl
    · rw [if_neg c]
      have : xs.length - 1 - k = k := by omega
      rw [List.getElem?_eq_getElem hk]; simp only [this]; rfl
theorem revTo_get (xs : List UInt8) (i k : Nat) (hk : k < (revTo xs i).length) (h : ¬ (k < i ∨ xs.length ≤ k + i)) : (revTo xs i)[k] = xs[k]'(by rw [revTo_len] at hk; exact hk) := by
  have hk' : k < xs.length := by rw [revTo_len] at hk; exact hk
  simp only [revTo, List.getElem_map, List.getElem_range]
  rw [if_neg h, List.getElem?_eq_getElem hk']; rfl
theorem revTo_succ (xs : List UInt8) (i : Nat) (h : 2 * i + 1 < xs.length) :
    ((revTo xs i).set i (xs[xs.length - 1 - i]'(by omega))).set (xs.length - 1 - i) (xs[i]'(by omega)) = revTo xs (i + 1) := by
  apply List.ext_getElem
  · simp [revTo]
  · intro k h1 h2
    have hk : k < xs.length := by rw [revTo_len] at h2; exact h2
    rw [List.getElem_set, List.getElem_set]
    simp only [revTo, List.getElem_map, List.getElem_range]
    by_cases c1 : xs.length - 1 - i = k
    · rw [if_pos c1, if_pos (by omega), List.getElem?_eq_getElem (by omega)]
      have : xs.length - 1 - k = i := by omega
      simp only [this]; rfl
    · rw [if_neg c1]
      by_cases c2 : i = k
      · subst c2
        rw [if_pos rfl, if_pos (by omega), List.getElem?_eq_getElem (by omega)]; rfl
      · rw [if_neg c2]
        by_cases c3 : k < i ∨ xs.length ≤ k + i
        · rw [if_pos c3, if_pos (by omega)]
        · rw [if_neg c3, if_neg (by omega)]

theorem reverse_ok (a : Option Addr) (n c : Nat) (xs : List UInt8) (hl : xs.length ≤ 1000000) (w : World) (ho : Ow tU8 T_uint8 w NoB a n c xs) :
    Calls Try.prog f_slices_Reverse_byte_byte #[.slice a n c] w (Ret fun v w' => v = .tuple #[] ∧ Ow tU8 T_uint8 w' NoB a n c xs.reverse ∧ w.grownBy w' (ownB a)) := by
  apply run_slices_Reverse_byte_byte
  unfold vc_slices_Reverse_byte_byte
  have hn := ho.len
  subst hn
  refine ⟨fun m i j w' => ∃ k : Nat, 2 * k ≤ xs.length ∧ i = (k : Int) ∧ j = (xs.length : Int) - 1 - k ∧ m = xs.length - k ∧ Ow tU8 T_uint8 w' NoB a xs.length c (revTo xs k) ∧ w.grownBy w' (ownB a),
    ⟨_, 0, by omega, rfl, ?_, rfl, by rw [revTo_zero]; exact ho, ⟨rfl, rfl, rfl, Nat.le_refl _, fun _ _ _ => rfl⟩⟩, ?_⟩
  · rw [wrap_i64 (by omega) (by omega)]; omega
  intro m i j
  refine AllJ.of ?_ _
  rintro w' ⟨k, hk, rfl, rfl, rfl, ho', hg⟩
  refine BCase.of (fun h => ?_) (fun h => ?_) <;> simp at h
  · have hk2 : 2 * k + 1 < xs.length := by omega
    have hsm := (ho'.below (below_drew w')).all.isSome (i := 0) (by rw [revTo_len]; omega)
    have hod : Ow tU8 T_uint8 w'.drew NoB a xs.length c (revTo xs k) := ho'.below (below_drew w')
    have hgd : w.grownBy w'.drew (ownB a) := ⟨hg.os, hg.tape, hg.output, hg.size, hg.block⟩
    have hin1 : (0 : Int) ≤ (xs.length : Int) - 1 - k ∧ (xs.length : Int) - 1 - k < (xs.length : Int) := by omega
    have hin2 : (0 : Int) ≤ (k : Int) ∧ (k : Int) < (xs.length : Int) := by omega
    have et : ((xs.length : Int) - 1 - k).toNat = xs.length - 1 - k := by omega
    obtain ⟨v1, hv1, hr1⟩ := hod.all.load1 (i := (xs.length : Int) - 1 - k) un_uint8 rfl rfl (by rw [revTo_len, et]; omega)
    obtain ⟨v2, hv2, hr2⟩ := hod.all.load1 (i := (k : Int)) un_uint8 rfl rfl (by rw [revTo_len]; simp; omega)
    have e1 := u8_rep hr1
    have e2 := u8_rep hr2
    simp only [et] at e1
    simp only [Int.toNat_natCast] at e2
    rw [revTo_get _ _ _ _ (by omega)] at e1 e2
    subst e1 e2
    obtain ⟨w3, hs3, ho3, hg3⟩ := hod.store (P := Try.prog) (bytes := 1) (z := .int .u8 0) tf_uint8 (fun _ _ h => h) (i := (k : Int)) (by rw [revTo_len]; simp; omega) (k := 1) rfl (v := .int .u8 ((xs[xs.length - 1 - k]'(by omega)).toNat : Nat)) (rep_u8 rfl)
    obtain ⟨w4, hs4, ho4, hg4⟩ := ho3.store (P := Try.prog) (bytes := 1) (z := .int .u8 0) tf_uint8 (fun _ _ h => h) (i := (xs.length : Int) - 1 - k) (by rw [List.length_set, revTo_len, et]; omega) (k := 1) rfl (v := .int .u8 ((xs[k]'(by omega)).toNat : Nat)) (rep_u8 rfl)
    have hgt : w.grownBy w4 (ownB a) := ⟨(hg4.os.trans hg3.os).trans hgd.os, (hg4.tape.trans hg3.tape).trans hgd.tape, (hg4.output.trans hg3.output).trans hgd.output, Nat.le_trans hgd.size (Nat.le_trans hg3.size hg4.size),
      fun q hq hne => ((hg4.block q (Nat.lt_of_lt_of_le hq (Nat.le_trans hgd.size hg3.size)) hne).trans (hg3.block q (Nat.lt_of_lt_of_le hq hgd.size) hne)).trans (hgd.block q hq hne)⟩
    have hend : ∃ m' : Nat, m' < xs.length - k ∧ ∃ k' : Nat, 2 * k' ≤ xs.length ∧ IntKind.i64.wrap ((k : Int) + 1) = (k' : Int) ∧ IntKind.i64.wrap ((xs.length : Int) - 1 - k - 1) = (xs.length : Int) - 1 - k' ∧ m' = xs.length - k' ∧ Ow tU8 T_uint8 w4 NoB a xs.length c (revTo xs k') ∧ w.grownBy w4 (ownB a) := by
      refine ⟨xs.length - (k + 1), by omega, k + 1, by omega, ?_, ?_, rfl, ?_, hgt⟩
      · rw [wrap_i64 (by omega) (by omega)]; omega
      · rw [wrap_i64 (by omega) (by omega)]; omega
      · rw [← revTo_succ xs k hk2]
        simp only [et, Int.toNat_natCast] at ho4
        exact ho4
    exact ⟨⟨hin1, hsm⟩, ⟨hin2, hsm⟩, ⟨_, hv1, _, hv2, ⟨hin2, hsm⟩, w3, hs3, ⟨hin1, hsm⟩, w4, hs4, hend⟩, _, hv2, _, hv1, ⟨hin2, hsm⟩, w3, hs3, ⟨hin1, hsm⟩, w4, hs4, hend⟩
  · refine ⟨rfl, ?_, hg⟩
    rw [← revTo_end xs k (by omega)]; exact ho'
end Go.Proofs.Ytdamklkdjknnpaa
