/- Plain laws of texts as a sorted list, each once. Its conditions: none. -/
import Derived.Lib.SlicesCompact
import Derived.Lib.RowBridge
set_option linter.unusedVariables false
set_option linter.unusedSimpArgs false
namespace Go.Pk
abbrev Txt := List UInt8
/-- texts in order, each once -/
def setL (l : List Txt) : List Txt := Lib.compact (l.mergeSort fun x y => decide (x ≤ y))

theorem txt_le_iff {a b : Txt} : a ≤ b ↔ ¬ b < a := Iff.rfl
theorem txt_lt_of_le_ne {a b : Txt} (h : a ≤ b) (hne : a ≠ b) : a < b := by
  have := List.le_iff_lt_or_eq.1 h
  exact this.resolve_right hne
theorem srt_pw (l : List Txt) : (l.mergeSort fun x y => decide (x ≤ y)).Pairwise (· ≤ ·) := by
  have h := List.pairwise_mergeSort (le := fun (x y : Txt) => decide (x ≤ y)) (fun a b c h1 h2 => by simp only [decide_eq_true_eq] at *; exact List.le_trans h1 h2)
    (fun a b => by simp only [Bool.or_eq_true, decide_eq_true_eq]; exact List.le_total a b) l
  exact h.imp fun h => by simpa using h
theorem upTo_law (d : List Txt) (hs : d.Pairwise (· ≤ ·)) : ∀ m, m ≤ d.length → (Lib.compactUpTo d.toArray m).Pairwise (· < ·) ∧ (∀ x, x ∈ Lib.compactUpTo d.toArray m ↔ x ∈ d.take m) := by
  intro m
  induction m with
  | zero => intro _; simp [Lib.compactUpTo]
  | succ m ih =>
    intro hm
    obtain ⟨h1, h2⟩ := ih (by omega)
    have hlt : m < d.length := by omega
    have hd : d.toArray[m]! = d[m] := by simp [hlt]
    rw [Lib.compactUpTo_succ, List.take_succ_eq_append_getElem hlt, hd]
    by_cases hk : Lib.keeps d.toArray m = true
    · rw [if_pos hk]
      refine ⟨List.pairwise_append.2 ⟨h1, by simp, ?_⟩, fun x => by rw [List.mem_append, h2, List.mem_append]⟩
      intro x hx y hy
      have hy' : y = d[m] := by simpa using hy
      subst hy'
      have hx' := (h2 x).1 hx
      obtain ⟨i, hi, rfl⟩ := List.getElem_of_mem hx'
      rw [List.length_take] at hi
      rw [List.getElem_take]
      have hm0 : m ≠ 0 := by omega
      simp only [Lib.keeps, decide_eq_true_eq] at hk
      have hne := hk.resolve_left hm0
      have hd1 : d.toArray[m - 1]! = d[m - 1] := by simp [show m - 1 < d.length by omega]
      rw [hd, hd1] at hne
      have hle1 : d[m - 1] ≤ d[m] := List.pairwise_iff_getElem.1 hs (m - 1) m (by omega) hlt (by omega)
      have hlt1 := txt_lt_of_le_ne hle1 (fun e => hne e.symm)
      by_cases hi1 : i = m - 1
      · subst hi1; exact hlt1
      · have hle0 : d[i] ≤ d[m - 1] := List.pairwise_iff_getElem.1 hs i (m - 1) (by omega) (by omega) (by omega)
        exact List.lt_of_le_of_lt hle0 hlt1
    · rw [if_neg hk]
      refine ⟨by simpa using h1, fun x => ?_⟩
      rw [List.append_nil, h2, List.mem_append]
      refine ⟨.inl, fun h => h.elim id fun h => ?_⟩
      have hx : x = d[m] := by simpa using h
      subst hx
      simp only [Lib.keeps, decide_eq_true_eq, not_or, Classical.not_not] at hk
      obtain ⟨hm0, he⟩ := hk
      have hd1 : d.toArray[m - 1]! = d[m - 1] := by simp [show m - 1 < d.length by omega]
      rw [hd, hd1] at he
      rw [he]
      exact List.mem_take_iff_getElem.2 ⟨m - 1, by omega, rfl⟩
theorem setL_lt (l : List Txt) : (setL l).Pairwise (· < ·) := (upTo_law _ (srt_pw l) _ (Nat.le_refl _)).1
theorem mem_setL {l : List Txt} {x : Txt} : x ∈ setL l ↔ x ∈ l := by
  have := (upTo_law _ (srt_pw l) _ (Nat.le_refl _)).2 x
  unfold setL Lib.compact
  rw [this, List.take_length, List.mem_mergeSort]
theorem setL_nodup (l : List Txt) : (setL l).Nodup := (setL_lt l).imp fun {a b} h e => by subst e; exact List.lt_irrefl a h
theorem setL_len (l : List Txt) : (setL l).length ≤ l.length := by
  have := Lib.compact_length_le (l.mergeSort fun x y => decide (x ≤ y))
  rw [List.length_mergeSort] at this
  exact this
end Go.Pk
