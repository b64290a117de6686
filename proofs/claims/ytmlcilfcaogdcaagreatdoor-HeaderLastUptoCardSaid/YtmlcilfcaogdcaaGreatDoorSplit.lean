/- Plain laws: a text cut at a byte; strings.Cut, Split at one byte. Its conditions: none. -/
import Derived.Test.YtmlcilfcaogdcaaGreatDoorH
import Derived.Lib.SplitLaws
import Derived.Lib.IndexMore
set_option linter.unusedVariables false
set_option linter.unusedSimpArgs false
namespace Go.Pk
/-- the pieces between bytes; 'cur': what there is of the first one -/
def cutC (c : UInt8) : List UInt8 → List UInt8 → List (List UInt8)
  | cur, [] => [cur]
  | cur, x :: r => if x = c then cur :: cutC c [] r else cutC c (cur ++ [x]) r
theorem cutC_tok (c : UInt8) : ∀ (a cur r : List UInt8), (∀ x ∈ a, x ≠ c) → cutC c cur (a ++ c :: r) = (cur ++ a) :: cutC c [] r
  | [], cur, r, _ => by
    show (if c = c then _ else _) = _
    rw [if_pos rfl, List.append_nil]
  | x :: a, cur, r, ha => by
    show (if x = c then _ else _) = _
    rw [if_neg (ha x List.mem_cons_self)]
    exact (cutC_tok c a (cur ++ [x]) r fun y hy => ha y (List.mem_cons_of_mem _ hy)).trans (by simp)
theorem cutC_last (c : UInt8) : ∀ (a cur : List UInt8), (∀ x ∈ a, x ≠ c) → cutC c cur a = [cur ++ a]
  | [], cur, _ => by simp [cutC]
  | x :: a, cur, ha => by
    show (if x = c then _ else _) = _
    rw [if_neg (ha x List.mem_cons_self)]
    exact (cutC_last c a (cur ++ [x]) fun y hy => ha y (List.mem_cons_of_mem _ hy)).trans (by simp)
theorem cutC_at (c : UInt8) (s cur : List UInt8) (k : Nat) (h : k < s.length) : cutC c cur (s.drop k) = if s[k] = c then cur :: cutC c [] (s.drop (k + 1)) else cutC c (cur ++ [s[k]]) (s.drop (k + 1)) := by
  rw [List.drop_eq_getElem_cons h]; rfl
theorem cutC_ne (c : UInt8) : ∀ (s cur : List UInt8), cutC c cur s ≠ []
  | [], cur => by simp [cutC]
  | x :: s, cur => by
    show (if x = c then _ else _) ≠ _
    split
    · simp
    · exact cutC_ne c s _
theorem cutC_len (c : UInt8) : ∀ (s cur x : List UInt8), x ∈ cutC c cur s → x.length ≤ cur.length + s.length
  | [], cur, x, h => by simp [cutC] at h; subst h; simp
  | y :: r, cur, x, h => by
    unfold cutC at h
    split at h
    · rcases List.mem_cons.1 h with rfl | h
      · simp
      · have := cutC_len c r [] x h; simp at this ⊢; omega
    · have := cutC_len c r _ x h; simp at this ⊢; omega
theorem cutC_count (c : UInt8) : ∀ (s cur : List UInt8), (cutC c cur s).length ≤ s.length + 1
  | [], cur => by simp [cutC]
  | y :: r, cur => by
    unfold cutC
    split
    · have := cutC_count c r []; simp; omega
    · have := cutC_count c r (cur ++ [y]); simp; omega
/-- every byte of a piece is one of the text, none is the sign -/
theorem cutC_mem (c : UInt8) : ∀ (s cur x : List UInt8), x ∈ cutC c cur s → (∀ y ∈ cur, y ≠ c) → ∀ y ∈ x, (y ∈ cur ∨ y ∈ s) ∧ y ≠ c
  | [], cur, x, h, hc, y, hy => by simp [cutC] at h; subst h; exact ⟨.inl hy, hc y hy⟩
  | z :: r, cur, x, h, hc, y, hy => by
    unfold cutC at h
    split at h
    · rcases List.mem_cons.1 h with rfl | h
      · exact ⟨.inl hy, hc y hy⟩
      · have := cutC_mem c r [] x h (fun _ h => by cases h) y hy
        refine ⟨.inr (List.mem_cons_of_mem _ ?_), this.2⟩
        rcases this.1 with h | h
        · cases h
        · exact h
    · rename_i hz
      have := cutC_mem c r (cur ++ [z]) x h (fun y hy => by
        rcases List.mem_append.1 hy with h | h
        · exact hc y h
        · simp at h; subst h; exact hz) y hy
      refine ⟨?_, this.2⟩
      rcases this.1 with h | h
      · rcases List.mem_append.1 h with h | h
        · exact .inl h
        · simp at h; subst h; exact .inr List.mem_cons_self
      · exact .inr (List.mem_cons_of_mem _ h)
/-- cut at a place where the sign stands -/
theorem cutC_append (c : UInt8) : ∀ (s cur r : List UInt8), cutC c cur (s ++ c :: r) = cutC c cur s ++ cutC c [] r
  | [], cur, r => by
    show (if c = c then _ else _) = _
    rw [if_pos rfl]; rfl
  | x :: s, cur, r => by
    show (if x = c then cur :: cutC c [] (s ++ c :: r) else cutC c (cur ++ [x]) (s ++ c :: r)) = (if x = c then cur :: cutC c [] s else cutC c (cur ++ [x]) s) ++ cutC c [] r
    split
    · rw [cutC_append c s]; rfl
    · rw [cutC_append c s]

theorem index_byte (s : List UInt8) (c : UInt8) : (Lib.index s [c] = -1 ∧ ∀ x ∈ s, x ≠ c) ∨ ∃ i : Nat, Lib.index s [c] = (i : Int) ∧ ∃ h : i < s.length, s = s.take i ++ c :: s.drop (i + 1) ∧ ∀ x ∈ s.take i, x ≠ c := by
  induction s with
  | nil => exact .inl ⟨rfl, fun x h => by cases h⟩
  | cons b l ih =>
    by_cases h : b = c
    · subst h
      refine .inr ⟨0, by rw [Lib.index]; simp [List.isPrefixOf], by simp, rfl, fun x h => by simp at h⟩
    · have hp : ([c] : List UInt8).isPrefixOf (b :: l) = false := by simp [List.isPrefixOf, Ne.symm h]
      have hix : Lib.index (b :: l) [c] = if Lib.index l [c] == -1 then -1 else Lib.index l [c] + 1 := by rw [Lib.index, hp]; simp
      rcases ih with ⟨h1, h2⟩ | ⟨i, h1, h2, h3, h4⟩
      · refine .inl ⟨by rw [hix, h1]; rfl, fun x hx => ?_⟩
        rcases List.mem_cons.1 hx with rfl | hx
        · exact h
        · exact h2 x hx
      · refine .inr ⟨i + 1, ?_, by simpa using h2, ?_, fun x hx => ?_⟩
        · rw [hix, h1, if_neg (by rw [beq_iff_eq]; omega)]; omega
        · simp only [List.take_succ_cons, List.drop_succ_cons, List.cons_append]
          rw [← h3]
        · rw [List.take_succ_cons] at hx
          rcases List.mem_cons.1 hx with rfl | hx
          · exact h
          · exact h4 x hx
theorem splitK_byte (c : UInt8) : ∀ (n : Nat) (s : List UInt8), s.length ≤ n → Lib.splitK [c] 0 (Lib.count s [c]) s = cutC c [] s
  | n, s, hn => by
    rcases index_byte s c with ⟨h1, h2⟩ | ⟨i, h1, h2, h3, h4⟩
    · rw [Lib.count_miss h1, cutC_last c s [] h2]; rfl
    · have hc := Lib.count_hit (s := s) (sub := [c]) (by simp) h1
      cases n with
      | zero => omega
      | succ n =>
        have ih := splitK_byte c n (s.drop (i + 1)) (by rw [List.length_drop]; omega)
        rw [hc, Nat.add_comm 1]
        unfold Lib.splitK
        rw [if_neg (by rw [h1, beq_iff_eq]; omega), h1]
        simp only [Int.toNat_natCast, Nat.add_zero, List.length_cons, List.length_nil, Nat.zero_add]
        rw [ih]
        conv => rhs; rw [h3, cutC_tok c _ _ _ h4]
        simp
theorem countB_data (s c : List UInt8) : Lib.countB (mkS s) (mkS c) = Lib.count s c := rfl
theorem split_cells (s : List UInt8) (c : UInt8) : (Lib.splitB (mkS [c]) 0 (Lib.countB (mkS s) (mkS [c])) (mkS s)).map Value.string = (cutC c [] s).map fun x => Value.string (mkS x) := by
  have h := Lib.splitB_data (mkS [c]) 0 (Lib.countB (mkS s) (mkS [c])) (mkS s)
  have h2 : Lib.splitK (mkS [c]).data.toList 0 (Lib.countB (mkS s) (mkS [c])) (mkS s).data.toList = cutC c [] s := splitK_byte c _ s (Nat.le_refl _)
  rw [h2] at h
  rw [← h, List.map_map]
  rfl
theorem split_count (s : List UInt8) (c : UInt8) : Lib.countB (mkS s) (mkS [c]) + 1 = (cutC c [] s).length := by
  have h := split_cells s c
  have h2 := congrArg List.length h
  rw [List.length_map, List.length_map, Lib.splitB_all (mkS [c]) (Nat.le_refl 1) 0 _ _ rfl] at h2
  exact h2
/-- strings.Cut at one byte -/
theorem cut_byte (s : List UInt8) (c : UInt8) : Lib.cut s [c] = if c ∈ s then (s.takeWhile (· != c), (s.dropWhile (· != c)).drop 1, true) else (s, [], false) := by
  unfold Lib.cut
  rcases index_byte s c with ⟨h1, h2⟩ | ⟨i, h1, h2, h3, h4⟩
  · rw [h1, if_neg (by omega), if_neg (fun h => h2 c h rfl)]
  · have hmem : c ∈ s := by rw [h3]; simp
    rw [h1, if_pos (by omega), if_pos hmem]
    have ht : s.takeWhile (· != c) = s.take i := by
      conv => lhs; rw [h3]
      rw [List.takeWhile_append_of_pos (by intro a ha; simpa using h4 a ha)]
      simp
    have hd : s.dropWhile (· != c) = c :: s.drop (i + 1) := by
      conv => lhs; rw [h3]
      rw [List.dropWhile_append_of_pos (by intro a ha; simpa using h4 a ha)]
      simp
    rw [ht, hd]; rfl
end Go.Pk
