/- A part of a slice, from a place on. Its conditions: none. -/
import Derived.Test.YtmlcilfcaogdcaaGreatDoorH
set_option linter.unusedVariables false
set_option linter.unusedSimpArgs false
namespace Go.Pk
theorem RepL.drop {α : Type} {T : Ty α} {w : World} {A : Bl} {l : List Value} {xs : List α} (h : RepL T w A l xs) (j : Nat) : RepL T w A (l.drop (j * T.k)) (xs.drop j) := by
  refine ⟨by rw [List.length_drop, List.length_drop, h.len, Nat.sub_mul], fun i hi => ?_⟩
  have hi' : j + i < xs.length := by rw [List.length_drop] at hi; omega
  have := h.rep (j + i) hi'
  rw [List.drop_drop, List.getElem_drop]
  rw [Nat.add_mul] at this
  exact this
theorem Sl.from {α : Type} {T : Ty α} {w : World} {A : Bl} {a : Option Addr} {n c : Nat} {xs : List α} (h : Sl T w A a n c xs) (j : Nat) (hj : j ≤ xs.length) {k : Nat} (hk : T.k = k) : Sl T w A (subAddr a c j k) (n - j) (c - j) (xs.drop j) := by
  subst hk
  obtain ⟨h1, h2, h3, h4⟩ := h
  refine ⟨by rw [List.length_drop, h1], by omega, by omega, ?_⟩
  rcases h4 with h4 | ⟨b, off, e, hb, hab, l, h5, h6⟩
  · left; rw [h4]; simp
  · by_cases hc : c = j
    · left
      exact List.drop_eq_nil_of_le (by omega)
    · right
      refine ⟨b, off + j * T.k, ?_, hb, hab, l.drop (j * T.k), h5.drop j, fun i hi => ?_⟩
      · unfold subAddr; rw [if_neg hc, e, Option.map_some, add_none]
      · rw [List.length_drop] at hi
        rw [Nat.add_assoc, h6 _ (by omega), List.getElem?_drop]
end Go.Pk
