/- What came in as slices, as what the contracts ask. Its conditions: none. -/
import Derived.Test.YtmlcilfcaogdcaaGreatDoorR
import Derived.Sort.Row
import Derived.SliceStrings
namespace Go.Pk
open Go.RowKit (Below)

theorem sl_of {α : Type} {e : α → Value} {h1 : ∀ x, (e x).oneCell' = true} {p : α → Prop} {w : World} {a : Addr} {len cap : Nat} {xs : List α} (hlen : xs.length = len) (hp : ∀ x ∈ xs, p x) (hl : len ≤ cap) (hm : cap ≤ maxLen)
    (hc : ∀ i (h : i < xs.length), w.cell? (a.add i) = some (e xs[i])) : Sl (Ty.enc e h1 p) w AllB (some a) len cap xs := by
  refine ⟨hlen.symm, hl, hm, ?_⟩
  by_cases h0 : xs.length = 0
  · exact .inl (List.eq_nil_of_length_eq_zero h0)
  · obtain ⟨b, off, spot⟩ := a
    have hc0 := hc 0 (by omega)
    have hspot : spot = none := by simpa [Addr.add] using World.cell?_spot hc0
    subst hspot
    rw [add_none] at hc0
    obtain ⟨cs, t, fr, hh, _⟩ := Go.Sort.cells_of_cell? hc0
    refine .inr ⟨b, off, rfl, (Array.getElem?_eq_some_iff.1 hh).1, trivial, xs.map e, RepL_enc hp, fun j hj => ?_⟩
    have hj' : j < xs.length := by simpa using hj
    have := hc j hj'
    rw [add_none] at this
    rw [this]; simp [hj']
/-- a slice of integers that came in -/
theorem sl_ints {k : IntKind} {w : World} {a : Option Addr} {len cap : Nat} {zs : List Int}
    (h : (a = none ∧ len = 0 ∧ cap = 0 ∧ zs = []) ∨ ∃ x, a = some x ∧ len ≤ cap ∧ cap ≤ maxLen ∧ zs.length = cap ∧ (∀ i, i < zs.length → w.cell? (x.add i) = some (.int k (zs.getD i 0))) ∧ ∀ n ∈ zs, (Lit.int k n).wf = true) :
    Sl (tInt k fun n => (Lit.int k n).wf = true) w AllB a len cap (zs.take len) := by
  rcases h with ⟨rfl, rfl, rfl, rfl⟩ | ⟨x, rfl, hl, hm, hz, hcell, hwf⟩
  · exact Sl.nil _ _ _ _ _ (Nat.zero_le _)
  · refine sl_of (by rw [List.length_take]; omega) (fun n hn => hwf n (List.mem_of_mem_take hn)) hl hm fun i hi => ?_
    rw [List.length_take] at hi
    rw [hcell i (by omega)]
    simp [List.getD, show i < zs.length by omega]
theorem sl_weak {α : Type} {e : α → Value} {h1 : ∀ x, (e x).oneCell' = true} {p q : α → Prop} {w : World} {A : Bl} {a : Option Addr} {n c : Nat} {xs : List α} (h : Sl (Ty.enc e h1 p) w A a n c xs) (hq : ∀ x ∈ xs, p x → q x) : Sl (Ty.enc e h1 q) w A a n c xs := by
  obtain ⟨h1', h2, h3, h4⟩ := h
  refine ⟨h1', h2, h3, ?_⟩
  rcases h4 with h4 | ⟨b, off, e', hb, hab, l, hl, hc⟩
  · exact .inl h4
  · exact .inr ⟨b, off, e', hb, hab, l, ⟨hl.len, fun i hi => ⟨(hl.rep i hi).1, hq _ (List.getElem_mem hi) (hl.rep i hi).2⟩⟩, hc⟩
/-- a slice of texts that came in -/
theorem sl_strs {w : World} {a : Option Addr} {len cap : Nat} {ss : List ByteArray}
    (h : (a = none ∧ len = 0 ∧ cap = 0 ∧ ss = []) ∨ ∃ x, a = some x ∧ len ≤ cap ∧ cap ≤ maxLen ∧ ss.length = cap ∧ (∀ i, i < ss.length → w.cell? (x.add i) = some (.string (ss.getD i ByteArray.empty))) ∧ ∀ s ∈ ss, s.size ≤ maxLen) :
    Sl (tStr fun s => s.length ≤ maxLen) w AllB a len cap ((ss.take len).map toL) := by
  rcases h with ⟨rfl, rfl, rfl, rfl⟩ | ⟨x, rfl, hl, hm, hz, hcell, hwf⟩
  · exact Sl.nil _ _ _ _ _ (Nat.zero_le _)
  · refine sl_of (by rw [List.length_map, List.length_take]; omega) (fun s hs => ?_) hl hm fun i hi => ?_
    · obtain ⟨b, hb, rfl⟩ := List.mem_map.1 hs
      exact hwf b (List.mem_of_mem_take hb)
    · rw [List.length_map, List.length_take] at hi
      rw [hcell i (by omega)]
      simp only [List.getElem_map, List.getElem_take, mkS_toL]
      simp [List.getD, show i < ss.length by omega]
end Go.Pk
