/- Rows that are owned, in the words of the library's contracts (Holds, putRow). Its conditions: none. -/
import Derived.Test.YtdamklkdjknnpaaR
import Derived.Sort.Row
import Derived.Sort.Grow
import Derived.Sort.EncStr
set_option linter.unusedVariables false
set_option linter.unusedSimpArgs false
namespace Go.Pk
open Go.RowKit (Below)
open Go.Sort (Holds putRow grow putCells mapBlock)

theorem Ow.trunc {α : Type} {T : Ty α} {t : TypeId} {w : World} {A : Bl} {a : Option Addr} {n c : Nat} {xs : List α} (h : Ow T t w A a n c xs) {ys zs : List α} (e : xs = ys ++ zs) : Ow T t w A a ys.length c ys := by
  obtain ⟨h1, h2, h3, h4⟩ := h
  subst e h1
  refine ⟨rfl, by simp at h2; omega, h3, ?_⟩
  rcases h4 with ⟨e1, e2, e3⟩ | ⟨g, cur, fr, e, hh, hf, hs, h4⟩
  · exact .inl ⟨e1, e2, (List.append_eq_nil_iff.1 e3).1⟩
  · refine .inr ⟨g, cur, fr, e, hh, hf, hs, ?_⟩
    have hl := h4.len
    have e1 : cur.toList.take (ys.length * T.k) = (cur.toList.take ((ys ++ zs).length * T.k)).take (ys.length * T.k) := by
      rw [List.take_take]; congr 1
      rw [List.length_append, Nat.add_mul]; omega
    refine ⟨?_, fun i hi => ?_⟩
    · rw [e1, List.length_take, hl, List.length_append, Nat.add_mul]; omega
    · have h5 := h4.rep i (by simp; omega)
      rw [List.getElem_append_left hi] at h5
      have hb : i * T.k + T.k ≤ ys.length * T.k := by
        have := Nat.mul_le_mul_right T.k (show i + 1 ≤ ys.length from hi)
        rwa [Nat.add_mul, Nat.one_mul] at this
      rw [e1, List.drop_take, List.take_take]
      rw [show min T.k (ys.length * T.k - i * T.k) = T.k by omega]
      exact h5

theorem Ow.holds {α : Type} [Inhabited α] {e : α → Value} {h1 : ∀ x, (e x).oneCell' = true} {p : α → Prop} {t : TypeId} {w : World} {A : Bl} {g n c : Nat} {xs : List α}
    (h : Ow (Ty.enc e h1 p) t w A (some ⟨g, 0, none⟩) n c xs) : Holds e w g 0 xs.toArray ∧ g < w.heap.size := by
  obtain ⟨h1', h2, h3, h4⟩ := h
  rcases h4 with ⟨e1, _⟩ | ⟨g', cur, fr, e', hh, hf, hs, h4⟩
  · cases e1
  · cases e'
    refine ⟨fun j hj => ?_, (Array.getElem?_eq_some_iff.1 hh).1⟩
    have hj' : j < xs.length := by simpa using hj
    have hjc : j < cur.size := by rw [hs]; simp [Ty.enc]; omega
    have h5 := RepL_enc_eq h4
    refine ⟨?_, ?_⟩
    · rw [cell_row hh, Nat.zero_add]
      have h6 : (cur.toList.take (n * (Ty.enc e h1 p).k))[j]? = some (e xs[j]) := by rw [h5]; simp [hj']
      rw [List.getElem?_take] at h6
      split at h6
      · simp at h6 ⊢; rw [h6]; simp [hj']
      · cases h6
    · rw [Nat.zero_add]; exact frozen_row hh (hf j hjc)
/-- behind the library's work on a row -/
theorem Ow.put {α : Type} [Inhabited α] {e : α → Value} {h1 : ∀ x, (e x).oneCell' = true} {p : α → Prop} {t : TypeId} {w : World} {A : Bl} {g n c : Nat} {xs ys : List α}
    (h : Ow (Ty.enc e h1 p) t w A (some ⟨g, 0, none⟩) n c xs) (hl : ys.length = xs.length) (hp : ∀ y ∈ ys, p y) (q : Nat) (os : Array Obj) :
    Ow (Ty.enc e h1 p) t (grow (putRow e (Go.Sort.ahead w q) g 0 ys.toArray) os) A (some ⟨g, 0, none⟩) n c ys ∧ w.grownBy (grow (putRow e (Go.Sort.ahead w q) g 0 ys.toArray) os) (some g) := by
  obtain ⟨h1', h2, h3, h4⟩ := h
  rcases h4 with ⟨e1, _⟩ | ⟨g', cur, fr, e', hh, hf, hs, h4⟩
  · cases e1
  · cases e'
    have hlt := (Array.getElem?_eq_some_iff.1 hh).1
    have hsz : (putRow e (Go.Sort.ahead w q) g 0 ys.toArray).heap.size = w.heap.size := by simp [Go.Sort.ahead]
    have hh' : (grow (putRow e (Go.Sort.ahead w q) g 0 ys.toArray) os).heap[g]? = some (.cells (putCells e 0 ys.toArray cur) t fr) := by
      rw [Sort.heap_grow_old _ _ (by rw [hsz]; exact hlt)]
      show ((Go.Sort.ahead w q).heap.modify g _)[g]? = _
      rw [Array.getElem?_modify, if_pos rfl]
      show (w.heap[g]?).map _ = _
      rw [hh]; rfl
    refine ⟨⟨by rw [hl]; exact h1', h2, h3, .inr ⟨g, _, fr, rfl, hh', ?_, ?_, ?_⟩⟩, ?_⟩
    · intro i hi; exact hf i (by simpa [putCells] using hi)
    · simpa [putCells] using hs
    · have : (putCells e 0 ys.toArray cur).toList.take (n * (Ty.enc e h1 p).k) = ys.map e := by
        have hn : n * (Ty.enc e h1 p).k = ys.length := by rw [hl, h1']; simp [Ty.enc]
        have hcs : ys.length ≤ cur.size := by rw [hs, hl]; simp [Ty.enc]; omega
        rw [hn]
        apply List.ext_getElem?
        intro i
        rw [List.getElem?_take]
        by_cases hi : i < ys.length
        · rw [if_pos hi]
          have : i < cur.size := by omega
          simp [putCells, hi, this]
        · rw [if_neg hi]; simp [hi]
      rw [this]
      exact RepL_enc hp
    · refine ⟨rfl, rfl, rfl, by simp [grow, hsz], fun k hk hne => ?_⟩
      rw [Sort.heap_grow_old _ _ (by rw [hsz]; exact hk)]
      show ((Go.Sort.ahead w q).heap.modify g _)[k]? = _
      rw [Array.getElem?_modify, if_neg (fun e => hne (by rw [e]))]
      rfl
theorem Ow.put0 {α : Type} [Inhabited α] {e : α → Value} {h1 : ∀ x, (e x).oneCell' = true} {p : α → Prop} {t : TypeId} {w : World} {A : Bl} {g n c : Nat} {xs ys : List α}
    (h : Ow (Ty.enc e h1 p) t w A (some ⟨g, 0, none⟩) n c xs) (hl : ys.length = xs.length) (hp : ∀ y ∈ ys, p y) (q : Nat) :
    Ow (Ty.enc e h1 p) t (putRow e (Go.Sort.ahead w q) g 0 ys.toArray) A (some ⟨g, 0, none⟩) n c ys ∧ w.grownBy (putRow e (Go.Sort.ahead w q) g 0 ys.toArray) (some g) := by
  have := h.put hl hp q #[]
  rwa [Sort.grow_empty] at this
/-- a row that the kit owns is ours -/
theorem own_of_row {α : Type} {e : α → Value} {h1 : ∀ x, (e x).oneCell' = true} {p : α → Prop} {t : TypeId} {w : World} {B n : Nat} {v : Value} {xs : List α} (A : Bl) (h : w.ownsRow B t 1 v n (xs.map e)) (hn : n = xs.length) (hp : ∀ x ∈ xs, p x) :
    ∃ a c, v = .slice a n c ∧ Ow (Ty.enc e h1 p) t w A a n c xs ∧ Fresh B a := by
  rcases h.2 with ⟨rfl, h0⟩ | ⟨g, cap, cur, rfl, hb, hg, hle, hm, hs, ht⟩
  · have : xs = [] := List.eq_nil_of_length_eq_zero (by omega)
    subst this
    exact ⟨none, 0, by rw [h0], by rw [h0]; exact Ow.nil _ _ _ _, Fresh.none _⟩
  · refine ⟨_, cap, rfl, ⟨hn, hle, hm, .inr ⟨g, cur, (0, 0), rfl, hg, fun i _ => by simp, by simpa [Ty.enc] using hs, ?_⟩⟩, fun x hx => by simp [ownB] at hx; omega⟩
    show RepL _ _ _ (cur.toList.take (n * 1)) xs
    rw [ht]; exact RepL_enc hp
end Go.Pk
