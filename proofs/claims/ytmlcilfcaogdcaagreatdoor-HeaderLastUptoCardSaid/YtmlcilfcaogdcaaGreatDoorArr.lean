/- Variables that are arrays or structs: a block of their cells. Its conditions: none. -/
import Derived.Test.YtmlcilfcaogdcaaGreatDoorR
set_option linter.unusedVariables false
set_option linter.unusedSimpArgs false
namespace Go.Pk
open Go.RowKit (Below)

/-- block k holds the cells vs, of the type t -/
def ArrAt (w : World) (k : Nat) (t : TypeId) (vs : List Value) : Prop := w.heap[k]? = some (.cells vs.toArray t (0, 0))
theorem ArrAt.new {w w' : World} {k : Nat} {t : TypeId} {vs : List Value} (hk : k = w.heap.size) (hw : w' = w.alloc (.cells vs.toArray t)) : ArrAt w' k t vs := by
  subst hk hw; exact heap_alloc_new w _
theorem ArrAt.lt {w : World} {k : Nat} {t : TypeId} {vs : List Value} (h : ArrAt w k t vs) : k < w.heap.size := (Array.getElem?_eq_some_iff.1 (show w.heap[k]? = _ from h)).1
theorem ArrAt.block {w w' : World} {k : Nat} {t : TypeId} {vs : List Value} (h : ArrAt w k t vs) (e : w'.heap[k]? = w.heap[k]?) : ArrAt w' k t vs := e.trans h
theorem ArrAt.below {w w' : World} {k : Nat} {t : TypeId} {vs : List Value} (h : ArrAt w k t vs) (hb : Below w.heap.size w w') : ArrAt w' k t vs := h.block (hb.block k h.lt)
theorem ArrAt.grown {w w' : World} {k : Nat} {t : TypeId} {vs : List Value} {row : Option Nat} (h : ArrAt w k t vs) (hg : w.grownBy w' row) (hne : some k ≠ row) : ArrAt w' k t vs := h.block (hg.block k h.lt hne)
theorem ArrAt.cell {w : World} {k : Nat} {t : TypeId} {vs : List Value} (h : ArrAt w k t vs) (i : Nat) : w.cell? ⟨k, i, none⟩ = vs[i]? := by rw [cell_row h]; simp
/-- part of it, one cell -/
theorem ArrAt.load1 {P : Program} {u : TypeId} {d : TypeDesc} (hu : P.underlying u = some d) (ha : aggD d = false) {w : World} {k : Nat} {t : TypeId} {vs : List Value} (h : ArrAt w k t vs) {i : Nat} {v : Value} (hv : vs[i]? = some v) :
    (Instr.loadAt u (.pointer (some ⟨k, i, none⟩))).run P w = .ok v w := loadVar_one hu ha (by rw [h.cell]; exact hv)
/-- part of it, more cells -/
theorem ArrAt.loadA {P : Program} {u : TypeId} {d : TypeDesc} {ti : TypeInfo} (hu : P.underlying u = some d) (ha : aggD d = true) (hi : P.info? u = some ti) {w : World} {k : Nat} {t : TypeId} {vs us : List Value} (h : ArrAt w k t vs) {i : Nat} (hl : us.length = ti.size)
    (hv : ∀ j, j < us.length → vs[i + j]? = us[j]?) : (Instr.loadAt u (.pointer (some ⟨k, i, none⟩))).run P w = .ok (.agg us.toArray) w :=
  loadVar_agg hu ha hi hl fun j hj => by rw [h.cell]; exact hv j hj
theorem ArrAt.res {P : Program} {u : TypeId} {p : Addr} {w w' : World} {v : Value} (h : (Instr.loadAt u (.pointer (some p))).run P w = .ok v w') : (resAt u (.pointer (some p))).run P w = .ok v w' := h
/-- a store into a part of it -/
theorem ArrAt.store {P : Program} {u : TypeId} {bytes n : Nat} {z : Value} (tf : TF P u n bytes z) {w : World} {k : Nat} {t : TypeId} {vs : List Value} (h : ArrAt w k t vs) {i : Nat} {v : Value} (hs : v.cells.size = n) (hfit : i + n ≤ vs.length) (h1 : ∀ c ∈ v.cells.toList, c.oneCell' = true) :
    ∃ w', (Instr.storeAt u (.pointer (some ⟨k, i, none⟩)) v).run P w = .ok () w' ∧ ArrAt w' k t (vs.take i ++ v.cells.toList ++ vs.drop (i + n)) ∧ w.grownBy w' (some k) := by
  obtain ⟨ti, hti, hsz, _, _⟩ := tf.info
  refine ⟨_, run_storeVar_row hti (o := i) h (fun i _ => by simp) (by rw [hs, hsz]) (by rw [hsz]; simpa using hfit) h1, ?_, setRow_grown w k _⟩
  have := setRow_heap w k vs.toArray (vs.take i ++ v.cells.toList ++ vs.drop (i + n)).toArray t (0, 0) h
  rw [← hs] at this ⊢
  exact this
end Go.Pk
