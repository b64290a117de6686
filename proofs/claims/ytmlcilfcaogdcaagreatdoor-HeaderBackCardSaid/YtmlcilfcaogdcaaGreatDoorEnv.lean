/- What the library's functions ask of the program's variables, carried from world to world. Its conditions: none. -/
import Derived.Test.YtmlcilfcaogdcaaGreatDoorH
import Derived.Test.YtmlcilfcaogdcaaGreatDoorNames
import Derived.Lib.LaidTab
import Derived.Lib.ItoaMem
set_option linter.unusedVariables false
namespace Go.Pk
open Go.RowKit (Below)
theorem tab_same' {P : Program} {name : String} {k : IntKind} {zs : List Int} {w w' : World} (h : Lib.TabIs P w name k zs) (hb : ∀ b, b < w.heap.size → w'.heap[b]? = w.heap[b]?) : Lib.TabIs P w' name k zs := by
  unfold Lib.TabIs World.var? at h ⊢
  cases hg : P.globalNamed name with
  | none => rw [hg] at h; cases h
  | some g =>
    rw [hg] at h
    simp only [Option.bind_some] at h ⊢
    have hlt : g < w.heap.size := by
      cases hh : w.heap[g]? with
      | none => rw [hh] at h; cases h
      | some o => exact (Array.getElem?_eq_some_iff.1 hh).1
    rw [hb g hlt]; exact h
end Go.Pk
namespace Go.Proofs.YtmlcilfcaogdcaaGreatDoor
open Go.Pk
open Go.RowKit (Below)
/-- the tables hold what their initialisers lay; the library's limit holds a number -/
structure Env (w : World) : Prop where
  tab : Lib.TabIs Tryz.prog w "internal/strconv.uint64pow10" .u64 Lib.pow10Tab
  max : ∃ m : Int, w.cell? ⟨0, 0, none⟩ = some (.int .i64 m)
theorem cell_lt {w : World} {b o : Nat} {v : Value} (h : w.cell? ⟨b, o, none⟩ = some v) : b < w.heap.size := by
  cases hh : w.heap[b]? with
  | none => simp [World.cell?, hh] at h
  | some x => exact (Array.getElem?_eq_some_iff.1 hh).1
theorem Env.same {w w' : World} (h : Env w) (hb : ∀ b, b < w.heap.size → w'.heap[b]? = w.heap[b]?) : Env w' := by
  obtain ⟨m, hm⟩ := h.max
  exact ⟨tab_same' h.tab hb, m, by rw [cell_same (hb _ (cell_lt hm))]; exact hm⟩
theorem Env.step {w w' : World} (h : Env w) (hb : Below w.heap.size w w') : Env w' := h.same fun b hlt => hb.block b hlt
/-- the same where a row of one's own was written: what lies in other blocks is as it was -/
theorem Env.grown {w0 w w' : World} {row : Option Nat} (h0 : Env w0) (h : Env w) (hg : w.grownBy w' row) (hr : ∀ x, row = some x → w0.heap.size ≤ x) (hb : Below w0.heap.size w0 w) : Env w' :=
  h0.step (hb.grown hg hb.size hr)
end Go.Proofs.YtmlcilfcaogdcaaGreatDoor
