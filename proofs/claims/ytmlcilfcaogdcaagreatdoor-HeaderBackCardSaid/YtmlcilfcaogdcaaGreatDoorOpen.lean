/- What came in, opened: rows of cells that are read as data stand for lists; laid tables. Its conditions: none. -/
import Derived.Test.YtmlcilfcaogdcaaGreatDoorLaw
import Derived.ProofKit
import Derived.OpenShut
import Derived.Stop.LaidErr
import Derived.Lib.LaidTab
import Derived.Deep.DeepHandedRow
set_option linter.unusedVariables false
set_option linter.unusedSimpArgs false
namespace Go.Pk
/-- whatever is read as data of the type t stands for a value of T -/
def Opens {α : Type} (P : Program) (T : Ty α) (t : TypeId) : Prop :=
  ∀ (H : Type) (enc : TypeId × Value → H) (w : World) (fuel : Nat) (cs : List Value) (x : DataW H × List MemPlace), DataW.trod enc P w 0 (fun _ => true) true fuel t cs = some x → ∃ a, T.rep w AllB cs a
theorem opens_int {P : Program} {k : IntKind} {t : TypeId} (ht : P.underlying t = some (.int k)) : Opens P (tInt k fun n => (Lit.int k n).wf = true) t := fun H enc w fuel cs x h => by
  obtain ⟨n, e, _, hw⟩ := DataW.trod_int ht h
  exact ⟨n, e, hw⟩
theorem opens_bool {P : Program} {t : TypeId} (ht : P.underlying t = some .bool) : Opens P tBool t := fun H enc w fuel cs x h => by
  obtain ⟨b, e, _⟩ := DataW.trod_bool ht h
  exact ⟨b, e, trivial⟩
theorem opens_str {P : Program} {t : TypeId} (ht : P.underlying t = some .string) : Opens P (tStr fun s => s.length ≤ maxLen) t := fun H enc w fuel cs x h => by
  obtain ⟨s, e, _, hs⟩ := DataW.trod_string ht h
  exact ⟨toL s, e, hs⟩
/-- an array's cells -/
theorem opens_arr {α : Type} {P : Program} {T : Ty α} {t e : TypeId} {n : Nat} (ht : P.underlying t = some (.array n e)) (he : Opens P T e) (hk : P.cellsOf e = T.k) (hc : P.cellsOf t = n * T.k)
    {H : Type} {enc : TypeId × Value → H} {w : World} {fuel : Nat} {cs : List Value} {x : DataW H × List MemPlace} (h : DataW.trod enc P w 0 (fun _ => true) true fuel t cs = some x) : ∃ xs : List α, xs.length = n ∧ RepL T w AllB cs xs := by
  obtain ⟨ys, m, _, _, hl, hy, hel⟩ := DataW.trod_array ht h
  have hall : ∀ i, i < n → ∃ a, T.rep w AllB ((cs.drop (i * T.k)).take T.k) a := fun i hi => by
    have := hel i hi
    rw [hk, List.getElem?_eq_getElem (by omega)] at this
    exact he H enc w m _ _ this
  have build : ∀ j, j ≤ n → ∃ xs : List α, xs.length = j ∧ ∀ i (h : i < xs.length), T.rep w AllB ((cs.drop (i * T.k)).take T.k) xs[i] := by
    intro j
    induction j with
    | zero => intro _; exact ⟨[], rfl, fun i h => by cases h⟩
    | succ j ih =>
      intro hj
      obtain ⟨xs, h1, h2⟩ := ih (by omega)
      obtain ⟨a, ha⟩ := hall j hj
      refine ⟨xs ++ [a], by simp [h1], fun i hi => ?_⟩
      by_cases c : i < xs.length
      · rw [List.getElem_append_left c]; exact h2 i c
      · have : i = xs.length := by simp at hi; omega
        subst this
        rw [List.getElem_append_right (Nat.le_refl _)]
        simp only [Nat.sub_self, List.getElem_cons_zero]
        rw [h1]; exact ha
  obtain ⟨xs, h1, h2⟩ := build n (Nat.le_refl _)
  exact ⟨xs, h1, by rw [hl, hc, h1], h2⟩
theorem okWide_agg {P : Program} {w : World} {r : Reach} {base : Nat} {t : TypeId} {v : Value} {d : TypeDesc} (ht : P.underlying t = some d) (ha : aggD d = true) (h : Value.okWide P w r base t v) : ∃ cs : List Value, v = .agg cs.toArray := by
  unfold Value.okWide at h
  rw [ht] at h
  cases d <;> first | (obtain ⟨cs, rfl, _⟩ := h; exact ⟨cs.toList, by simp⟩) | (cases ha; done)
/-- there is an input that fits a row: from a world that is shaped -/
theorem witness_row_shaped {H : Type} {enc : TypeId × Value → H} {C : Checked} {os : Os} {f : FuncId} {fn : Func} {s : OpenSpec} {conds : List PathCond} {apart : Bool} {laid : List (String × DataW Unit)} (modest : Bool) (w0 : World) (args : Array Value) (hos : w0.os = os)
    (hsh : (w0.forCall (fun _ _ => 0) ⟨#[], args, []⟩).Shaped C.prog)
    (hok : Input.okWideB C.prog (w0.forCall (fun _ _ => 0) ⟨#[], args, []⟩) f ⟨#[], args, []⟩ = true)
    (hrow : s.preRow enc C.prog fn conds apart laid (w0.forCall (fun _ _ => 0) ⟨#[], args, []⟩).memory args) :
    ∃ (w : World) (tape : Tape) (i : Input), w.os = os ∧ (w.forCall tape i).Shaped C.prog ∧ i.vars = [] ∧ Input.okWide C.prog (w.forCall tape i) .any w.heap.size f i ∧
      s.preRow enc C.prog fn conds apart laid (w.forCall tape i).memory i.args ∧ ({ modest := modest } : Assume).holds C.prog (lone (Frame.enter C.prog f i.args .normal) [] (w.forCall tape i)) :=
  ⟨w0, fun _ _ => 0, ⟨#[], args, []⟩, hos, hsh, (Input.okWide_of_okWideB (base := 0) hok).1, (Input.okWide_of_okWideB hok).2, hrow, by
    simp only [Assume.holds]
    exact ⟨by simp, by simp, fun _ => Modest.zero, by simp, by simp⟩⟩
end Go.Pk
