/- make: a row of zeros that is owned. Its conditions: none. -/
import Derived.Test.YtmlcilfcaogdcaaGreatDoorH
import Derived.Deep.OwnRows
set_option linter.unusedVariables false
namespace Go.Pk
open Go.RowKit (Below)
theorem made_rep (z : Value) (n : Nat) : madeCells #[z] n = (List.replicate n z).toArray := by
  unfold madeCells
  apply Array.ext
  · simp
  · intro i h1 h2
    simp at h1 ⊢
    rw [Nat.mod_one]; rfl
/-- make([]T, n), T of one cell -/
theorem make_own {α : Type} {e : α → Value} {h1 : ∀ x, (e x).oneCell' = true} {p : α → Prop} {P : Program} {s t : TypeId} {bytes : Nat} {z : Value} (hs : P.underlying s = some (.slice t)) (tf : TF P t 1 bytes z) {x0 : α} (hz : e x0 = z) (hz1 : z.cells = #[z]) (hp : p x0)
    (kl kc : IntKind) (n : Nat) (hb : bytes * n ≤ 281474976710656) (hn : n ≤ 9223372036854775807) (w : World) (A : Bl) :
    ∃ (w' : World) (a : Option Addr), (Instr.makeSlice s (.int kl (n : Int)) (.int kc (n : Int))).run P w = .ok (.slice a n n) w' ∧ Ow (Ty.enc e h1 p) t w' A a n n (List.replicate n x0) ∧ Below w.heap.size w w' ∧ Fresh w.heap.size a := by
  obtain ⟨i, hi, hsz, hbt, hzz⟩ := tf.info
  subst hbt
  have hr := run_make_row (P := P) s t i z hs hi hzz hsz hz1 kl kc n hb hn w
  refine ⟨_, _, hr, ?_, below_alloc w _, fresh_new rfl⟩
  have := Ow.newF (A := A) (t := t) (l := List.replicate n z) (xs := List.replicate n x0) (T := Ty.enc e h1 p) (w := w) (w' := w.alloc (.cells (List.replicate n z).toArray t)) (b := w.heap.size) (fun _ _ _ _ _ _ h => h) rfl rfl (by
    have := RepL_enc (e := e) (h1 := h1) (p := p) (w := w) (A := A) (xs := List.replicate n x0) (fun x hx => by rw [(List.mem_replicate.1 hx).2]; exact hp)
    rw [List.map_replicate, hz] at this
    exact this) (by simp; exact hn)
  rw [List.length_replicate] at this
  rw [made_rep]
  exact this
theorem set_rep {α : Type} (x y : α) (n k : Nat) (h : k < n) : (List.replicate k x ++ List.replicate (n - k) y).set k x = List.replicate (k + 1) x ++ List.replicate (n - (k + 1)) y := by
  rw [List.set_append, if_neg (by simp), List.length_replicate, Nat.sub_self]
  obtain ⟨m, hm⟩ : ∃ m, n - k = m + 1 := ⟨n - k - 1, by omega⟩
  rw [hm, List.replicate_succ, List.set_cons_zero, show n - (k + 1) = m by omega]
  rw [List.replicate_succ', List.append_assoc]; rfl
end Go.Pk
