/- Small helpers for the walks: conditions that only reckon. Its conditions: none. -/
import Derived.Test.YtmlcilfcaogdcaaGreatDoorArr
set_option linter.unusedVariables false
set_option linter.unusedSimpArgs false
namespace Go.Pk
open Go.RowKit (Below)
/-- one truth value, the world as it was -/
theorem boolJ {n : Nat} {w : World} {R : Bool → World → Prop} {B : (Bool → World → Prop) → Prop} (f : Bool) (hB : B (fun b w' => w' = w ∧ b = f)) (h : R f w) :
    ∃ J : FP [.one (.bool)], B J ∧ ∀ b : Bool, AllJ n (∀ wj : World, J b wj → R b wj) := by
  refine ⟨fun b w' => w' = w ∧ b = f, hB, fun b => AllJ.of ?_ _⟩
  rintro wj ⟨rfl, rfl⟩; exact h
/-- one integer, the world as it was -/
theorem intJ {n : Nat} {k : IntKind} {w : World} {R : Int → World → Prop} {B : (Int → World → Prop) → Prop} (f : Int) (hB : B (fun b w' => w' = w ∧ b = f)) (h : R f w) :
    ∃ J : FP [.one (.int k)], B J ∧ ∀ b : Int, AllJ n (∀ wj : World, J b wj → R b wj) := by
  refine ⟨fun b w' => w' = w ∧ b = f, hB, fun b => AllJ.of ?_ _⟩
  rintro wj ⟨rfl, rfl⟩; exact h
/-- one text, the world as it was -/
theorem strJ {n : Nat} {w : World} {R : List UInt8 → World → Prop} {B : (List UInt8 → World → Prop) → Prop} (f : List UInt8) (hB : B (fun b w' => w' = w ∧ b = f)) (h : R f w) :
    ∃ J : FP [.one (.str)], B J ∧ ∀ b : List UInt8, AllJ n (∀ wj : World, J b wj → R b wj) := by
  refine ⟨fun b w' => w' = w ∧ b = f, hB, fun b => AllJ.of ?_ _⟩
  rintro wj ⟨rfl, rfl⟩; exact h
/-- nothing but the world as it was, and a fact -/
theorem factJ {n : Nat} {w : World} {R : World → Prop} {B : (World → Prop) → Prop} (Q : Prop) (hB : B (fun w' => w' = w ∧ Q)) (h : Q → R w) :
    ∃ J : FP [], B J ∧ AllJ n (∀ wj : World, J wj → R wj) := by
  refine ⟨fun w' => w' = w ∧ Q, hB, AllJ.of ?_ _⟩
  rintro wj ⟨rfl, hq⟩; exact h hq
/-- a world that is told by a fact -/
theorem worldJ {n : Nat} {R : World → Prop} {B : (World → Prop) → Prop} (Q : World → Prop) (hB : B Q) (h : ∀ w, Q w → R w) :
    ∃ J : FP [], B J ∧ AllJ n (∀ wj : World, J wj → R wj) := ⟨Q, hB, AllJ.of h _⟩
/-- a truth value and a world that are told by a fact -/
theorem boolWJ {n : Nat} {R : Bool → World → Prop} {B : (Bool → World → Prop) → Prop} (Q : Bool → World → Prop) (hB : B Q) (h : ∀ b w, Q b w → R b w) :
    ∃ J : FP [.one (.bool)], B J ∧ ∀ b : Bool, AllJ n (∀ wj : World, J b wj → R b wj) := ⟨Q, hB, fun b => AllJ.of (h b) _⟩
/-- 'x && y' -/
theorem andJ {n : Nat} {w : World} {c x : Bool} {R : Bool → World → Prop} (h : R (c && x) w) : ∃ J : FP [.one (.bool)], BCase c (J x w) (J false w) ∧ ∀ b : Bool, AllJ n (∀ wj : World, J b wj → R b wj) :=
  boolJ (B := fun J => BCase c (J x w) (J false w)) (c && x) (BCase.of (fun h => ⟨rfl, by rw [h]; rfl⟩) (fun h => ⟨rfl, by rw [h]; rfl⟩)) h
/-- 'x || y' -/
theorem orJ {n : Nat} {w : World} {c x : Bool} {R : Bool → World → Prop} (h : R (c || x) w) : ∃ J : FP [.one (.bool)], BCase c (J true w) (J x w) ∧ ∀ b : Bool, AllJ n (∀ wj : World, J b wj → R b wj) :=
  boolJ (B := fun J => BCase c (J true w) (J x w)) (c || x) (BCase.of (fun h => ⟨rfl, by rw [h]; rfl⟩) (fun h => ⟨rfl, by rw [h]; rfl⟩)) h
/-- 'x && y && z' -/
theorem and3J {n : Nat} {w : World} {c d x : Bool} {R : Bool → World → Prop} (h : R (c && (d && x)) w) : ∃ J : FP [.one (.bool)], BCase c (BCase d (J x w) (J false w)) (J false w) ∧ ∀ b : Bool, AllJ n (∀ wj : World, J b wj → R b wj) :=
  boolJ (B := fun J => BCase c (BCase d (J x w) (J false w)) (J false w)) (c && (d && x)) (BCase.of (fun h => BCase.of (fun h2 => ⟨rfl, by rw [h, h2]; rfl⟩) (fun h2 => ⟨rfl, by rw [h, h2]; rfl⟩)) (fun h => ⟨rfl, by rw [h]; rfl⟩)) h

/-- 'append(xs, x)' of a slice that is owned and new since w0 -/
theorem pushF {α : Type} {T : Ty α} (hfl : Flat T) {P : Program} {st t ty : TypeId} {bytes : Nat} {z : Value} (hu : P.underlying st = some (.slice t)) (tf : TF P t T.k bytes z) (hb0 : 0 < bytes)
    {w0 w w1 : World} {a : Option Addr} {n c : Nat} {xs : List α} (ho : Ow T t w NoB a n c xs) (hf : Fresh w0.heap.size a) (hb : Below w0.heap.size w0 w) {k1 : Nat} {vs : List Value} {x : α} (hk : k1 = w.heap.size)
    (hw : w1 = w.alloc (.cells vs.toArray t)) (hx : T.rep w NoB vs x) {cm : Nat} (hbound : (xs.length + 1) * bytes ≤ 140737488355328) :
    ∃ (w2 : World) (a' : Option Addr) (n' c' : Nat), (Builtin.append_ #[st, st] ty #[.slice a n c, .slice (some ⟨k1, 0, none⟩) 1 cm]).run P w1 = .ok (.slice a' n' c') w2 ∧ Ow T t w2 NoB a' n' c' (xs ++ [x]) ∧ Fresh w0.heap.size a' ∧ Below w0.heap.size w0 w2 := by
  have hB1 : Below w.heap.size w w1 := hw ▸ below_alloc w _
  have ho3 := ho.below hB1
  have hsrc : Src T w1 NoB (some ⟨k1, 0, none⟩) 1 [x] := Src.new1F hfl hk hw hx
  obtain ⟨w4, a4, n4, c4, hr, ho4, hgr, hfr⟩ := append_own (ty := ty) hu tf hb0 ho3 (fun _ _ h => h) (cm := cm) hsrc (by simpa using hbound)
  have hB := below_step hb hB1 hb.size
  exact ⟨w4, a4, n4, c4, hr, ho4, hf.app hB.size hfr, hB.grown hgr hB.size hf⟩
/-- a call among others in a region that draws -/
theorem quietCall {P : Program} {f : FuncId} {args : Array Value} {w u : World} {v : Value} (h : Calls P f args u (Ret fun v' w' => v' = v ∧ Below u.heap.size u w')) (hu : Below w.heap.size w u) :
    Calls P f args u fun e w' => e = .returned v ∧ Below w.heap.size u w' := by
  refine h.mono ?_
  rintro _ w' ⟨_, rfl, rfl, hb⟩
  exact ⟨rfl, hb.mono hu.size⟩
theorem fits {a b : Nat} (h : a + b ≤ 9223372036854775807) : ((a + b : Nat) : Int) ≤ IntKind.i64.max := by simp [IntKind.max, IntKind.bits]; omega
theorem trunc_div {t b : Int} (hb : 0 < b) : (0 ≤ t → Int.tdiv t b = t / b ∧ Int.tmod t b = t % b) ∧ (t < 0 → Int.tdiv t b = -((-t) / b) ∧ Int.tmod t b = -((-t) % b)) := by
  refine ⟨fun h => ⟨Int.tdiv_eq_ediv_of_nonneg h, Int.tmod_eq_emod_of_nonneg h⟩, fun h => ?_⟩
  obtain ⟨u, rfl⟩ : ∃ u, t = -u := ⟨-t, by omega⟩
  rw [Int.neg_tdiv, Int.neg_tmod, Int.neg_neg, Int.tdiv_eq_ediv_of_nonneg (by omega), Int.tmod_eq_emod_of_nonneg (by omega)]
  exact ⟨rfl, rfl⟩
theorem takeWhile_at {α : Type} (p : α → Bool) : ∀ (s : List α) (k : Nat) (hk : k < s.length), k ≤ (s.takeWhile p).length → (p s[k] = true ↔ k < (s.takeWhile p).length)
  | [], k, hk, _ => by cases hk
  | c :: s, 0, hk, _ => by
    rw [List.takeWhile_cons]
    simp only [List.getElem_cons_zero]
    cases h : p c <;> simp
  | c :: s, k + 1, hk, h => by
    rw [List.takeWhile_cons] at h ⊢
    cases hc : p c with
    | false => rw [hc] at h; simp at h
    | true =>
      rw [hc] at h
      simp only [if_true, List.length_cons] at h ⊢
      have := takeWhile_at p s k (by simpa using hk) (by omega)
      simp only [List.getElem_cons_succ]
      rw [this]; omega
theorem takeWhile_le {α : Type} (p : α → Bool) (s : List α) : (s.takeWhile p).length ≤ s.length := (List.takeWhile_sublist p).length_le
end Go.Pk
