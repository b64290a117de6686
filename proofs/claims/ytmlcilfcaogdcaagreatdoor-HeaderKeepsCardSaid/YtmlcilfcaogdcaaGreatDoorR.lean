/- What values in memory stand for: lists as slices, owned and read; what the operations on them do. Its conditions: none. -/
import Derived.Test.YtmlcilfcaogdcaaGreatDoorW
import Derived.Laws.AppendOwn
import Derived.IntWalk
set_option linter.unusedVariables false
set_option linter.unusedSimpArgs false
namespace Go.Pk
open Go.RowKit (Below)

/-! ### Worlds -/
abbrev Bl := Nat → Prop
structure Keep (A : Bl) (w w' : World) : Prop where
  size : w.heap.size ≤ w'.heap.size
  block : ∀ b, b < w.heap.size → A b → w'.heap[b]? = w.heap[b]?
theorem Keep.refl (A : Bl) (w : World) : Keep A w w := ⟨Nat.le_refl _, fun _ _ _ => rfl⟩
theorem Keep.trans {A : Bl} {a b c : World} (h : Keep A a b) (k : Keep A b c) : Keep A a c :=
  ⟨Nat.le_trans h.size k.size, fun i hi ha => (k.block i (Nat.lt_of_lt_of_le hi h.size) ha).trans (h.block i hi ha)⟩
theorem Keep.mono {A A' : Bl} {w w' : World} (h : Keep A w w') (ha : ∀ b, A' b → A b) : Keep A' w w' := ⟨h.size, fun b hb hab => h.block b hb (ha b hab)⟩
theorem below_keep {w w' : World} (h : Below w.heap.size w w') (A : Bl) : Keep A w w' := ⟨h.size, fun b hb _ => h.block b hb⟩
theorem grown_keep {w w' : World} {row : Option Nat} (h : w.grownBy w' row) {A : Bl} (ha : ∀ b, A b → some b ≠ row) : Keep A w w' := ⟨h.size, fun b hb hab => h.block b hb (ha b hab)⟩
theorem below_drew (w : World) : Below w.heap.size w w.drew := (Below.refl _ w).drew
theorem below_alloc (w : World) (o : Obj) : Below w.heap.size w (w.alloc o) := (Below.refl _ w).alloc (Nat.le_refl _) o
theorem below_step {B : Nat} {a b c : World} (h : Below B a b) (k : Below b.heap.size b c) (hB : B ≤ b.heap.size) : Below B a c := h.trans (k.mono hB)
theorem below_grown {B : Nat} {a b c : World} {row : Option Nat} (h : Below B a b) (k : b.grownBy c row) (hB : B ≤ b.heap.size) (hr : ∀ x, row = some x → B ≤ x) : Below B a c := h.grown k hB hr

/-! ### Types -/
structure Ty (α : Type) where
  k : Nat
  pos : 0 < k
  rep : World → Bl → List Value → α → Prop
  len : ∀ {w A vs x}, rep w A vs x → vs.length = k
  one : ∀ {w A vs x}, rep w A vs x → ∀ v ∈ vs, v.oneCell' = true
  keep : ∀ {w w' A vs x}, rep w A vs x → Keep A w w' → rep w' A vs x
  mono : ∀ {w A A' vs x}, rep w A vs x → (∀ b, b < w.heap.size → A b → A' b) → rep w A' vs x
/-- one cell, told by the value alone -/
def Ty.enc {α : Type} (e : α → Value) (h1 : ∀ x, (e x).oneCell' = true) (p : α → Prop) : Ty α where
  k := 1
  pos := by decide
  rep := fun _ _ vs x => vs = [e x] ∧ p x
  len := fun h => by rw [h.1]; rfl
  one := fun {_ _ _ x} h v hv => by rw [h.1] at hv; simp at hv; rw [hv]; exact h1 x
  keep := fun h _ => h
  mono := fun h _ => h
def tInt (k : IntKind) (p : Int → Prop) : Ty Int := Ty.enc (fun n => .int k n) (fun _ => rfl) p
def tI64 : Ty Int := tInt .i64 fun _ => True
def tU8 : Ty UInt8 := Ty.enc (fun c => .int .u8 (c.toNat : Nat)) (fun _ => rfl) fun _ => True
def tBool : Ty Bool := Ty.enc (fun b => .bool b) (fun _ => rfl) fun _ => True
def tStr (p : List UInt8 → Prop) : Ty (List UInt8) := Ty.enc (fun s => .string (mkS s)) (fun _ => rfl) p
abbrev tS : Ty (List UInt8) := tStr fun _ => True
def NoB : Bl := fun _ => False

/-- the facts of a type of the program -/
structure TF (P : Program) (t : TypeId) (k bytes : Nat) (z : Value) : Prop where
  info : ∃ i, P.info? t = some i ∧ i.size = k ∧ i.bytes = bytes ∧ i.zero = some z
  cells : z.cells.size = k
  und : ∃ d, P.underlying t = some d ∧ (aggD d = true ∨ k = 1 ∧ aggD d = false)

theorem TF.of {P : Program} {t : TypeId} {k bytes : Nat} {z : Value} (h1 : (P.info? t).map (fun i => (i.size, i.bytes, i.zero)) = some (k, bytes, some z)) (h2 : z.cells.size = k) (b : Bool)
    (h3 : (P.underlying t).map aggD = some b) (h4 : b = true ∨ k = 1) : TF P t k bytes z := by
  cases hi : P.info? t with
  | none => rw [hi] at h1; cases h1
  | some i =>
    rw [hi] at h1
    simp only [Option.map_some, Option.some.injEq, Prod.mk.injEq] at h1
    cases hu : P.underlying t with
    | none => rw [hu] at h3; cases h3
    | some d =>
      rw [hu] at h3
      simp only [Option.map_some, Option.some.injEq] at h3
      refine ⟨⟨i, hi, h1.1, h1.2.1, h1.2.2⟩, h2, d, hu, ?_⟩
      cases b with
      | true => exact .inl h3
      | false => exact .inr ⟨h4.resolve_left (by simp), h3⟩
/-! ### Rows of cells that stand for lists -/
structure RepL {α : Type} (T : Ty α) (w : World) (A : Bl) (l : List Value) (xs : List α) : Prop where
  len : l.length = xs.length * T.k
  rep : ∀ i (h : i < xs.length), T.rep w A ((l.drop (i * T.k)).take T.k) xs[i]
theorem RepL.nil {α : Type} (T : Ty α) (w : World) (A : Bl) : RepL T w A [] ([] : List α) := ⟨by simp, fun i h => by cases h⟩
theorem RepL.one {α : Type} {T : Ty α} {w : World} {A : Bl} {vs : List Value} {x : α} (h : T.rep w A vs x) : RepL T w A vs [x] := by
  have hl := T.len h
  refine ⟨by simp [hl], fun i hi => ?_⟩
  have : i = 0 := by simpa using hi
  subst this
  simp only [Nat.zero_mul, List.drop_zero, List.getElem_cons_zero]
  rw [List.take_of_length_le (by omega)]; exact h
theorem RepL.append {α : Type} {T : Ty α} {w : World} {A : Bl} {l m : List Value} {xs ys : List α} (h : RepL T w A l xs) (k : RepL T w A m ys) : RepL T w A (l ++ m) (xs ++ ys) := by
  refine ⟨by rw [List.length_append, List.length_append, h.len, k.len, Nat.add_mul], fun i hi => ?_⟩
  by_cases c : i < xs.length
  · rw [List.getElem_append_left c]
    have h1 := h.rep i c
    have h2 : i * T.k + T.k ≤ l.length := by
      have := Nat.mul_le_mul_right T.k (show i + 1 ≤ xs.length from c)
      rw [Nat.add_mul, Nat.one_mul] at this
      rw [h.len]; exact this
    rw [List.drop_append_of_le_length (by omega), List.take_append_of_le_length (by rw [List.length_drop]; omega)]
    exact h1
  · have hi' : i - xs.length < ys.length := by simp at hi; omega
    rw [List.getElem_append_right (by omega)]
    have h1 := k.rep (i - xs.length) hi'
    have h2 : i * T.k = l.length + (i - xs.length) * T.k := by
      rw [h.len, ← Nat.add_mul]; congr 1; omega
    rw [h2, List.drop_length_add_append]
    exact h1
theorem RepL.keep {α : Type} {T : Ty α} {w w' : World} {A : Bl} {l : List Value} {xs : List α} (h : RepL T w A l xs) (hk : Keep A w w') : RepL T w' A l xs := ⟨h.len, fun i hi => T.keep (h.rep i hi) hk⟩
theorem RepL.mono {α : Type} {T : Ty α} {w : World} {A A' : Bl} {l : List Value} {xs : List α} (h : RepL T w A l xs) (ha : ∀ b, b < w.heap.size → A b → A' b) : RepL T w A' l xs := ⟨h.len, fun i hi => T.mono (h.rep i hi) ha⟩
theorem RepL.ones {α : Type} {T : Ty α} {w : World} {A : Bl} : ∀ {xs : List α} {l : List Value}, RepL T w A l xs → ∀ v ∈ l, v.oneCell' = true
  | [], l, h, v, hv => by have := h.len; simp at this; subst this; cases hv
  | x :: xs, l, h, v, hv => by
    have hl := h.len
    have hk := T.pos
    have h1 := h.rep 0 (by simp)
    rw [Nat.zero_mul, List.drop_zero] at h1
    have h2 : RepL T w A (l.drop T.k) xs := by
      refine ⟨by rw [List.length_drop, hl]; simp [Nat.add_mul], fun i hi => ?_⟩
      have := h.rep (i + 1) (by simp; omega)
      simp only [List.getElem_cons_succ] at this
      rw [List.drop_drop]
      rw [Nat.add_mul, Nat.one_mul, Nat.add_comm] at this
      exact this
    rw [← List.take_append_drop T.k l] at hv
    rcases List.mem_append.1 hv with hv | hv
    · exact T.one h1 v hv
    · exact RepL.ones h2 v hv
theorem RepL.set {α : Type} {T : Ty α} {w : World} {A : Bl} {l : List Value} {xs : List α} (h : RepL T w A l xs) {i : Nat} (hi : i < xs.length) {vs : List Value} {x : α} (hx : T.rep w A vs x) :
    RepL T w A (l.take (i * T.k) ++ vs ++ l.drop (i * T.k + vs.length)) (xs.set i x) := by
  have hv := T.len hx
  have hb : i * T.k + T.k ≤ l.length := by
    have := Nat.mul_le_mul_right T.k (show i + 1 ≤ xs.length from hi)
    rw [Nat.add_mul, Nat.one_mul] at this
    rw [h.len]; exact this
  refine ⟨?_, fun j hj => ?_⟩
  · rw [List.length_set, ← h.len, List.length_append, List.length_append, List.length_take, List.length_drop, hv]; omega
  · have hj' : j < xs.length := by simpa using hj
    have key : (l.take (i * T.k) ++ vs ++ l.drop (i * T.k + vs.length)) = l.take (i * T.k) ++ (vs ++ l.drop (i * T.k + vs.length)) := List.append_assoc _ _ _
    have htl : (l.take (i * T.k)).length = i * T.k := by rw [List.length_take]; omega
    by_cases c1 : j < i
    · have h1 := h.rep j hj'
      have h2 : j * T.k + T.k ≤ i * T.k := by
        have := Nat.mul_le_mul_right T.k (show j + 1 ≤ i from c1)
        rwa [Nat.add_mul, Nat.one_mul] at this
      rw [List.getElem_set_ne (by omega), key, List.drop_append_of_le_length (by omega), List.take_append_of_le_length (by rw [List.length_drop]; omega)]
      rw [List.drop_take, List.take_take]
      rw [show min T.k (i * T.k - j * T.k) = T.k by omega]
      exact h1
    · by_cases c2 : j = i
      · subst c2
        rw [List.getElem_set_self, key, List.drop_left' htl, ← hv, List.take_left]
        exact hx
      · have h1 := h.rep j hj'
        have h2 : i * T.k + T.k ≤ j * T.k := by
          have := Nat.mul_le_mul_right T.k (show i + 1 ≤ j by omega)
          rwa [Nat.add_mul, Nat.one_mul] at this
        rw [List.getElem_set_ne (by omega)]
        have e1 : (l.take (i * T.k) ++ vs ++ l.drop (i * T.k + vs.length)).drop (j * T.k) = l.drop (j * T.k) := by
          have e2 : j * T.k = (l.take (i * T.k) ++ vs).length + (j * T.k - (i * T.k + T.k)) := by rw [List.length_append, htl, hv]; omega
          rw [e2, List.drop_length_add_append, List.drop_drop]
          congr 1
          omega
        rw [e1]; exact h1

/-! ### Slices that are read -/
def At {α : Type} (T : Ty α) (w : World) (A : Bl) (b off : Nat) (xs : List α) : Prop :=
  ∃ l : List Value, RepL T w A l xs ∧ ∀ j, j < l.length → w.cell? ⟨b, off + j, none⟩ = l[j]?
def Sl {α : Type} (T : Ty α) (w : World) (A : Bl) (a : Option Addr) (n c : Nat) (xs : List α) : Prop :=
  n = xs.length ∧ n ≤ c ∧ c ≤ maxLen ∧ (xs = [] ∨ ∃ b off, a = some ⟨b, off, none⟩ ∧ b < w.heap.size ∧ A b ∧ At T w A b off xs)

theorem cell_same {w w' : World} {b : Nat} (h : w'.heap[b]? = w.heap[b]?) (o : Nat) : w'.cell? ⟨b, o, none⟩ = w.cell? ⟨b, o, none⟩ := by simp [World.cell?, h]
theorem At.keep {α : Type} {T : Ty α} {w w' : World} {A : Bl} {b off : Nat} {xs : List α} (h : At T w A b off xs) (hb : b < w.heap.size) (ha : A b) (hk : Keep A w w') : At T w' A b off xs := by
  obtain ⟨l, h1, h2⟩ := h
  exact ⟨l, h1.keep hk, fun j hj => by rw [cell_same (hk.block b hb ha)]; exact h2 j hj⟩
theorem Sl.keep {α : Type} {T : Ty α} {w w' : World} {A : Bl} {a : Option Addr} {n c : Nat} {xs : List α} (h : Sl T w A a n c xs) (hk : Keep A w w') : Sl T w' A a n c xs := by
  obtain ⟨h1, h2, h3, h4⟩ := h
  refine ⟨h1, h2, h3, ?_⟩
  rcases h4 with h4 | ⟨b, off, e, hb, ha, h4⟩
  · exact .inl h4
  · exact .inr ⟨b, off, e, Nat.lt_of_lt_of_le hb hk.size, ha, h4.keep hb ha hk⟩
theorem Sl.below {α : Type} {T : Ty α} {w w' : World} {A : Bl} {a : Option Addr} {n c : Nat} {xs : List α} (h : Sl T w A a n c xs) (hk : Below w.heap.size w w') : Sl T w' A a n c xs := h.keep (below_keep hk A)
theorem Sl.mono {α : Type} {T : Ty α} {w : World} {A A' : Bl} {a : Option Addr} {n c : Nat} {xs : List α} (h : Sl T w A a n c xs) (ha : ∀ b, b < w.heap.size → A b → A' b) : Sl T w A' a n c xs := by
  obtain ⟨h1, h2, h3, h4⟩ := h
  refine ⟨h1, h2, h3, ?_⟩
  rcases h4 with h4 | ⟨b, off, e, hb, hab, h4⟩
  · exact .inl h4
  · obtain ⟨l, h5, h6⟩ := h4
    exact .inr ⟨b, off, e, hb, ha b hb hab, l, h5.mono ha, h6⟩
theorem Sl.len {α : Type} {T : Ty α} {w : World} {A : Bl} {a : Option Addr} {n c : Nat} {xs : List α} (h : Sl T w A a n c xs) : n = xs.length := h.1
theorem Sl.le {α : Type} {T : Ty α} {w : World} {A : Bl} {a : Option Addr} {n c : Nat} {xs : List α} (h : Sl T w A a n c xs) : xs.length ≤ 9223372036854775807 := by
  have h1 := h.1; have h2 := h.2.1; have h3 := h.2.2.1; unfold maxLen at h3; omega
theorem Sl.nil {α : Type} (T : Ty α) (w : World) (A : Bl) (a : Option Addr) (c : Nat) (hc : c ≤ maxLen) : Sl T w A a 0 c ([] : List α) := ⟨rfl, Nat.zero_le _, hc, .inl rfl⟩
theorem Sl.isSome {α : Type} {T : Ty α} {w : World} {A : Bl} {a : Option Addr} {n c : Nat} {xs : List α} (h : Sl T w A a n c xs) {i : Nat} (hi : i < xs.length) : Option.isSome a = true := by
  rcases h.2.2.2 with h4 | ⟨b, off, e, _⟩
  · subst h4; cases hi
  · rw [e]; rfl

theorem add_none (b o j : Nat) : (⟨b, o, none⟩ : Addr).add j = ⟨b, o + j, none⟩ := by
  unfold Addr.add; split <;> simp_all

theorem loadVar_one {P : Program} {t : TypeId} {d : TypeDesc} (hu : P.underlying t = some d) (ha : aggD d = false) {w : World} {p : Addr} {v : Value} (hc : w.cell? p = some v) :
    (loadVar t p).run P w = .ok v w := by
  unfold loadVar
  rw [Sem.run_bind, run_isAgg hu, ha]
  simp [hc]
theorem run_cells {P : Program} {w : World} {b off : Nat} {vs : List Value} (h : ∀ j, j < vs.length → w.cell? ⟨b, off + j, none⟩ = vs[j]?) : (loadCells ⟨b, off, none⟩ vs.length).run P w = .ok vs.toArray w :=
  run_loadCells_list (P := P) w ⟨b, off, none⟩ vs fun j v hv => by
    rw [add_none, h j (by have := (List.getElem?_eq_some_iff.1 hv).1; exact this)]; exact hv
theorem loadVar_agg {P : Program} {t : TypeId} {d : TypeDesc} {i : TypeInfo} (hu : P.underlying t = some d) (ha : aggD d = true) (hi : P.info? t = some i) {w : World} {b off : Nat} {vs : List Value} (hl : vs.length = i.size)
    (h : ∀ j, j < vs.length → w.cell? ⟨b, off + j, none⟩ = vs[j]?) : (loadVar t ⟨b, off, none⟩).run P w = .ok (.agg vs.toArray) w := by
  unfold loadVar
  rw [Sem.run_bind, run_isAgg hu, ha]
  have := run_cells (P := P) h
  rw [hl] at this
  simp [run_size hi, this]

theorem elem_eq (b off : Nat) (i : Int) (k : Nat) : elemAddr (some ⟨b, off, none⟩) i k = some ⟨b, off + i.toNat * k, none⟩ := by
  simp [elemAddr, add_none]

theorem At.elem {α : Type} {T : Ty α} {w : World} {A : Bl} {b off : Nat} {xs : List α} (h : At T w A b off xs) {i : Nat} (hi : i < xs.length) :
    ∃ vs, T.rep w A vs xs[i] ∧ ∀ j, j < T.k → w.cell? ⟨b, off + i * T.k + j, none⟩ = vs[j]? := by
  obtain ⟨l, h1, h2⟩ := h
  have hb : i * T.k + T.k ≤ l.length := by
    have := Nat.mul_le_mul_right T.k (show i + 1 ≤ xs.length from hi)
    rw [Nat.add_mul, Nat.one_mul] at this
    rw [h1.len]; exact this
  refine ⟨_, h1.rep i hi, fun j hj => ?_⟩
  rw [Nat.add_assoc, h2 _ (by omega), List.getElem?_take, if_pos hj, List.getElem?_drop]
/-- one element, one cell -/
theorem Sl.load1 {α : Type} {T : Ty α} {P : Program} {t : TypeId} {d : TypeDesc} (hu : P.underlying t = some d) (ha : aggD d = false) (hk : T.k = 1)
    {w : World} {A : Bl} {a : Option Addr} {n c : Nat} {xs : List α} (h : Sl T w A a n c xs) {i : Int} (hi : i.toNat < xs.length) :
    ∃ v, (Instr.loadAt t (.pointer (elemAddr a i 1))).run P w = .ok v w ∧ T.rep w A [v] xs[i.toNat] := by
  rcases h.2.2.2 with h4 | ⟨b, off, e, hb, hab, h4⟩
  · subst h4; cases hi
  · obtain ⟨vs, h5, h6⟩ := h4.elem hi
    have hl := T.len h5
    rw [hk] at hl
    match vs, hl with
    | [v], _ =>
      refine ⟨v, ?_, h5⟩
      have h7 := h6 0 (by rw [hk]; decide)
      rw [hk] at h7
      rw [e, elem_eq]
      show (do loadVar t (← Instr.sureAddr (.pointer (some _)))).run P w = _
      rw [Sem.run_bind, run_sureAddr]
      exact loadVar_one hu ha (by simpa using h7)
/-- one element, a struct or an array -/
theorem Sl.loadA {α : Type} {T : Ty α} {P : Program} {t : TypeId} {d : TypeDesc} {ti : TypeInfo} (hu : P.underlying t = some d) (ha : aggD d = true) (hi' : P.info? t = some ti) {k : Nat} (hk : T.k = k) (hs : ti.size = k)
    {w : World} {A : Bl} {a : Option Addr} {n c : Nat} {xs : List α} (h : Sl T w A a n c xs) {i : Int} (hi : i.toNat < xs.length) :
    ∃ vs, (Instr.loadAt t (.pointer (elemAddr a i k))).run P w = .ok (.agg vs.toArray) w ∧ T.rep w A vs xs[i.toNat] := by
  subst hk
  rcases h.2.2.2 with h4 | ⟨b, off, e, hb, hab, h4⟩
  · subst h4; cases hi
  · obtain ⟨vs, h5, h6⟩ := h4.elem hi
    have hl := T.len h5
    refine ⟨vs, ?_, h5⟩
    rw [e, elem_eq]
    show (do loadVar t (← Instr.sureAddr (.pointer (some _)))).run P w = _
    rw [Sem.run_bind, run_sureAddr]
    exact loadVar_agg hu ha hi' (by omega) fun j hj => h6 j (by omega)

/-! ### Rows that are owned -/
def ownB (a : Option Addr) : Option Nat := a.map (·.block)
/-- the slice leads to the head of a block that nobody else leads to; 'fr': what in it may not be written -/
def Ow {α : Type} (T : Ty α) (t : TypeId) (w : World) (A : Bl) (a : Option Addr) (n c : Nat) (xs : List α) : Prop :=
  n = xs.length ∧ n ≤ c ∧ c ≤ maxLen ∧ ((a = none ∧ c = 0 ∧ xs = []) ∨
    ∃ g cur fr, a = some ⟨g, 0, none⟩ ∧ w.heap[g]? = some (.cells cur t fr) ∧ (∀ i, i < cur.size → ¬ (fr.1 ≤ i ∧ i < fr.2)) ∧ cur.size = c * T.k ∧ RepL T w A (cur.toList.take (n * T.k)) xs)
theorem Ow.nil {α : Type} (T : Ty α) (t : TypeId) (w : World) (A : Bl) : Ow T t w A none 0 0 ([] : List α) := ⟨rfl, Nat.le_refl _, Nat.zero_le _, .inl ⟨rfl, rfl, rfl⟩⟩
theorem Ow.len {α : Type} {T : Ty α} {t : TypeId} {w : World} {A : Bl} {a : Option Addr} {n c : Nat} {xs : List α} (h : Ow T t w A a n c xs) : n = xs.length := h.1
theorem Ow.le {α : Type} {T : Ty α} {t : TypeId} {w : World} {A : Bl} {a : Option Addr} {n c : Nat} {xs : List α} (h : Ow T t w A a n c xs) : xs.length ≤ 9223372036854775807 := by
  have h1 := h.1; have h2 := h.2.1; have h3 := h.2.2.1; unfold maxLen at h3; omega
theorem Ow.lt {α : Type} {T : Ty α} {t : TypeId} {w : World} {A : Bl} {a : Option Addr} {n c : Nat} {xs : List α} (h : Ow T t w A a n c xs) : ∀ g, ownB a = some g → g < w.heap.size := by
  intro g hg
  rcases h.2.2.2 with ⟨e, _⟩ | ⟨g', cur, fr, e, hh, _⟩
  · rw [e] at hg; cases hg
  · rw [e] at hg; simp [ownB] at hg; subst hg; exact (Array.getElem?_eq_some_iff.1 hh).1
theorem Ow.keep {α : Type} {T : Ty α} {t : TypeId} {w w' : World} {A : Bl} {a : Option Addr} {n c : Nat} {xs : List α} (h : Ow T t w A a n c xs) (hk : Keep (fun b => A b ∨ some b = ownB a) w w') : Ow T t w' A a n c xs := by
  have hlt := h.lt
  obtain ⟨h1, h2, h3, h4⟩ := h
  refine ⟨h1, h2, h3, ?_⟩
  rcases h4 with h4 | ⟨g, cur, fr, e, hh, hf, hs, h4⟩
  · exact .inl h4
  · refine .inr ⟨g, cur, fr, e, ?_, hf, hs, h4.keep (hk.mono fun _ h => .inl h)⟩
    rw [hk.block g (hlt g (by rw [e]; rfl)) (.inr (by rw [e]; rfl))]; exact hh
theorem Ow.below {α : Type} {T : Ty α} {t : TypeId} {w w' : World} {A : Bl} {a : Option Addr} {n c : Nat} {xs : List α} (h : Ow T t w A a n c xs) (hk : Below w.heap.size w w') : Ow T t w' A a n c xs := h.keep (below_keep hk _)
theorem Ow.mono {α : Type} {T : Ty α} {t : TypeId} {w : World} {A A' : Bl} {a : Option Addr} {n c : Nat} {xs : List α} (h : Ow T t w A a n c xs) (ha : ∀ b, b < w.heap.size → A b → A' b) : Ow T t w A' a n c xs := by
  obtain ⟨h1, h2, h3, h4⟩ := h
  refine ⟨h1, h2, h3, ?_⟩
  rcases h4 with h4 | ⟨g, cur, fr, e, hh, hf, hs, h4⟩
  · exact .inl h4
  · exact .inr ⟨g, cur, fr, e, hh, hf, hs, h4.mono ha⟩
/-- what is owned can be read -/
theorem Ow.sl {α : Type} {T : Ty α} {t : TypeId} {w : World} {A A' : Bl} {a : Option Addr} {n c : Nat} {xs : List α} (h : Ow T t w A a n c xs) (hA : ∀ b, b < w.heap.size → A b → A' b) (hg : ∀ g, ownB a = some g → A' g) :
    Sl T w A' a n c xs := by
  have hlt := h.lt
  obtain ⟨h1, h2, h3, h4⟩ := h
  refine ⟨h1, h2, h3, ?_⟩
  rcases h4 with ⟨_, _, h4⟩ | ⟨g, cur, fr, e, hh, hf, hs, h4⟩
  · exact .inl h4
  · refine .inr ⟨g, 0, e, hlt g (by rw [e]; rfl), hg g (by rw [e]; rfl), _, h4.mono hA, fun j hj => ?_⟩
    rw [List.length_take] at hj
    rw [cell_of_row w g _ cur t fr hh, Nat.zero_add, List.getElem?_take, if_pos (by omega)]
    simp
abbrev AllB : Bl := fun _ => True
theorem Ow.all {α : Type} {T : Ty α} {t : TypeId} {w : World} {A : Bl} {a : Option Addr} {n c : Nat} {xs : List α} (h : Ow T t w A a n c xs) : Sl T w AllB a n c xs := h.sl (fun _ _ _ => trivial) (fun _ _ => trivial)

/-- it lies in a block from 'B' on -/
def Fresh (B : Nat) (a : Option Addr) : Prop := ∀ g, ownB a = some g → B ≤ g
theorem Fresh.none (B : Nat) : Fresh B none := fun _ h => by cases h
theorem Fresh.mono {B B' : Nat} {a : Option Addr} (h : Fresh B a) (hb : B' ≤ B) : Fresh B' a := fun g hg => Nat.le_trans hb (h g hg)

/-! ### Stores into a row -/
theorem setRow_size (w : World) (g : Nat) (cs : Array Value) : (w.setRow g cs).heap.size = w.heap.size := by simp [World.setRow]
theorem setRow_grown (w : World) (g : Nat) (cs : Array Value) : w.grownBy (w.setRow g cs) (some g) :=
  ⟨rfl, rfl, rfl, by rw [setRow_size]; exact Nat.le_refl _, fun k _ hk => setRow_other w g k cs fun e => hk (by rw [e])⟩
theorem cell_row {w : World} {g : Nat} {cur : Array Value} {t : TypeId} {fr : Nat × Nat} (hg : w.heap[g]? = some (.cells cur t fr)) (o : Nat) : w.cell? ⟨g, o, none⟩ = cur[o]? := cell_of_row w g o cur t fr hg
theorem frozen_row {w : World} {g o : Nat} {cur : Array Value} {t : TypeId} {fr : Nat × Nat} (hg : w.heap[g]? = some (.cells cur t fr)) (hf : ¬ (fr.1 ≤ o ∧ o < fr.2)) : w.frozen? ⟨g, o, none⟩ = false := by
  obtain ⟨lo, hi⟩ := fr
  simp only [World.frozen?, hg]
  simpa using hf
theorem run_store_row {P : Program} {w : World} {g o : Nat} {cur : Array Value} {t : TypeId} {fr : Nat × Nat} (hg : w.heap[g]? = some (.cells cur t fr)) (ho : o < cur.size) (hf : ¬ (fr.1 ≤ o ∧ o < fr.2))
    {v : Value} (h1 : v.oneCell' = true) : (store ⟨g, o, none⟩ v).run P w = .ok () (w.setRow g (cur.setIfInBounds o v)) := by
  rw [run_store P w _ v .plain h1, cell_row hg, frozen_row hg hf, Array.getElem?_eq_getElem ho]
  simp only [Bool.false_eq_true, if_false]
  congr 1
  obtain ⟨heap, tape, drawn, os, output⟩ := w
  simp only [World.setCell, World.setRow]
  congr 1
  apply Array.ext_getElem?
  intro k
  rw [Array.getElem?_modify, Array.getElem?_modify]
  by_cases hk : g = k
  · subst hk
    simp only [if_true]
    have hg' : heap[g]? = some (.cells cur t fr) := hg
    rw [hg']
    rfl
  · simp only [if_neg hk]
theorem run_storeCells_row {P : Program} (g o : Nat) (t : TypeId) (fr : Nat × Nat) : ∀ (vs : List Value) (i : Nat) (cur : Array Value) (w : World), w.heap[g]? = some (.cells cur t fr) → o + i + vs.length ≤ cur.size →
    (∀ j, j < cur.size → ¬ (fr.1 ≤ j ∧ j < fr.2)) → (∀ v ∈ vs, v.oneCell' = true) →
    (storeCells ⟨g, o, none⟩ vs i).run P w = .ok () (w.setRow g (cur.toList.take (o + i) ++ vs ++ cur.toList.drop (o + i + vs.length)).toArray)
  | [], i, cur, w, hg, _, _, _ => by
    simp only [storeCells, List.append_nil, List.length_nil, Nat.add_zero, List.take_append_drop, Array.toArray_toList]
    rw [setRow_self w g cur t fr hg]
    rfl
  | v :: rest, i, cur, w, hg, hl, hf, h1 => by
    have hi : o + i < cur.size := by simp at hl; omega
    simp only [storeCells, Sem.run_bind, add_none]
    rw [run_store_row hg hi (hf _ hi) (h1 v List.mem_cons_self), Result.andThen_ok]
    rw [run_storeCells_row g o t fr rest (i + 1) (cur.setIfInBounds (o + i) v) _ (setRow_heap w g cur _ t fr hg) (by simp at hl ⊢; omega)
      (fun j hj => hf j (by simpa using hj)) (fun u hu => h1 u (List.mem_cons_of_mem _ hu))]
    congr 1
    have e2 : ∀ (a b : Array Value), (w.setRow g a).setRow g b = w.setRow g b := by
      intro a b
      obtain ⟨heap, tape, drawn, os, output⟩ := w
      simp only [World.setRow]
      congr 1
      apply Array.ext_getElem?
      intro k
      rw [Array.getElem?_modify, Array.getElem?_modify, Array.getElem?_modify]
      by_cases hk : g = k
      · subst hk
        have hg' : heap[g]? = some (.cells cur t fr) := hg
        simp [hg']
      · simp only [if_neg hk]
    rw [e2]
    congr 1
    apply Array.ext'
    simp only [Array.toList_setIfInBounds, List.length_cons]
    apply List.ext_getElem?
    intro k
    have hlen : cur.toList.length = cur.size := by simp
    simp only [List.getElem?_append, List.length_append, List.length_take, List.length_set, List.getElem?_take, List.getElem?_drop, List.length_cons, hlen, List.getElem?_set]
    by_cases c1 : k < o + i
    · have : ¬ o + i = k := by omega
      simp [c1, this, show k < min (o + (i + 1)) cur.size by omega, show k < min (o + i) cur.size by omega, show k < o + (i + 1) by omega,
        show k < min (o + (i + 1)) cur.size + rest.length by omega, show k < min (o + i) cur.size + (rest.length + 1) by omega]
    · by_cases c2 : k = o + i
      · subst c2
        have e3 : min (o + i) cur.size = o + i := by omega
        have e4 : min (o + (i + 1)) cur.size = o + i + 1 := by omega
        simp [e3, e4, hi, show o + i < o + i + 1 + rest.length by omega, show o + i < o + (i + 1) by omega]
      · have e3 : min (o + i) cur.size = o + i := by omega
        have e4 : min (o + (i + 1)) cur.size = o + i + 1 := by omega
        by_cases c3 : k < o + i + 1 + rest.length
        · have e5 : k - (o + i) = (k - (o + i + 1)) + 1 := by omega
          simp [e3, e4, c3, show k < o + i + (rest.length + 1) by omega, show ¬ k < o + i + 1 by omega, show ¬ k < o + i by omega, e5]
        · have e6 : ¬ o + i = o + (i + 1) + rest.length + (k - (o + i + 1 + rest.length)) := by omega
          have e7 : o + (i + 1) + rest.length + (k - (o + i + 1 + rest.length)) = o + i + (rest.length + 1) + (k - (o + i + (rest.length + 1))) := by omega
          simp [e3, e4, c3, show ¬ k < o + i + (rest.length + 1) by omega, e7]
          intro h; omega

/-! ### append -/
/-- where the appended cells stand -/
def Src {α : Type} (T : Ty α) (w : World) (A : Bl) (y : Option Addr) (m : Nat) (ys : List α) : Prop :=
  m = ys.length ∧ (ys = [] ∨ ∃ b off, y = some ⟨b, off, none⟩ ∧ At T w A b off ys)
theorem Sl.src {α : Type} {T : Ty α} {w : World} {A A' : Bl} {a : Option Addr} {n c : Nat} {xs : List α} (h : Sl T w A a n c xs) (hA : ∀ b, b < w.heap.size → A b → A' b) : Src T w A' a n xs := by
  obtain ⟨h1, h2, h3, h4⟩ := h
  refine ⟨h1, ?_⟩
  rcases h4 with h4 | ⟨b, off, e, hb, hab, l, h5, h6⟩
  · exact .inl h4
  · exact .inr ⟨b, off, e, l, h5.mono hA, h6⟩
/-- told by the values alone: whatever the world -/
def Flat {α : Type} (T : Ty α) : Prop := ∀ w A w' A' vs x, T.rep w A vs x → T.rep w' A' vs x
theorem flat_enc {α : Type} (e : α → Value) (h1 : ∀ x, (e x).oneCell' = true) (p : α → Prop) : Flat (Ty.enc e h1 p) := fun _ _ _ _ _ _ h => h
theorem RepL.flat {α : Type} {T : Ty α} (hf : Flat T) {w w' : World} {A A' : Bl} {l : List Value} {xs : List α} (h : RepL T w A l xs) : RepL T w' A' l xs := ⟨h.len, fun i hi => hf _ _ _ _ _ _ (h.rep i hi)⟩
theorem Sl.flat {α : Type} {T : Ty α} (hf : Flat T) {w : World} {A A' : Bl} {a : Option Addr} {n c : Nat} {xs : List α} (h : Sl T w A a n c xs) : Src T w A' a n xs := by
  obtain ⟨h1, h2, h3, h4⟩ := h
  refine ⟨h1, ?_⟩
  rcases h4 with h4 | ⟨b, off, e, hb, hab, l, h5, h6⟩
  · exact .inl h4
  · exact .inr ⟨b, off, e, l, h5.flat hf, h6⟩
/-- a new block of the cells of one value -/
theorem Src.new1 {α : Type} {T : Ty α} {w : World} {A : Bl} {vs : List Value} {x : α} {t : TypeId} {b : Nat} {w' : World} (hb : b = w.heap.size) (hw : w' = w.alloc (.cells vs.toArray t)) (h : T.rep w A vs x) (hA : ∀ i, A i → i < w.heap.size) :
    Src T w' A (some ⟨b, 0, none⟩) 1 [x] := by
  subst hb hw
  refine ⟨rfl, .inr ⟨_, 0, rfl, vs, RepL.one (T.keep h ⟨by simp, fun i hi _ => heap_alloc_old w _ i hi⟩), fun j hj => ?_⟩⟩
  rw [cell_row (heap_alloc_new w _), Nat.zero_add]
  simp
theorem Src.new1F {α : Type} {T : Ty α} (hf : Flat T) {w : World} {A : Bl} {vs : List Value} {x : α} {t : TypeId} {b : Nat} {w' : World} (hb : b = w.heap.size) (hw : w' = w.alloc (.cells vs.toArray t)) (h : T.rep w A vs x) :
    Src T w' A (some ⟨b, 0, none⟩) 1 [x] := by
  subst hb hw
  refine ⟨rfl, .inr ⟨_, 0, rfl, vs, RepL.one (hf _ _ _ _ _ _ h), fun j hj => ?_⟩⟩
  rw [cell_row (heap_alloc_new w _), Nat.zero_add]
  simp

theorem cells_add {w : World} {b off : Nat} {l : List Value} (h : ∀ j, j < l.length → w.cell? ⟨b, off + j, none⟩ = l[j]?) : ∀ j v, l[j]? = some v → w.cell? ((⟨b, off, none⟩ : Addr).add j) = some v := fun j v hv => by
  rw [add_none, h j (List.getElem?_eq_some_iff.1 hv).1]; exact hv

theorem append_own {α : Type} {T : Ty α} {P : Program} {st t ty : TypeId} {bytes : Nat} {z : Value} (hu : P.underlying st = some (.slice t)) (tf : TF P t T.k bytes z) (hb0 : 0 < bytes)
    {w : World} {A : Bl} {a : Option Addr} {n c : Nat} {xs : List α} (ho : Ow T t w A a n c xs) (hA : ∀ g, ownB a = some g → ¬ A g)
    {y : Option Addr} {m cm : Nat} {ys : List α} (hs : Src T w A y m ys) (hbound : (xs.length + ys.length) * bytes ≤ 140737488355328) :
    ∃ (w' : World) (a' : Option Addr) (n' c' : Nat), (Builtin.append_ #[st, st] ty #[.slice a n c, .slice y m cm]).run P w = .ok (.slice a' n' c') w' ∧ Ow T t w' A a' n' c' (xs ++ ys) ∧ w.grownBy w' (ownB a) ∧
      (∀ g, ownB a' = some g → ownB a = some g ∨ w.heap.size ≤ g) := by
  obtain ⟨i, hi, hsz, hby, hz⟩ := tf.info
  have hzc := tf.cells
  have hpos := T.pos
  obtain ⟨hn, hnc, hcm, ho4⟩ := ho
  obtain ⟨hm, hs2⟩ := hs
  subst hn hm
  have hsum : xs.length + ys.length ≤ 140737488355328 := Nat.le_trans (Nat.le_mul_of_pos_right _ hb0) hbound
  have hml : xs.length + ys.length ≤ maxLen := by unfold maxLen; omega
  have hkeepA : ∀ {w'}, w.grownBy w' (ownB a) → Keep A w w' := fun hg => grown_keep hg fun b hb e => hA b e.symm hb
  rcases ho4 with ⟨rfl, rfl, rfl⟩ | ⟨g, cur, fr, rfl, hg, hf, hcs, hrep⟩
  · -- a nil slice
    rcases hs2 with rfl | ⟨b, off, rfl, l, hl, hcl⟩
    · refine ⟨w, none, 0, 0, ?_, Ow.nil T t w A, ⟨rfl, rfl, rfl, Nat.le_refl _, fun _ _ _ => rfl⟩, fun g h => by cases h⟩
      have hfc : (Builtin.firstCells i.size 0 (.slice y 0 cm)).run P w = .ok #[] w := by
        cases y with
        | none => rfl
        | some y => simp [Builtin.firstCells, loadCells, loadCellsFrom]
      simp [Builtin.append_, run_und hu, run_size hi, Builtin.lenOf, hfc]
    · by_cases h0 : ys.length = 0
      · have : ys = [] := List.eq_nil_of_length_eq_zero h0
        subst this
        refine ⟨w, none, 0, 0, ?_, Ow.nil T t w A, ⟨rfl, rfl, rfl, Nat.le_refl _, fun _ _ _ => rfl⟩, fun g h => by cases h⟩
        simp [Builtin.append_, run_und hu, run_size hi, Builtin.lenOf, Builtin.firstCells, loadCells, loadCellsFrom]
      · have hr := run_append_nil (P := P) w st ty t i z hu hi hz ⟨b, off, none⟩ ys.length cm l (by rw [hl.len, hsz]) (cells_add hcl) (by omega) (by simp at hsum; omega) (by rw [hby]; simp at hbound; omega)
        refine ⟨_, _, _, _, hr, ?_, ⟨rfl, rfl, rfl, by simp, fun k hk _ => heap_alloc_old w.drew _ k hk⟩, fun g h => .inr (by simp [ownB] at h; omega)⟩
        have hge := grownCap_ge w ys.length 0 t
        have hcm' : grownCap w ys.length 0 t ≤ maxLen := grownCap_le_maxLen w ys.length 0 t (by simp at hml; exact hml)
        refine ⟨by simp, hge, hcm', .inr ⟨_, _, (0, 0), rfl, heap_alloc_new w.drew _, fun i _ => by simp, ?_, ?_⟩⟩
        · simp only [Array.size_append, List.size_toArray, size_zeroCells, hzc, hl.len, ← Nat.add_mul]
          congr 1; omega
        · rw [List.nil_append]
          simp only [Array.toList_append]
          rw [← hl.len, List.take_left]
          exact hl.keep ⟨by simp, fun k hk _ => heap_alloc_old w.drew _ k hk⟩
  · have hlt : g < w.heap.size := (Array.getElem?_eq_some_iff.1 hg).1
    have hxl : (cur.toList.take (xs.length * T.k)).length = xs.length * T.k := hrep.len
    -- the appended cells
    obtain ⟨l, hl, hfirst⟩ : ∃ l, RepL T w A l ys ∧ (Builtin.firstCells i.size ys.length (.slice y ys.length cm)).run P w = .ok l.toArray w := by
      rcases hs2 with rfl | ⟨b, off, rfl, l, hl, hcl⟩
      · refine ⟨[], RepL.nil T w A, ?_⟩
        cases y with
        | none => rfl
        | some y => simp [Builtin.firstCells, loadCells, loadCellsFrom]
      · exact ⟨l, hl, run_firstCells_some (P := P) w i.size ys.length ⟨b, off, none⟩ _ _ l (by rw [hl.len, hsz]) (cells_add hcl)⟩
    have hlapp : ((cur.toList.take (xs.length * T.k)) ++ l).length = (xs.length + ys.length) * T.k := by rw [List.length_append, hxl, hl.len, Nat.add_mul]
    by_cases hroom : xs.length + ys.length ≤ c
    · have hfit : xs.length * T.k + l.length ≤ cur.size := by rw [hl.len, hcs, ← Nat.add_mul]; exact Nat.mul_le_mul_right _ hroom
      have hst := run_storeCells_row (P := P) g (xs.length * T.k) t fr l 0 cur w hg (by simpa using hfit) hf hl.ones
      simp only [Nat.add_zero] at hst
      refine ⟨w.setRow g (cur.toList.take (xs.length * T.k) ++ l ++ cur.toList.drop (xs.length * T.k + l.length)).toArray, some ⟨g, 0, none⟩, xs.length + ys.length, c, ?_, ?_, setRow_grown w g _, fun g' h => .inl h⟩
      · have hadd : (⟨g, 0, none⟩ : Addr).add (xs.length * i.size) = ⟨g, xs.length * T.k, none⟩ := by rw [add_none, hsz, Nat.zero_add]
        simp only [Builtin.append_, Sem.run_bind, run_und hu, run_size hi, Builtin.lenOf, Sem.run_pure, Result.andThen_ok, hroom, List.getElem?_toArray, List.getElem?_cons_zero, List.getElem?_cons_succ, if_true, Bool.false_eq_true, if_false, Bool.not_false, hfirst, hadd, hst]
      · refine ⟨by simp, hroom, hcm, .inr ⟨g, _, fr, rfl, setRow_heap w g cur _ t fr hg, ?_, ?_, ?_⟩⟩
        · intro j hj
          refine hf j ?_
          simp at hj; omega
        · simp; omega
        · have e : ((cur.toList.take (xs.length * T.k) ++ l ++ cur.toList.drop (xs.length * T.k + l.length)).toArray).toList.take ((xs.length + ys.length) * T.k) = cur.toList.take (xs.length * T.k) ++ l := by
            rw [← hlapp]; simp only []; exact List.take_left
          rw [e]
          exact (hrep.append hl).keep (hkeepA (setRow_grown w g _))
    · have holds : ∀ j v, (cur.toList.take (xs.length * T.k))[j]? = some v → w.cell? ((⟨g, 0, none⟩ : Addr).add j) = some v := fun j v hv => by
        rw [add_none, Nat.zero_add, cell_row hg]
        rw [List.getElem?_take] at hv
        split at hv
        · simpa using hv
        · cases hv
      have hne : ys ≠ [] := by
        intro e; subst e; simp at hroom; omega
      rcases hs2 with rfl | ⟨b, off, rfl, l', hl', hcl⟩
      · exact absurd rfl hne
      · have hr := run_append_grow (P := P) w st ty t i z hu hi hz ⟨g, 0, none⟩ xs.length c (cur.toList.take (xs.length * T.k)) (by rw [hxl, hsz]) holds ⟨b, off, none⟩ ys.length cm l' (by rw [hl'.len, hsz]) (cells_add hcl)
          (by omega) (by omega) (growslice_fits (by omega) (by rw [hby]; exact hbound))
        refine ⟨_, _, _, _, hr, ?_, ⟨rfl, rfl, rfl, by simp, fun k hk _ => heap_alloc_old w.drew _ k hk⟩, fun g' h => .inr (by simp [ownB] at h; omega)⟩
        have hge := grownCap_ge w (xs.length + ys.length) c t
        have hcm' : grownCap w (xs.length + ys.length) c t ≤ maxLen := grownCap_le_maxLen w _ c t hml
        have hlapp' : ((cur.toList.take (xs.length * T.k)) ++ l').length = (xs.length + ys.length) * T.k := by rw [List.length_append, hxl, hl'.len, Nat.add_mul]
        refine ⟨by simp, hge, hcm', .inr ⟨_, _, (0, 0), rfl, heap_alloc_new w.drew _, fun i _ => by simp, ?_, ?_⟩⟩
        · simp only [Array.size_append, List.size_toArray, size_zeroCells, hzc, hxl, hl'.len, ← Nat.add_mul]
          congr 1; omega
        · simp only [Array.toList_append]
          rw [← hlapp', List.take_left]
          exact (hrep.append hl').keep ⟨by simp, fun k hk _ => heap_alloc_old w.drew _ k hk⟩

/-! ### A store into an element -/
theorem run_storeVar_row {P : Program} {t u : TypeId} {ti : TypeInfo} (hi : P.info? t = some ti) {w : World} {g o : Nat} {cur : Array Value} {fr : Nat × Nat} (hg : w.heap[g]? = some (.cells cur u fr))
    (hf : ∀ i, i < cur.size → ¬ (fr.1 ≤ i ∧ i < fr.2)) {v : Value} (hs : v.cells.size = ti.size) (hfit : o + ti.size ≤ cur.size) (h1 : ∀ c ∈ v.cells.toList, c.oneCell' = true) :
    (Instr.storeAt t (.pointer (some ⟨g, o, none⟩)) v).run P w = .ok () (w.setRow g (cur.toList.take o ++ v.cells.toList ++ cur.toList.drop (o + v.cells.size)).toArray) := by
  show (do storeVar t (← Instr.sureAddr (.pointer (some ⟨g, o, none⟩))) v).run P w = _
  rw [Sem.run_bind, run_sureAddr, Result.andThen_ok]
  unfold storeVar
  rw [Sem.run_bind, run_size hi, Result.andThen_ok, if_neg (by simp [hs])]
  have := run_storeCells_row (P := P) g o u fr v.cells.toList 0 cur w hg (by simp; omega) hf h1
  simpa using this
theorem Ow.store {α : Type} {T : Ty α} {P : Program} {t : TypeId} {bytes : Nat} {z : Value} (tf : TF P t T.k bytes z) {w : World} {A : Bl} {a : Option Addr} {n c : Nat} {xs : List α} (ho : Ow T t w A a n c xs) (hA : ∀ g, ownB a = some g → ¬ A g)
    {i : Int} (hi : i.toNat < xs.length) {k : Nat} (hk : T.k = k) {v : Value} {x : α} (hv : T.rep w A v.cells.toList x) :
    ∃ w', (Instr.storeAt t (.pointer (elemAddr a i k)) v).run P w = .ok () w' ∧ Ow T t w' A a n c (xs.set i.toNat x) ∧ w.grownBy w' (ownB a) := by
  subst hk
  obtain ⟨ti, hti, hsz, _, _⟩ := tf.info
  have hvl := T.len hv
  have hA' := hA
  obtain ⟨hn, hnc, hcm, ho4⟩ := ho
  rcases ho4 with ⟨_, _, rfl⟩ | ⟨g, cur, fr, rfl, hg, hf, hcs, hrep⟩
  · cases hi
  · subst hn
    have hb : i.toNat * T.k + T.k ≤ xs.length * T.k := by
      have := Nat.mul_le_mul_right T.k (show i.toNat + 1 ≤ xs.length from hi)
      rwa [Nat.add_mul, Nat.one_mul] at this
    have hb2 : xs.length * T.k ≤ cur.size := by rw [hcs]; exact Nat.mul_le_mul_right _ hnc
    have hvs : v.cells.size = T.k := by simpa using hvl
    rw [elem_eq, Nat.zero_add]
    refine ⟨_, run_storeVar_row hti hg hf (by rw [hvs, hsz]) (by rw [hsz]; omega) (T.one hv), ?_, setRow_grown w g _⟩
    refine ⟨by simp, hnc, hcm, .inr ⟨g, _, fr, rfl, setRow_heap w g cur _ t fr hg, ?_, ?_, ?_⟩⟩
    · intro j hj
      refine hf j ?_
      simp at hj; omega
    · simp; omega
    · have h1 := (hrep.set hi hv).keep (grown_keep (setRow_grown w g (cur.toList.take (i.toNat * T.k) ++ v.cells.toList ++ cur.toList.drop (i.toNat * T.k + v.cells.size)).toArray) fun b hb e => hA g rfl (by cases e; exact hb))
      have e : ((cur.toList.take (i.toNat * T.k) ++ v.cells.toList ++ cur.toList.drop (i.toNat * T.k + v.cells.size)).toArray).toList.take (xs.length * T.k) =
          (cur.toList.take (xs.length * T.k)).take (i.toNat * T.k) ++ v.cells.toList ++ (cur.toList.take (xs.length * T.k)).drop (i.toNat * T.k + v.cells.toList.length) := by
        simp only []
        have e1 : (cur.toList.take (xs.length * T.k)).take (i.toNat * T.k) = cur.toList.take (i.toNat * T.k) := by rw [List.take_take]; congr 1; omega
        rw [e1, List.take_append, List.drop_take]
        have e2 : (cur.toList.take (i.toNat * T.k) ++ v.cells.toList).length = i.toNat * T.k + T.k := by simp [hvs]; omega
        rw [e2, List.take_of_length_le (by rw [e2]; omega)]
        congr 2
        rw [hvl]
      rw [e]; exact h1

/-! ### Bytes and texts -/
theorem grow_new {w w' : World} (hos : w'.os = w.os) (ht : w'.tape = w.tape) (ho : w'.output = w.output) (hs : w.heap.size ≤ w'.heap.size) (hb : ∀ k, k < w.heap.size → w'.heap[k]? = w.heap[k]?) : Below w.heap.size w w' := ⟨hos, ht, ho, hs, hb⟩
theorem RepL_enc {α : Type} {e : α → Value} {h1 : ∀ x, (e x).oneCell' = true} {p : α → Prop} {w : World} {A : Bl} {xs : List α} (hp : ∀ x ∈ xs, p x) : RepL (Ty.enc e h1 p) w A (xs.map e) xs := by
  refine ⟨by simp [Ty.enc], fun i hi => ?_⟩
  have : ((xs.map e).drop (i * 1)).take 1 = [e xs[i]] := by
    rw [Nat.mul_one, ← List.map_drop, List.drop_eq_getElem_cons hi]; rfl
  exact ⟨this, hp _ (List.getElem_mem hi)⟩
theorem RepL_enc_eq {α : Type} {e : α → Value} {h1 : ∀ x, (e x).oneCell' = true} {p : α → Prop} {w : World} {A : Bl} : ∀ {l : List Value} {xs : List α}, RepL (Ty.enc e h1 p) w A l xs → l = xs.map e := by
  intro l xs h
  have hl : l.length = xs.length := by have := h.len; simpa [Ty.enc] using this
  apply List.ext_getElem (by simp [hl])
  intro i h1 h2
  have hi : i < xs.length := by omega
  have h3 : ((l.drop (i * 1)).take 1) = [e xs[i]] := (h.rep i hi).1
  have h4 : ((l.drop (i * 1)).take 1)[0]? = some (e xs[i]) := by rw [h3]; rfl
  rw [Nat.mul_one, List.getElem?_take, if_pos (by decide), List.getElem?_drop, Nat.add_zero, List.getElem?_eq_getElem h1] at h4
  rw [List.getElem_map]; exact Option.some.inj h4
theorem RepL_enc_p {α : Type} {e : α → Value} {h1 : ∀ x, (e x).oneCell' = true} {p : α → Prop} {w : World} {A : Bl} {l : List Value} {xs : List α} (h : RepL (Ty.enc e h1 p) w A l xs) : ∀ x ∈ xs, p x := fun x hx => by
  obtain ⟨i, hi, rfl⟩ := List.getElem_of_mem hx
  exact (h.rep i hi).2

/-- []byte(s) -/
theorem bytes_of {P : Program} {s d t : TypeId} (hs : P.underlying s = some .string) (hd : P.underlying d = some (.slice t)) (ht : P.underlying t = some (.int .u8)) (w : World) (l : List UInt8) (hl : l.length ≤ 9223372036854775807) (A : Bl) :
    ∃ (w' : World) (a : Option Addr) (n c : Nat), (convert s d (.string (mkS l))).run P w = .ok (.slice a n c) w' ∧ Ow tU8 t w' A a n c l ∧ Below w.heap.size w w' ∧ Fresh w.heap.size a := by
  have hcap : ∃ cap, l.length ≤ cap ∧ cap ≤ maxLen ∧ (choose (.appendCap l.length 0 t)).run P w = .ok cap w.drew := by
    refine ⟨_, grownCap_ge w l.length 0 t, grownCap_le_maxLen w l.length 0 t (by unfold maxLen; omega), ?_⟩
    rw [run_choose]; rfl
  obtain ⟨cap, h1, h2, hch⟩ := hcap
  have hsz : (mkS l).size = l.length := rfl
  generalize hcs : (mkS l).data.map (fun b => Value.int .u8 (b.toNat : Nat)) ++ Array.replicate (cap - l.length) (Value.int .u8 0) = cs
  have hcss : cs.size = cap := by rw [← hcs]; simp [mkS]; omega
  have hmark : (markStringish ⟨w.heap.size, 0, none⟩).run P (w.drew.alloc (.cells cs t)) = .ok () ((w.drew.alloc (.cells cs t)).freeze ⟨w.heap.size, cs.size, none⟩ 1) := by
    unfold markStringish
    have : (w.drew.alloc (.cells cs t)).shape? w.heap.size = some (t, cs.size) := by
      unfold World.shape?
      have := heap_alloc_new w.drew (.cells cs t)
      rw [show w.drew.heap.size = w.heap.size from rfl] at this
      rw [this]
    simp [this]
  refine ⟨(w.drew.alloc (.cells cs t)).freeze ⟨w.heap.size, cs.size, none⟩ 1, some ⟨w.heap.size, 0, none⟩, l.length, cap, ?_, ?_, ?_, fun g hg => by simp [ownB] at hg; omega⟩
  · simp only [convert, Sem.run_bind, run_und hs, run_und hd, Result.andThen_ok, run_und ht, Conv.stringToBytes, hsz, hch]
    show ((newRow t _).run P w.drew).andThen _ = _
    rw [hcs]
    simp only [newRow, Sem.run_bind, run_newObj, Result.andThen_ok, Sem.run_pure, World.alloc_eq]
    rw [show w.drew.heap.size = w.heap.size from rfl, hmark]
    rfl
  · have hheap : ((w.drew.alloc (.cells cs t)).freeze ⟨w.heap.size, cs.size, none⟩ 1).heap[w.heap.size]? = some (.cells cs t (cs.size, cs.size + 1)) := by
      have := heap_alloc_new w.drew (.cells cs t)
      rw [show w.drew.heap.size = w.heap.size from rfl] at this
      simp only [World.freeze, if_neg (show ¬ (1 : Nat) = 0 by decide), Array.getElem?_modify, if_true, this]
      rfl
    refine ⟨rfl, h1, h2, .inr ⟨_, _, _, rfl, hheap, fun i hi => by omega, by rw [hcss]; exact (Nat.mul_one cap).symm, ?_⟩⟩
    have e : cs.toList.take (l.length * tU8.k) = l.map fun c => Value.int .u8 (c.toNat : Nat) := by
      rw [← hcs]
      simp [mkS, tU8, Ty.enc]
    rw [e]
    exact RepL_enc fun _ _ => trivial
  · refine grow_new rfl rfl rfl (by simp [World.freeze]) fun k hk => ?_
    simp only [World.freeze, if_neg (show ¬ (1 : Nat) = 0 by decide), Array.getElem?_modify]
    rw [if_neg (show ¬ w.heap.size = k by omega)]
    exact heap_alloc_old w.drew _ k hk

theorem push_all : ∀ (xs : List UInt8) (acc : List UInt8), (xs.foldl (fun (b : ByteArray) c => b.push c) (mkS acc)) = mkS (acc ++ xs)
  | [], acc => by simp
  | x :: xs, acc => by
    have : (mkS acc).push x = mkS (acc ++ [x]) := by
      simp [mkS, ByteArray.push]
    rw [List.foldl_cons, this, push_all xs]; simp
/-- string(b) -/
theorem text_of {P : Program} {s d t : TypeId} (hs : P.underlying s = some (.slice t)) (hd : P.underlying d = some .string) (ht : P.underlying t = some (.int .u8)) {w : World} {A : Bl} {a : Option Addr} {n c : Nat} {xs : List UInt8} (h : Sl tU8 w A a n c xs) :
    (convert s d (.slice a n c)).run P w = .ok (.string (mkS xs)) w := by
  have conv : (convert s d (.slice a n c)).run P w = (Conv.bytesToString (.slice a n c)).run P w := by
    cases a <;> simp [convert, run_und hs, run_und hd, run_und ht]
  rw [conv]
  obtain ⟨hn, _, _, h4⟩ := h
  have loop : ∀ (msg : String) (l : List UInt8) (acc : List UInt8), (do
      let r ← forIn (l.map fun c => Value.int .u8 (c.toNat : Nat)) (mkS acc) fun c r => do
        let .int .u8 n := c | stuck msg
        pure (ForInStep.yield (r.push (UInt8.ofNat n.toNat)))
      pure (Value.string r) : Sem Value).run P w = .ok (.string (mkS (acc ++ l))) w := by
    intro msg l
    induction l with
    | nil => intro acc; simp
    | cons x l ih =>
      intro acc
      have e1 : (mkS acc).push x = mkS (acc ++ [x]) := by simp [mkS, ByteArray.push]
      have := ih (acc ++ [x])
      simp only [List.map_cons, List.forIn_cons, bind_assoc, pure_bind, Int.toNat_natCast, UInt8.ofNat_toNat, e1]
      rw [this]; simp
  cases a with
  | none =>
    have : xs = [] := by
      rcases h4 with h4 | ⟨b, off, e, _⟩
      · exact h4
      · cases e
    subst this
    simp [Conv.bytesToString]; rfl
  | some p =>
    have hcells : (loadCells p n).run P w = .ok (xs.map fun c => Value.int .u8 (c.toNat : Nat)).toArray w := by
      rcases h4 with h4 | ⟨b, off, e, hb, hab, l, h5, h6⟩
      · subst h4; subst hn; simp [loadCells, loadCellsFrom]
      · cases e
        have := run_cells (P := P) h6
        rw [h5.len] at this
        rw [RepL_enc_eq h5] at this
        rw [hn]
        simpa [tU8, Ty.enc] using this
    have key : ∃ msg : String, (Conv.bytesToString (.slice (some p) n c)).run P w = ((loadCells p n).run P w).andThen fun cs w' => (do
      let r ← forIn cs (mkS []) fun c r => do
        let .int .u8 n := c | stuck msg
        pure (ForInStep.yield (r.push (UInt8.ofNat n.toNat)))
      pure (Value.string r) : Sem Value).run P w' := by
      constructor
      unfold Conv.bytesToString
      simp only [Sem.run_bind]
      rfl
    obtain ⟨msg, key⟩ := key
    rw [key, hcells, Result.andThen_ok]
    have := loop msg xs []
    rw [List.nil_append] at this
    rw [← this]
    simp only [List.forIn_toArray]

/-! ### Integers -/
theorem wrap_i64 {n : Int} (h1 : -9223372036854775808 ≤ n) (h2 : n ≤ 9223372036854775807) : IntKind.i64.wrap n = n := IntWalk.i64_in n ⟨h1, h2⟩
theorem wrap_u8 {n : Int} (h1 : 0 ≤ n) (h2 : n ≤ 255) : IntKind.u8.wrap n = n := IntWalk.u8_in n ⟨h1, h2⟩
theorem u8_lt (c : UInt8) : (0 : Int) ≤ (c.toNat : Nat) ∧ ((c.toNat : Nat) : Int) ≤ 255 := by
  have := c.toNat_lt; omega
theorem byteAt_lt (s : List UInt8) (i : Int) : 0 ≤ byteAt s i ∧ byteAt s i ≤ 255 := u8_lt _
theorem byteAt_get {s : List UInt8} {i : Int} (h : i.toNat < s.length) : byteAt s i = ((s[i.toNat]).toNat : Nat) := by
  simp [byteAt, h]
theorem u8_of {n : Int} (h1 : 0 ≤ n) (h2 : n ≤ 255) : ∃ c : UInt8, n = ((c.toNat : Nat) : Int) := by
  refine ⟨UInt8.ofNat n.toNat, ?_⟩
  have : (UInt8.ofNat n.toNat).toNat = n.toNat := by
    rw [UInt8.toNat_ofNat']; omega
  rw [this]; omega
theorem u8_inj {a b : UInt8} (h : ((a.toNat : Nat) : Int) = ((b.toNat : Nat) : Int)) : a = b := UInt8.toNat_inj.1 (by omega)
theorem toNat_ofNat {n : Nat} (h : n ≤ 255) : (UInt8.ofNat n).toNat = n := by rw [UInt8.toNat_ofNat']; omega
theorem rep_u8 {w : World} {A : Bl} {n : Int} {c : UInt8} (h : n = ((c.toNat : Nat) : Int)) : tU8.rep w A [.int .u8 n] c := ⟨by rw [h], trivial⟩
theorem rep_i64 {w : World} {A : Bl} {n : Int} : tI64.rep w A [.int .i64 n] n := ⟨rfl, trivial⟩
theorem rep_bool {w : World} {A : Bl} {b : Bool} : tBool.rep w A [.bool b] b := ⟨rfl, trivial⟩
theorem rep_str {w : World} {A : Bl} {p : List UInt8 → Prop} {s : List UInt8} (h : p s) : (tStr p).rep w A [.string (mkS s)] s := ⟨rfl, h⟩
theorem u8_rep {w : World} {A : Bl} {v : Value} {c : UInt8} (h : tU8.rep w A [v] c) : v = .int .u8 (c.toNat : Nat) := by have := h.1; simpa using this
theorem i64_rep {w : World} {A : Bl} {v : Value} {n : Int} (h : tI64.rep w A [v] n) : v = .int .i64 n := by have := h.1; simpa using this
theorem bool_rep {w : World} {A : Bl} {v : Value} {n : Bool} (h : tBool.rep w A [v] n) : v = .bool n := by have := h.1; simpa using this
theorem str_rep {w : World} {A : Bl} {p : List UInt8 → Prop} {v : Value} {s : List UInt8} (h : (tStr p).rep w A [v] s) : v = .string (mkS s) ∧ p s := ⟨by have := h.1; simpa using this, h.2⟩
theorem Fresh.app {B : Nat} {w : World} {a a' : Option Addr} (hf : Fresh B a) (hB : B ≤ w.heap.size) (h : ∀ g, ownB a' = some g → ownB a = some g ∨ w.heap.size ≤ g) : Fresh B a' := fun g hg => by
  rcases h g hg with h | h
  · exact hf g h
  · exact Nat.le_trans hB h
theorem flat_i64 : Flat tI64 := fun _ _ _ _ _ _ h => h
theorem flat_u8 : Flat tU8 := fun _ _ _ _ _ _ h => h
theorem flat_bool : Flat tBool := fun _ _ _ _ _ _ h => h
theorem flat_str (p : List UInt8 → Prop) : Flat (tStr p) := fun _ _ _ _ _ _ h => h
/-- a slice literal: a new block of so many cells -/
theorem Ow.newF {α : Type} {T : Ty α} (hf : Flat T) {w w' : World} {A : Bl} {t : TypeId} {l : List Value} {xs : List α} {b : Nat} (hb : b = w.heap.size) (hw : w' = w.alloc (.cells l.toArray t)) (h : RepL T w A l xs) (hm : xs.length ≤ maxLen) :
    Ow T t w' A (some ⟨b, 0, none⟩) xs.length xs.length xs := by
  subst hb hw
  refine ⟨rfl, Nat.le_refl _, hm, .inr ⟨_, l.toArray, (0, 0), rfl, heap_alloc_new w _, ?_, by simpa using h.len, ?_⟩⟩
  · intro i hi; simp
  · rw [← h.len]; simp; exact h.flat hf
theorem fresh_new {w : World} {b : Nat} (hb : b = w.heap.size) : Fresh w.heap.size (some ⟨b, 0, none⟩) := fun g hg => by simp [ownB] at hg; omega
end Go.Pk
