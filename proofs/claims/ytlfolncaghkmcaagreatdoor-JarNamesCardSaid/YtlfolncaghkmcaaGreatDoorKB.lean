/- What the laws lean on: R, Open, Names, V3; what is used. Its conditions: none. -/
import Derived.Test.YtlfolncaghkmcaaGreatDoorKA
import Derived.Laws.AppendOwn
import Derived.IntWalk
import Derived.ProofKit
import Derived.OpenShut
import Derived.Stop.LaidErr
import Derived.Lib.LaidTab
import Derived.Deep.DeepHandedRow
import Derived.Test.YtlfolncaghkmcaaGreatDoorRows
open Go.IntKind (i64)
open Go.Proofs.Tryz (prog)
set_option linter.unusedVariables false
set_option linter.unusedSimpArgs false
namespace Go.Pk
open Go.RowKit (Below)
abbrev Bl := Nat -> Prop
structure Keep (A : Bl) (w w' : World) : Prop where
 size : w.heap.size <= w'.heap.size
 block : ∀ b, b < w.heap.size -> A b -> w'.heap[b]? = w.heap[b]?
theorem Keep.refl (A : Bl) (w : World) : Keep A w w := ⟨Nat.le_refl _, fun _ _ _ => rfl⟩
theorem Keep.trans {A : Bl} {a b c : World} (h : Keep A a b) (k : Keep A b c) : Keep A a c :=
 ⟨Nat.le_trans h.size k.size, fun i hi ha => (k.block i (Nat.lt_of_lt_of_le hi h.size) ha).trans (h.block i hi ha)⟩
theorem Keep.mono {A A' : Bl} {w w' : World} (h : Keep A w w') (ha : ∀ b, A' b -> A b) : Keep A' w w' := ⟨h.size, fun b hb hab => h.block b hb (ha b hab)⟩
theorem quY {w w' : World} (h : Below w.heap.size w w') (A : Bl) : Keep A w w' := ⟨h.size, fun b hb _ => h.block b hb⟩
theorem qbI {w w' : World} {row : Option Nat} (h : w.grownBy w' row) {A : Bl} (ha : ∀ b, A b -> some b ≠ row) : Keep A w w' := ⟨h.size, fun b hb hab => h.block b hb (ha b hab)⟩
theorem qT (w : World) : Below w.heap.size w w.drew := (Below.refl _ w).drew
theorem qj (w : World) (o : Obj) : Below w.heap.size w (w.alloc o) := (Below.refl _ w).alloc (Nat.le_refl _) o
theorem qd {B : Nat} {a b c : World} (h : Below B a b) (k : Below b.heap.size b c) (hB : B <= b.heap.size) : Below B a c := h.trans (k.mono hB)
structure Ty (α : Type) where
 k : Nat
 pos : 0 < k
 rep : World -> Bl -> List Value -> α -> Prop
 len : ∀ {w A vs x}, rep w A vs x -> vs.length = k
 one : ∀ {w A vs x}, rep w A vs x -> ∀ v ∈ vs, v.oneCell' = true
 keep : ∀ {w w' A vs x}, rep w A vs x -> Keep A w w' -> rep w' A vs x
 mono : ∀ {w A A' vs x}, rep w A vs x -> (∀ b, b < w.heap.size -> A b -> A' b) -> rep w A' vs x
def Ty.enc {α : Type} (e : α -> Value) (h1 : ∀ x, (e x).oneCell' = true) (p : α -> Prop) : Ty α where
 k := 1
 pos := by decide
 rep := fun _ _ vs x => vs = [e x] /\ p x
 len := fun h => by rw [h.1]; rfl
 one := fun {_ _ _ x} h v hv => by rw [h.1] at hv; simp at hv; rw [hv]; exact h1 x
 keep := fun h _ => h
 mono := fun h _ => h
def tInt (k : IntKind) (p : Int -> Prop) : Ty Int := Ty.enc (fun n => .int k n) (fun _ => rfl) p
def tU8 : Ty UInt8 := Ty.enc (fun c => .int .u8 (c.toNat : Nat)) (fun _ => rfl) fun _ => True
def tStr (p : List UInt8 -> Prop) : Ty (List UInt8) := Ty.enc (fun s => .string (mkS s)) (fun _ => rfl) p
abbrev tS : Ty (List UInt8) := tStr fun _ => True
def NoB : Bl := fun _ => False
structure TF (P : Program) (t : TypeId) (k bytes : Nat) (z : Value) : Prop where
 info : ∃ i, P.info? t = some i /\ i.size = k /\ i.bytes = bytes /\ i.zero = some z
 cells : z.cells.size = k
 und : ∃ d, P.underlying t = some d /\ (aggD d = true \/ k = 1 /\ aggD d = false)
theorem TF.of {P : Program} {t : TypeId} {k bytes : Nat} {z : Value} (h1 : (P.info? t).map (fun i => (i.size, i.bytes, i.zero)) = some (k, bytes, some z)) (h2 : z.cells.size = k) (b : Bool)
   (h3 : (P.underlying t).map aggD = some b) (h4 : b = true \/ k = 1) : TF P t k bytes z := by
 cases hi : P.info? t with
 | none => rw [hi] at h1; cases h1
 | some i =>
   rw [hi] at h1
   simp only [Option.map_some, Option.some.injEq, Prod.mk.injEq] at h1
   cases hu : P.underlying t with
   | none => rw [hu] at h3; cases h3
   | some d =>
     rw [hu] at h3
     simp only [Option.map_some, Option.some.injEq] at h3
     refine ⟨⟨i, hi, h1.1, h1.2.1, h1.2.2⟩, h2, d, hu, ?_⟩
     cases b with
     | true => exact .inl h3
     | false => exact .inr ⟨h4.resolve_left (by simp), h3⟩
structure RepL {α : Type} (T : Ty α) (w : World) (A : Bl) (l : List Value) (xs : List α) : Prop where
 len : l.length = xs.length * T.k
 rep : ∀ i (h : i < xs.length), T.rep w A ((l.drop (i * T.k)).take T.k) xs[i]
theorem RepL.nil {α : Type} (T : Ty α) (w : World) (A : Bl) : RepL T w A [] ([] : List α) := ⟨by simp, fun i h => by cases h⟩
theorem RepL.one {α : Type} {T : Ty α} {w : World} {A : Bl} {vs : List Value} {x : α} (h : T.rep w A vs x) : RepL T w A vs [x] := by
 have hl := T.len h
 refine ⟨by simp [hl], fun i hi => ?_⟩
 have : i = 0 := by simpa using hi
 subst this
 simp only [Nat.zero_mul, List.drop_zero, List.getElem_cons_zero]
 rw [List.take_of_length_le (by omega)]; exact h
theorem RepL.append {α : Type} {T : Ty α} {w : World} {A : Bl} {l m : List Value} {xs ys : List α} (h : RepL T w A l xs) (k : RepL T w A m ys) : RepL T w A (l ++ m) (xs ++ ys) := by
 refine ⟨by rw [List.length_append, List.length_append, h.len, k.len, Nat.add_mul], fun i hi => ?_⟩
 by_cases c : i < xs.length
 · rw [List.getElem_append_left c]
   have h1 := h.rep i c
   have h2 : i * T.k + T.k <= l.length := by
     have := Nat.mul_le_mul_right T.k (show i + 1 <= xs.length from c)
     rw [Nat.add_mul, Nat.one_mul] at this
     rw [h.len]; exact this
   rw [List.drop_append_of_le_length (by omega), List.take_append_of_le_length (by rw [List.length_drop]; omega)]
   exact h1
 · have hi' : i - xs.length < ys.length := by simp at hi; omega
   rw [List.getElem_append_right (by omega)]
   have h1 := k.rep (i - xs.length) hi'
   have h2 : i * T.k = l.length + (i - xs.length) * T.k := by
     rw [h.len, <- Nat.add_mul]; congr 1; omega
   rw [h2, List.drop_length_add_append]
   exact h1
theorem RepL.keep {α : Type} {T : Ty α} {w w' : World} {A : Bl} {l : List Value} {xs : List α} (h : RepL T w A l xs) (hk : Keep A w w') : RepL T w' A l xs := ⟨h.len, fun i hi => T.keep (h.rep i hi) hk⟩
theorem RepL.mono {α : Type} {T : Ty α} {w : World} {A A' : Bl} {l : List Value} {xs : List α} (h : RepL T w A l xs) (ha : ∀ b, b < w.heap.size -> A b -> A' b) : RepL T w A' l xs := ⟨h.len, fun i hi => T.mono (h.rep i hi) ha⟩
theorem RepL.ones {α : Type} {T : Ty α} {w : World} {A : Bl} : ∀ {xs : List α} {l : List Value}, RepL T w A l xs -> ∀ v ∈ l, v.oneCell' = true
 | [], l, h, v, hv => by have := h.len; simp at this; subst this; cases hv
 | x :: xs, l, h, v, hv => by
   have hl := h.len
   have hk := T.pos
   have h1 := h.rep 0 (by simp)
   rw [Nat.zero_mul, List.drop_zero] at h1
   have h2 : RepL T w A (l.drop T.k) xs := by
     refine ⟨by rw [List.length_drop, hl]; simp [Nat.add_mul], fun i hi => ?_⟩
     have := h.rep (i + 1) (by simp; omega)
     simp only [List.getElem_cons_succ] at this
     rw [List.drop_drop]
     rw [Nat.add_mul, Nat.one_mul, Nat.add_comm] at this
     exact this
   rw [<- List.take_append_drop T.k l] at hv
   rcases List.mem_append.1 hv with hv | hv
   · exact T.one h1 v hv
   · exact RepL.ones h2 v hv
theorem RepL.set {α : Type} {T : Ty α} {w : World} {A : Bl} {l : List Value} {xs : List α} (h : RepL T w A l xs) {i : Nat} (hi : i < xs.length) {vs : List Value} {x : α} (hx : T.rep w A vs x) :
   RepL T w A (l.take (i * T.k) ++ vs ++ l.drop (i * T.k + vs.length)) (xs.set i x) := by
 have hv := T.len hx
 have hb : i * T.k + T.k <= l.length := by
   have := Nat.mul_le_mul_right T.k (show i + 1 <= xs.length from hi)
   rw [Nat.add_mul, Nat.one_mul] at this
   rw [h.len]; exact this
 refine ⟨?_, fun j hj => ?_⟩
 · rw [List.length_set, <- h.len, List.length_append, List.length_append, List.length_take, List.length_drop, hv]; omega
 · have hj' : j < xs.length := by simpa using hj
   have key : (l.take (i * T.k) ++ vs ++ l.drop (i * T.k + vs.length)) = l.take (i * T.k) ++ (vs ++ l.drop (i * T.k + vs.length)) := List.append_assoc _ _ _
   have htl : (l.take (i * T.k)).length = i * T.k := by rw [List.length_take]; omega
   by_cases c1 : j < i
   · have h1 := h.rep j hj'
     have h2 : j * T.k + T.k <= i * T.k := by
       have := Nat.mul_le_mul_right T.k (show j + 1 <= i from c1)
       rwa [Nat.add_mul, Nat.one_mul] at this
     rw [List.getElem_set_ne (by omega), key, List.drop_append_of_le_length (by omega), List.take_append_of_le_length (by rw [List.length_drop]; omega)]
     rw [List.drop_take, List.take_take]
     rw [show min T.k (i * T.k - j * T.k) = T.k by omega]
     exact h1
   · by_cases c2 : j = i
     · subst c2
       rw [List.getElem_set_self, key, List.drop_left' htl, <- hv, List.take_left]
       exact hx
     · have h1 := h.rep j hj'
       have h2 : i * T.k + T.k <= j * T.k := by
         have := Nat.mul_le_mul_right T.k (show i + 1 <= j by omega)
         rwa [Nat.add_mul, Nat.one_mul] at this
       rw [List.getElem_set_ne (by omega)]
       have e1 : (l.take (i * T.k) ++ vs ++ l.drop (i * T.k + vs.length)).drop (j * T.k) = l.drop (j * T.k) := by
         have e2 : j * T.k = (l.take (i * T.k) ++ vs).length + (j * T.k - (i * T.k + T.k)) := by rw [List.length_append, htl, hv]; omega
         rw [e2, List.drop_length_add_append, List.drop_drop]
         congr 1
         omega
       rw [e1]; exact h1
def At {α : Type} (T : Ty α) (w : World) (A : Bl) (b off : Nat) (xs : List α) : Prop :=
 ∃ l : List Value, RepL T w A l xs /\ ∀ j, j < l.length -> w.cell? ⟨b, off + j, none⟩ = l[j]?
def Sl {α : Type} (T : Ty α) (w : World) (A : Bl) (a : Option Addr) (n c : Nat) (xs : List α) : Prop :=
 n = xs.length /\ n <= c /\ c <= maxLen /\ (xs = [] \/ ∃ b off, a = some ⟨b, off, none⟩ /\ b < w.heap.size /\ A b /\ At T w A b off xs)
theorem qsE {w w' : World} {b : Nat} (h : w'.heap[b]? = w.heap[b]?) (o : Nat) : w'.cell? ⟨b, o, none⟩ = w.cell? ⟨b, o, none⟩ := by simp [World.cell?, h]
theorem At.keep {α : Type} {T : Ty α} {w w' : World} {A : Bl} {b off : Nat} {xs : List α} (h : At T w A b off xs) (hb : b < w.heap.size) (ha : A b) (hk : Keep A w w') : At T w' A b off xs := by
 obtain ⟨l, h1, h2⟩ := h
 exact ⟨l, h1.keep hk, fun j hj => by rw [qsE (hk.block b hb ha)]; exact h2 j hj⟩
theorem Sl.keep {α : Type} {T : Ty α} {w w' : World} {A : Bl} {a : Option Addr} {n c : Nat} {xs : List α} (h : Sl T w A a n c xs) (hk : Keep A w w') : Sl T w' A a n c xs := by
 obtain ⟨h1, h2, h3, h4⟩ := h
 refine ⟨h1, h2, h3, ?_⟩
 rcases h4 with h4 | ⟨b, off, e, hb, ha, h4⟩
 · exact .inl h4
 · exact .inr ⟨b, off, e, Nat.lt_of_lt_of_le hb hk.size, ha, h4.keep hb ha hk⟩
theorem Sl.below {α : Type} {T : Ty α} {w w' : World} {A : Bl} {a : Option Addr} {n c : Nat} {xs : List α} (h : Sl T w A a n c xs) (hk : Below w.heap.size w w') : Sl T w' A a n c xs := h.keep (quY hk A)
theorem Sl.mono {α : Type} {T : Ty α} {w : World} {A A' : Bl} {a : Option Addr} {n c : Nat} {xs : List α} (h : Sl T w A a n c xs) (ha : ∀ b, b < w.heap.size -> A b -> A' b) : Sl T w A' a n c xs := by
 obtain ⟨h1, h2, h3, h4⟩ := h
 refine ⟨h1, h2, h3, ?_⟩
 rcases h4 with h4 | ⟨b, off, e, hb, hab, h4⟩
 · exact .inl h4
 · obtain ⟨l, h5, h6⟩ := h4
   exact .inr ⟨b, off, e, hb, ha b hb hab, l, h5.mono ha, h6⟩
theorem Sl.len {α : Type} {T : Ty α} {w : World} {A : Bl} {a : Option Addr} {n c : Nat} {xs : List α} (h : Sl T w A a n c xs) : n = xs.length := h.1
theorem Sl.le {α : Type} {T : Ty α} {w : World} {A : Bl} {a : Option Addr} {n c : Nat} {xs : List α} (h : Sl T w A a n c xs) : xs.length <= 9223372036854775807 := by
 have h1 := h.1; have h2 := h.2.1; have h3 := h.2.2.1; unfold maxLen at h3; omega
theorem Sl.nil {α : Type} (T : Ty α) (w : World) (A : Bl) (a : Option Addr) (c : Nat) (hc : c <= maxLen) : Sl T w A a 0 c ([] : List α) := ⟨rfl, Nat.zero_le _, hc, .inl rfl⟩
theorem Sl.isSome {α : Type} {T : Ty α} {w : World} {A : Bl} {a : Option Addr} {n c : Nat} {xs : List α} (h : Sl T w A a n c xs) {i : Nat} (hi : i < xs.length) : Option.isSome a = true := by
 rcases h.2.2.2 with h4 | ⟨b, off, e, _⟩
 · subst h4; cases hi
 · rw [e]; rfl
theorem jj (b o j : Nat) : (⟨b, o, none⟩ : Addr).add j = ⟨b, o + j, none⟩ := by
 unfold Addr.add; split <;> simp_all
theorem loadVar_one {P : Program} {t : TypeId} {d : TypeDesc} (hu : P.underlying t = some d) (ha : aggD d = false) {w : World} {p : Addr} {v : Value} (hc : w.cell? p = some v) :
   (loadVar t p).run P w = .ok v w := by
 unfold loadVar
 rw [Sem.run_bind, qnP hu, ha]
 simp [hc]
theorem qwY {P : Program} {w : World} {b off : Nat} {vs : List Value} (h : ∀ j, j < vs.length -> w.cell? ⟨b, off + j, none⟩ = vs[j]?) : (loadCells ⟨b, off, none⟩ vs.length).run P w = .ok vs.toArray w :=
 run_loadCells_list (P := P) w ⟨b, off, none⟩ vs fun j v hv => by
   rw [jj, h j (by have := (List.getElem?_eq_some_iff.1 hv).1; exact this)]; exact hv
theorem qs9 {P : Program} {t : TypeId} {d : TypeDesc} {i : TypeInfo} (hu : P.underlying t = some d) (ha : aggD d = true) (hi : P.info? t = some i) {w : World} {b off : Nat} {vs : List Value} (hl : vs.length = i.size)
   (h : ∀ j, j < vs.length -> w.cell? ⟨b, off + j, none⟩ = vs[j]?) : (loadVar t ⟨b, off, none⟩).run P w = .ok (.agg vs.toArray) w := by
 unfold loadVar
 rw [Sem.run_bind, qnP hu, ha]
 have := qwY (P := P) h
 rw [hl] at this
 simp [qfO hi, this]
theorem qfR (b off : Nat) (i : Int) (k : Nat) : ql (some ⟨b, off, none⟩) i k = some ⟨b, off + i.toNat * k, none⟩ := by
 simp [ql, jj]
theorem At.elem {α : Type} {T : Ty α} {w : World} {A : Bl} {b off : Nat} {xs : List α} (h : At T w A b off xs) {i : Nat} (hi : i < xs.length) :
   ∃ vs, T.rep w A vs xs[i] /\ ∀ j, j < T.k -> w.cell? ⟨b, off + i * T.k + j, none⟩ = vs[j]? := by
 obtain ⟨l, h1, h2⟩ := h
 have hb : i * T.k + T.k <= l.length := by
   have := Nat.mul_le_mul_right T.k (show i + 1 <= xs.length from hi)
   rw [Nat.add_mul, Nat.one_mul] at this
   rw [h1.len]; exact this
 refine ⟨_, h1.rep i hi, fun j hj => ?_⟩
 rw [Nat.add_assoc, h2 _ (by omega), List.getElem?_take, if_pos hj, List.getElem?_drop]
theorem Sl.load1 {α : Type} {T : Ty α} {P : Program} {t : TypeId} {d : TypeDesc} (hu : P.underlying t = some d) (ha : aggD d = false) (hk : T.k = 1)
   {w : World} {A : Bl} {a : Option Addr} {n c : Nat} {xs : List α} (h : Sl T w A a n c xs) {i : Int} (hi : i.toNat < xs.length) :
   ∃ v, (Instr.loadAt t (.pointer (ql a i 1))).run P w = .ok v w /\ T.rep w A [v] xs[i.toNat] := by
 rcases h.2.2.2 with h4 | ⟨b, off, e, hb, hab, h4⟩
 · subst h4; cases hi
 · obtain ⟨vs, h5, h6⟩ := h4.elem hi
   have hl := T.len h5
   rw [hk] at hl
   match vs, hl with
   | [v], _ =>
     refine ⟨v, ?_, h5⟩
     have h7 := h6 0 (by rw [hk]; decide)
     rw [hk] at h7
     rw [e, qfR]
     show (do loadVar t (<- Instr.sureAddr (.pointer (some _)))).run P w = _
     rw [Sem.run_bind, qea]
     exact loadVar_one hu ha (by simpa using h7)
theorem Sl.loadA {α : Type} {T : Ty α} {P : Program} {t : TypeId} {d : TypeDesc} {ti : TypeInfo} (hu : P.underlying t = some d) (ha : aggD d = true) (hi' : P.info? t = some ti) {k : Nat} (hk : T.k = k) (hs : ti.size = k)
   {w : World} {A : Bl} {a : Option Addr} {n c : Nat} {xs : List α} (h : Sl T w A a n c xs) {i : Int} (hi : i.toNat < xs.length) :
   ∃ vs, (Instr.loadAt t (.pointer (ql a i k))).run P w = .ok (.agg vs.toArray) w /\ T.rep w A vs xs[i.toNat] := by
 subst hk
 rcases h.2.2.2 with h4 | ⟨b, off, e, hb, hab, h4⟩
 · subst h4; cases hi
 · obtain ⟨vs, h5, h6⟩ := h4.elem hi
   have hl := T.len h5
   refine ⟨vs, ?_, h5⟩
   rw [e, qfR]
   show (do loadVar t (<- Instr.sureAddr (.pointer (some _)))).run P w = _
   rw [Sem.run_bind, qea]
   exact qs9 hu ha hi' (by omega) fun j hj => h6 j (by omega)
def ownB (a : Option Addr) : Option Nat := a.map (·.block)
def Ow {α : Type} (T : Ty α) (t : TypeId) (w : World) (A : Bl) (a : Option Addr) (n c : Nat) (xs : List α) : Prop :=
 n = xs.length /\ n <= c /\ c <= maxLen /\ ((a = none /\ c = 0 /\ xs = []) \/
   ∃ g cur fr, a = some ⟨g, 0, none⟩ /\ w.heap[g]? = some (.cells cur t fr) /\ (∀ i, i < cur.size -> ¬ (fr.1 <= i /\ i < fr.2)) /\ cur.size = c * T.k /\ RepL T w A (cur.toList.take (n * T.k)) xs)
theorem Ow.nil {α : Type} (T : Ty α) (t : TypeId) (w : World) (A : Bl) : Ow T t w A none 0 0 ([] : List α) := ⟨rfl, Nat.le_refl _, Nat.zero_le _, .inl ⟨rfl, rfl, rfl⟩⟩
theorem Ow.len {α : Type} {T : Ty α} {t : TypeId} {w : World} {A : Bl} {a : Option Addr} {n c : Nat} {xs : List α} (h : Ow T t w A a n c xs) : n = xs.length := h.1
theorem Ow.le {α : Type} {T : Ty α} {t : TypeId} {w : World} {A : Bl} {a : Option Addr} {n c : Nat} {xs : List α} (h : Ow T t w A a n c xs) : xs.length <= 9223372036854775807 := by
 have h1 := h.1; have h2 := h.2.1; have h3 := h.2.2.1; unfold maxLen at h3; omega
theorem Ow.lt {α : Type} {T : Ty α} {t : TypeId} {w : World} {A : Bl} {a : Option Addr} {n c : Nat} {xs : List α} (h : Ow T t w A a n c xs) : ∀ g, ownB a = some g -> g < w.heap.size := by
 intro g hg
 rcases h.2.2.2 with ⟨e, _⟩ | ⟨g', cur, fr, e, hh, _⟩
 · rw [e] at hg; cases hg
 · rw [e] at hg; simp [ownB] at hg; subst hg; exact (Array.getElem?_eq_some_iff.1 hh).1
theorem Ow.keep {α : Type} {T : Ty α} {t : TypeId} {w w' : World} {A : Bl} {a : Option Addr} {n c : Nat} {xs : List α} (h : Ow T t w A a n c xs) (hk : Keep (fun b => A b \/ some b = ownB a) w w') : Ow T t w' A a n c xs := by
 have hlt := h.lt
 obtain ⟨h1, h2, h3, h4⟩ := h
 refine ⟨h1, h2, h3, ?_⟩
 rcases h4 with h4 | ⟨g, cur, fr, e, hh, hf, hs, h4⟩
 · exact .inl h4
 · refine .inr ⟨g, cur, fr, e, ?_, hf, hs, h4.keep (hk.mono fun _ h => .inl h)⟩
   rw [hk.block g (hlt g (by rw [e]; rfl)) (.inr (by rw [e]; rfl))]; exact hh
theorem Ow.below {α : Type} {T : Ty α} {t : TypeId} {w w' : World} {A : Bl} {a : Option Addr} {n c : Nat} {xs : List α} (h : Ow T t w A a n c xs) (hk : Below w.heap.size w w') : Ow T t w' A a n c xs := h.keep (quY hk _)
theorem Ow.mono {α : Type} {T : Ty α} {t : TypeId} {w : World} {A A' : Bl} {a : Option Addr} {n c : Nat} {xs : List α} (h : Ow T t w A a n c xs) (ha : ∀ b, b < w.heap.size -> A b -> A' b) : Ow T t w A' a n c xs := by
 obtain ⟨h1, h2, h3, h4⟩ := h
 refine ⟨h1, h2, h3, ?_⟩
 rcases h4 with h4 | ⟨g, cur, fr, e, hh, hf, hs, h4⟩
 · exact .inl h4
 · exact .inr ⟨g, cur, fr, e, hh, hf, hs, h4.mono ha⟩
theorem Ow.sl {α : Type} {T : Ty α} {t : TypeId} {w : World} {A A' : Bl} {a : Option Addr} {n c : Nat} {xs : List α} (h : Ow T t w A a n c xs) (hA : ∀ b, b < w.heap.size -> A b -> A' b) (hg : ∀ g, ownB a = some g -> A' g) :
   Sl T w A' a n c xs := by
 have hlt := h.lt
 obtain ⟨h1, h2, h3, h4⟩ := h
 refine ⟨h1, h2, h3, ?_⟩
 rcases h4 with ⟨_, _, h4⟩ | ⟨g, cur, fr, e, hh, hf, hs, h4⟩
 · exact .inl h4
 · refine .inr ⟨g, 0, e, hlt g (by rw [e]; rfl), hg g (by rw [e]; rfl), _, h4.mono hA, fun j hj => ?_⟩
   rw [List.length_take] at hj
   rw [cell_of_row w g _ cur t fr hh, Nat.zero_add, List.getElem?_take, if_pos (by omega)]
   simp
abbrev AllB : Bl := fun _ => True
theorem Ow.all {α : Type} {T : Ty α} {t : TypeId} {w : World} {A : Bl} {a : Option Addr} {n c : Nat} {xs : List α} (h : Ow T t w A a n c xs) : Sl T w AllB a n c xs := h.sl (fun _ _ _ => trivial) (fun _ _ => trivial)
def zq (B : Nat) (a : Option Addr) : Prop := ∀ g, ownB a = some g -> B <= g
theorem zq.none (B : Nat) : zq B none := fun _ h => by cases h
theorem zq.mono {B B' : Nat} {a : Option Addr} (h : zq B a) (hb : B' <= B) : zq B' a := fun g hg => Nat.le_trans hb (h g hg)
theorem qx1 (w : World) (g : Nat) (cs : Array Value) : (w.setRow g cs).heap.size = w.heap.size := by simp [World.setRow]
theorem qe8 (w : World) (g : Nat) (cs : Array Value) : w.grownBy (w.setRow g cs) (some g) :=
 ⟨rfl, rfl, rfl, by rw [qx1]; exact Nat.le_refl _, fun k _ hk => setRow_other w g k cs fun e => hk (by rw [e])⟩
theorem qlS {w : World} {g : Nat} {cur : Array Value} {t : TypeId} {fr : Nat × Nat} (hg : w.heap[g]? = some (.cells cur t fr)) (o : Nat) : w.cell? ⟨g, o, none⟩ = cur[o]? := cell_of_row w g o cur t fr hg
theorem qu4 {w : World} {g o : Nat} {cur : Array Value} {t : TypeId} {fr : Nat × Nat} (hg : w.heap[g]? = some (.cells cur t fr)) (hf : ¬ (fr.1 <= o /\ o < fr.2)) : w.frozen? ⟨g, o, none⟩ = false := by
 obtain ⟨lo, hi⟩ := fr
 simp only [World.frozen?, hg]
 simpa using hf
theorem qwf {P : Program} {w : World} {g o : Nat} {cur : Array Value} {t : TypeId} {fr : Nat × Nat} (hg : w.heap[g]? = some (.cells cur t fr)) (ho : o < cur.size) (hf : ¬ (fr.1 <= o /\ o < fr.2))
   {v : Value} (h1 : v.oneCell' = true) : (store ⟨g, o, none⟩ v).run P w = .ok () (w.setRow g (cur.setIfInBounds o v)) := by
 rw [run_store P w _ v .plain h1, qlS hg, qu4 hg hf, Array.getElem?_eq_getElem ho]
 simp only [Bool.false_eq_true, if_false]
 congr 1
 obtain ⟨heap, tape, drawn, os, output⟩ := w
 simp only [World.setCell, World.setRow]
 congr 1
 apply Array.ext_getElem?
 intro k
 rw [Array.getElem?_modify, Array.getElem?_modify]
 by_cases hk : g = k
 · subst hk
   simp only [if_true]
   have hg' : heap[g]? = some (.cells cur t fr) := hg
   rw [hg']
   rfl
 · simp only [if_neg hk]
theorem qg4 {P : Program} (g o : Nat) (t : TypeId) (fr : Nat × Nat) : ∀ (vs : List Value) (i : Nat) (cur : Array Value) (w : World), w.heap[g]? = some (.cells cur t fr) -> o + i + vs.length <= cur.size ->
   (∀ j, j < cur.size -> ¬ (fr.1 <= j /\ j < fr.2)) -> (∀ v ∈ vs, v.oneCell' = true) ->
   (storeCells ⟨g, o, none⟩ vs i).run P w = .ok () (w.setRow g (cur.toList.take (o + i) ++ vs ++ cur.toList.drop (o + i + vs.length)).toArray)
 | [], i, cur, w, hg, _, _, _ => by
   simp only [storeCells, List.append_nil, List.length_nil, Nat.add_zero, List.take_append_drop, Array.toArray_toList]
   rw [setRow_self w g cur t fr hg]
   rfl
 | v :: rest, i, cur, w, hg, hl, hf, h1 => by
   have hi : o + i < cur.size := by simp at hl; omega
   simp only [storeCells, Sem.run_bind, jj]
   rw [qwf hg hi (hf _ hi) (h1 v List.mem_cons_self), Result.andThen_ok]
   rw [qg4 g o t fr rest (i + 1) (cur.setIfInBounds (o + i) v) _ (setRow_heap w g cur _ t fr hg) (by simp at hl ⊢; omega)
     (fun j hj => hf j (by simpa using hj)) (fun u hu => h1 u (List.mem_cons_of_mem _ hu))]
   congr 1
   have e2 : ∀ (a b : Array Value), (w.setRow g a).setRow g b = w.setRow g b := by
     intro a b
     obtain ⟨heap, tape, drawn, os, output⟩ := w
     simp only [World.setRow]
     congr 1
     apply Array.ext_getElem?
     intro k
     rw [Array.getElem?_modify, Array.getElem?_modify, Array.getElem?_modify]
     by_cases hk : g = k
     · subst hk
       have hg' : heap[g]? = some (.cells cur t fr) := hg
       simp [hg']
     · simp only [if_neg hk]
   rw [e2]
   congr 1
   apply Array.ext'
   simp only [Array.toList_setIfInBounds, List.length_cons]
   apply List.ext_getElem?
   intro k
   have hlen : cur.toList.length = cur.size := by simp
   simp only [List.getElem?_append, List.length_append, List.length_take, List.length_set, List.getElem?_take, List.getElem?_drop, List.length_cons, hlen, List.getElem?_set]
   by_cases c1 : k < o + i
   · have : ¬ o + i = k := by omega
     simp [c1, this, show k < min (o + (i + 1)) cur.size by omega, show k < min (o + i) cur.size by omega, show k < o + (i + 1) by omega,
       show k < min (o + (i + 1)) cur.size + rest.length by omega, show k < min (o + i) cur.size + (rest.length + 1) by omega]
   · by_cases c2 : k = o + i
     · subst c2
       have e3 : min (o + i) cur.size = o + i := by omega
       have e4 : min (o + (i + 1)) cur.size = o + i + 1 := by omega
       simp [e3, e4, hi, show o + i < o + i + 1 + rest.length by omega, show o + i < o + (i + 1) by omega]
     · have e3 : min (o + i) cur.size = o + i := by omega
       have e4 : min (o + (i + 1)) cur.size = o + i + 1 := by omega
       by_cases c3 : k < o + i + 1 + rest.length
       · have e5 : k - (o + i) = (k - (o + i + 1)) + 1 := by omega
         simp [e3, e4, c3, show k < o + i + (rest.length + 1) by omega, show ¬ k < o + i + 1 by omega, show ¬ k < o + i by omega, e5]
       · have e6 : ¬ o + i = o + (i + 1) + rest.length + (k - (o + i + 1 + rest.length)) := by omega
         have e7 : o + (i + 1) + rest.length + (k - (o + i + 1 + rest.length)) = o + i + (rest.length + 1) + (k - (o + i + (rest.length + 1))) := by omega
         simp [e3, e4, c3, show ¬ k < o + i + (rest.length + 1) by omega, e7]
         intro h; omega
def Src {α : Type} (T : Ty α) (w : World) (A : Bl) (y : Option Addr) (m : Nat) (ys : List α) : Prop :=
 m = ys.length /\ (ys = [] \/ ∃ b off, y = some ⟨b, off, none⟩ /\ At T w A b off ys)
def Flat {α : Type} (T : Ty α) : Prop := ∀ w A w' A' vs x, T.rep w A vs x -> T.rep w' A' vs x
theorem RepL.flat {α : Type} {T : Ty α} (hf : Flat T) {w w' : World} {A A' : Bl} {l : List Value} {xs : List α} (h : RepL T w A l xs) : RepL T w' A' l xs := ⟨h.len, fun i hi => hf _ _ _ _ _ _ (h.rep i hi)⟩
theorem Sl.flat {α : Type} {T : Ty α} (hf : Flat T) {w : World} {A A' : Bl} {a : Option Addr} {n c : Nat} {xs : List α} (h : Sl T w A a n c xs) : Src T w A' a n xs := by
 obtain ⟨h1, h2, h3, h4⟩ := h
 refine ⟨h1, ?_⟩
 rcases h4 with h4 | ⟨b, off, e, hb, hab, l, h5, h6⟩
 · exact .inl h4
 · exact .inr ⟨b, off, e, l, h5.flat hf, h6⟩
theorem Src.new1F {α : Type} {T : Ty α} (hf : Flat T) {w : World} {A : Bl} {vs : List Value} {x : α} {t : TypeId} {b : Nat} {w' : World} (hb : b = w.heap.size) (hw : w' = w.alloc (.cells vs.toArray t)) (h : T.rep w A vs x) :
   Src T w' A (some ⟨b, 0, none⟩) 1 [x] := by
 subst hb hw
 refine ⟨rfl, .inr ⟨_, 0, rfl, vs, RepL.one (hf _ _ _ _ _ _ h), fun j hj => ?_⟩⟩
 rw [qlS (heap_alloc_new w _), Nat.zero_add]
 simp
theorem qsF {w : World} {b off : Nat} {l : List Value} (h : ∀ j, j < l.length -> w.cell? ⟨b, off + j, none⟩ = l[j]?) : ∀ j v, l[j]? = some v -> w.cell? ((⟨b, off, none⟩ : Addr).add j) = some v := fun j v hv => by
 rw [jj, h j (List.getElem?_eq_some_iff.1 hv).1]; exact hv
theorem qdb {α : Type} {T : Ty α} {P : Program} {st t ty : TypeId} {bytes : Nat} {z : Value} (hu : P.underlying st = some (.slice t)) (tf : TF P t T.k bytes z) (hb0 : 0 < bytes)
   {w : World} {A : Bl} {a : Option Addr} {n c : Nat} {xs : List α} (ho : Ow T t w A a n c xs) (hA : ∀ g, ownB a = some g -> ¬ A g)
   {y : Option Addr} {m cm : Nat} {ys : List α} (hs : Src T w A y m ys) (hbound : (xs.length + ys.length) * bytes <= 140737488355328) :
   ∃ (w' : World) (a' : Option Addr) (n' c' : Nat), (Builtin.append_ #[st, st] ty #[.slice a n c, .slice y m cm]).run P w = .ok (.slice a' n' c') w' /\ Ow T t w' A a' n' c' (xs ++ ys) /\ w.grownBy w' (ownB a) /\
     (∀ g, ownB a' = some g -> ownB a = some g \/ w.heap.size <= g) := by
 obtain ⟨i, hi, hsz, hby, hz⟩ := tf.info
 have hzc := tf.cells
 have hpos := T.pos
 obtain ⟨hn, hnc, hcm, ho4⟩ := ho
 obtain ⟨hm, hs2⟩ := hs
 subst hn hm
 have hsum : xs.length + ys.length <= 140737488355328 := Nat.le_trans (Nat.le_mul_of_pos_right _ hb0) hbound
 have hml : xs.length + ys.length <= maxLen := by unfold maxLen; omega
 have hkeepA : ∀ {w'}, w.grownBy w' (ownB a) -> Keep A w w' := fun hg => qbI hg fun b hb e => hA b e.symm hb
 rcases ho4 with ⟨rfl, rfl, rfl⟩ | ⟨g, cur, fr, rfl, hg, hf, hcs, hrep⟩
 · -- a nil slice
   rcases hs2 with rfl | ⟨b, off, rfl, l, hl, hcl⟩
   · refine ⟨w, none, 0, 0, ?_, Ow.nil T t w A, ⟨rfl, rfl, rfl, Nat.le_refl _, fun _ _ _ => rfl⟩, fun g h => by cases h⟩
     have hfc : (Builtin.firstCells i.size 0 (.slice y 0 cm)).run P w = .ok #[] w := by
       cases y with
       | none => rfl
       | some y => simp [Builtin.firstCells, loadCells, loadCellsFrom]
     simp [Builtin.append_, jE hu, qfO hi, Builtin.lenOf, hfc]
   · by_cases h0 : ys.length = 0
     · have : ys = [] := List.eq_nil_of_length_eq_zero h0
       subst this
       refine ⟨w, none, 0, 0, ?_, Ow.nil T t w A, ⟨rfl, rfl, rfl, Nat.le_refl _, fun _ _ _ => rfl⟩, fun g h => by cases h⟩
       simp [Builtin.append_, jE hu, qfO hi, Builtin.lenOf, Builtin.firstCells, loadCells, loadCellsFrom]
     · have hr := run_append_nil (P := P) w st ty t i z hu hi hz ⟨b, off, none⟩ ys.length cm l (by rw [hl.len, hsz]) (qsF hcl) (by omega) (by simp at hsum; omega) (by rw [hby]; simp at hbound; omega)
       refine ⟨_, _, _, _, hr, ?_, ⟨rfl, rfl, rfl, by simp, fun k hk _ => heap_alloc_old w.drew _ k hk⟩, fun g h => .inr (by simp [ownB] at h; omega)⟩
       have hge := grownCap_ge w ys.length 0 t
       have hcm' : grownCap w ys.length 0 t <= maxLen := grownCap_le_maxLen w ys.length 0 t (by simp at hml; exact hml)
       refine ⟨by simp, hge, hcm', .inr ⟨_, _, (0, 0), rfl, heap_alloc_new w.drew _, fun i _ => by simp, ?_, ?_⟩⟩
       · simp only [Array.size_append, List.size_toArray, size_zeroCells, hzc, hl.len, <- Nat.add_mul]
         congr 1; omega
       · rw [List.nil_append]
         simp only [Array.toList_append]
         rw [<- hl.len, List.take_left]
         exact hl.keep ⟨by simp, fun k hk _ => heap_alloc_old w.drew _ k hk⟩
 · have hlt : g < w.heap.size := (Array.getElem?_eq_some_iff.1 hg).1
   have hxl : (cur.toList.take (xs.length * T.k)).length = xs.length * T.k := hrep.len
   -- the appended cells
   obtain ⟨l, hl, hfirst⟩ : ∃ l, RepL T w A l ys /\ (Builtin.firstCells i.size ys.length (.slice y ys.length cm)).run P w = .ok l.toArray w := by
     rcases hs2 with rfl | ⟨b, off, rfl, l, hl, hcl⟩
     · refine ⟨[], RepL.nil T w A, ?_⟩
       cases y with
       | none => rfl
       | some y => simp [Builtin.firstCells, loadCells, loadCellsFrom]
     · exact ⟨l, hl, run_firstCells_some (P := P) w i.size ys.length ⟨b, off, none⟩ _ _ l (by rw [hl.len, hsz]) (qsF hcl)⟩
   have hlapp : ((cur.toList.take (xs.length * T.k)) ++ l).length = (xs.length + ys.length) * T.k := by rw [List.length_append, hxl, hl.len, Nat.add_mul]
   by_cases hroom : xs.length + ys.length <= c
   · have hfit : xs.length * T.k + l.length <= cur.size := by rw [hl.len, hcs, <- Nat.add_mul]; exact Nat.mul_le_mul_right _ hroom
     have hst := qg4 (P := P) g (xs.length * T.k) t fr l 0 cur w hg (by simpa using hfit) hf hl.ones
     simp only [Nat.add_zero] at hst
     refine ⟨w.setRow g (cur.toList.take (xs.length * T.k) ++ l ++ cur.toList.drop (xs.length * T.k + l.length)).toArray, some ⟨g, 0, none⟩, xs.length + ys.length, c, ?_, ?_, qe8 w g _, fun g' h => .inl h⟩
     · have hadd : (⟨g, 0, none⟩ : Addr).add (xs.length * i.size) = ⟨g, xs.length * T.k, none⟩ := by rw [jj, hsz, Nat.zero_add]
       simp only [Builtin.append_, Sem.run_bind, jE hu, qfO hi, Builtin.lenOf, Sem.run_pure, Result.andThen_ok, hroom, List.getElem?_toArray, List.getElem?_cons_zero, List.getElem?_cons_succ, if_true, Bool.false_eq_true, if_false, Bool.not_false, hfirst, hadd, hst]
     · refine ⟨by simp, hroom, hcm, .inr ⟨g, _, fr, rfl, setRow_heap w g cur _ t fr hg, ?_, ?_, ?_⟩⟩
       · intro j hj
         refine hf j ?_
         simp at hj; omega
       · simp; omega
       · have e : ((cur.toList.take (xs.length * T.k) ++ l ++ cur.toList.drop (xs.length * T.k + l.length)).toArray).toList.take ((xs.length + ys.length) * T.k) = cur.toList.take (xs.length * T.k) ++ l := by
           rw [<- hlapp]; simp only []; exact List.take_left
         rw [e]
         exact (hrep.append hl).keep (hkeepA (qe8 w g _))
   · have holds : ∀ j v, (cur.toList.take (xs.length * T.k))[j]? = some v -> w.cell? ((⟨g, 0, none⟩ : Addr).add j) = some v := fun j v hv => by
       rw [jj, Nat.zero_add, qlS hg]
       rw [List.getElem?_take] at hv
       split at hv
       · simpa using hv
       · cases hv
     have hne : ys ≠ [] := by
       intro e; subst e; simp at hroom; omega
     rcases hs2 with rfl | ⟨b, off, rfl, l', hl', hcl⟩
     · exact absurd rfl hne
     · have hr := run_append_grow (P := P) w st ty t i z hu hi hz ⟨g, 0, none⟩ xs.length c (cur.toList.take (xs.length * T.k)) (by rw [hxl, hsz]) holds ⟨b, off, none⟩ ys.length cm l' (by rw [hl'.len, hsz]) (qsF hcl)
         (by omega) (by omega) (growslice_fits (by omega) (by rw [hby]; exact hbound))
       refine ⟨_, _, _, _, hr, ?_, ⟨rfl, rfl, rfl, by simp, fun k hk _ => heap_alloc_old w.drew _ k hk⟩, fun g' h => .inr (by simp [ownB] at h; omega)⟩
       have hge := grownCap_ge w (xs.length + ys.length) c t
       have hcm' : grownCap w (xs.length + ys.length) c t <= maxLen := grownCap_le_maxLen w _ c t hml
       have hlapp' : ((cur.toList.take (xs.length * T.k)) ++ l').length = (xs.length + ys.length) * T.k := by rw [List.length_append, hxl, hl'.len, Nat.add_mul]
       refine ⟨by simp, hge, hcm', .inr ⟨_, _, (0, 0), rfl, heap_alloc_new w.drew _, fun i _ => by simp, ?_, ?_⟩⟩
       · simp only [Array.size_append, List.size_toArray, size_zeroCells, hzc, hxl, hl'.len, <- Nat.add_mul]
         congr 1; omega
       · simp only [Array.toList_append]
         rw [<- hlapp', List.take_left]
         exact (hrep.append hl').keep ⟨by simp, fun k hk _ => heap_alloc_old w.drew _ k hk⟩
theorem qjA {P : Program} {t u : TypeId} {ti : TypeInfo} (hi : P.info? t = some ti) {w : World} {g o : Nat} {cur : Array Value} {fr : Nat × Nat} (hg : w.heap[g]? = some (.cells cur u fr))
   (hf : ∀ i, i < cur.size -> ¬ (fr.1 <= i /\ i < fr.2)) {v : Value} (hs : v.cells.size = ti.size) (hfit : o + ti.size <= cur.size) (h1 : ∀ c ∈ v.cells.toList, c.oneCell' = true) :
   (Instr.storeAt t (.pointer (some ⟨g, o, none⟩)) v).run P w = .ok () (w.setRow g (cur.toList.take o ++ v.cells.toList ++ cur.toList.drop (o + v.cells.size)).toArray) := by
 show (do storeVar t (<- Instr.sureAddr (.pointer (some ⟨g, o, none⟩))) v).run P w = _
 rw [Sem.run_bind, qea, Result.andThen_ok]
 unfold storeVar
 rw [Sem.run_bind, qfO hi, Result.andThen_ok, if_neg (by simp [hs])]
 have := qg4 (P := P) g o u fr v.cells.toList 0 cur w hg (by simp; omega) hf h1
 simpa using this
theorem Ow.store {α : Type} {T : Ty α} {P : Program} {t : TypeId} {bytes : Nat} {z : Value} (tf : TF P t T.k bytes z) {w : World} {A : Bl} {a : Option Addr} {n c : Nat} {xs : List α} (ho : Ow T t w A a n c xs) (hA : ∀ g, ownB a = some g -> ¬ A g)
   {i : Int} (hi : i.toNat < xs.length) {k : Nat} (hk : T.k = k) {v : Value} {x : α} (hv : T.rep w A v.cells.toList x) :
   ∃ w', (Instr.storeAt t (.pointer (ql a i k)) v).run P w = .ok () w' /\ Ow T t w' A a n c (xs.set i.toNat x) /\ w.grownBy w' (ownB a) := by
 subst hk
 obtain ⟨ti, hti, hsz, _, _⟩ := tf.info
 have hvl := T.len hv
 have hA' := hA
 obtain ⟨hn, hnc, hcm, ho4⟩ := ho
 rcases ho4 with ⟨_, _, rfl⟩ | ⟨g, cur, fr, rfl, hg, hf, hcs, hrep⟩
 · cases hi
 · subst hn
   have hb : i.toNat * T.k + T.k <= xs.length * T.k := by
     have := Nat.mul_le_mul_right T.k (show i.toNat + 1 <= xs.length from hi)
     rwa [Nat.add_mul, Nat.one_mul] at this
   have hb2 : xs.length * T.k <= cur.size := by rw [hcs]; exact Nat.mul_le_mul_right _ hnc
   have hvs : v.cells.size = T.k := by simpa using hvl
   rw [qfR, Nat.zero_add]
   refine ⟨_, qjA hti hg hf (by rw [hvs, hsz]) (by rw [hsz]; omega) (T.one hv), ?_, qe8 w g _⟩
   refine ⟨by simp, hnc, hcm, .inr ⟨g, _, fr, rfl, setRow_heap w g cur _ t fr hg, ?_, ?_, ?_⟩⟩
   · intro j hj
     refine hf j ?_
     simp at hj; omega
   · simp; omega
   · have h1 := (hrep.set hi hv).keep (qbI (qe8 w g (cur.toList.take (i.toNat * T.k) ++ v.cells.toList ++ cur.toList.drop (i.toNat * T.k + v.cells.size)).toArray) fun b hb e => hA g rfl (by cases e; exact hb))
     have e : ((cur.toList.take (i.toNat * T.k) ++ v.cells.toList ++ cur.toList.drop (i.toNat * T.k + v.cells.size)).toArray).toList.take (xs.length * T.k) =
         (cur.toList.take (xs.length * T.k)).take (i.toNat * T.k) ++ v.cells.toList ++ (cur.toList.take (xs.length * T.k)).drop (i.toNat * T.k + v.cells.toList.length) := by
       simp only []
       have e1 : (cur.toList.take (xs.length * T.k)).take (i.toNat * T.k) = cur.toList.take (i.toNat * T.k) := by rw [List.take_take]; congr 1; omega
       rw [e1, List.take_append, List.drop_take]
       have e2 : (cur.toList.take (i.toNat * T.k) ++ v.cells.toList).length = i.toNat * T.k + T.k := by simp [hvs]; omega
       rw [e2, List.take_of_length_le (by rw [e2]; omega)]
       congr 2
       rw [hvl]
     rw [e]; exact h1
theorem qiF {w w' : World} (hos : w'.os = w.os) (ht : w'.tape = w.tape) (ho : w'.output = w.output) (hs : w.heap.size <= w'.heap.size) (hb : ∀ k, k < w.heap.size -> w'.heap[k]? = w.heap[k]?) : Below w.heap.size w w' := ⟨hos, ht, ho, hs, hb⟩
theorem qfM {α : Type} {e : α -> Value} {h1 : ∀ x, (e x).oneCell' = true} {p : α -> Prop} {w : World} {A : Bl} {xs : List α} (hp : ∀ x ∈ xs, p x) : RepL (Ty.enc e h1 p) w A (xs.map e) xs := by
 refine ⟨by simp [Ty.enc], fun i hi => ?_⟩
 have : ((xs.map e).drop (i * 1)).take 1 = [e xs[i]] := by
   rw [Nat.mul_one, <- List.map_drop, List.drop_eq_getElem_cons hi]; rfl
 exact ⟨this, hp _ (List.getElem_mem hi)⟩
theorem qh2 {α : Type} {e : α -> Value} {h1 : ∀ x, (e x).oneCell' = true} {p : α -> Prop} {w : World} {A : Bl} : ∀ {l : List Value} {xs : List α}, RepL (Ty.enc e h1 p) w A l xs -> l = xs.map e := by
 intro l xs h
 have hl : l.length = xs.length := by have := h.len; simpa [Ty.enc] using this
 apply List.ext_getElem (by simp [hl])
 intro i h1 h2
 have hi : i < xs.length := by omega
 have h3 : ((l.drop (i * 1)).take 1) = [e xs[i]] := (h.rep i hi).1
 have h4 : ((l.drop (i * 1)).take 1)[0]? = some (e xs[i]) := by rw [h3]; rfl
 rw [Nat.mul_one, List.getElem?_take, if_pos (by decide), List.getElem?_drop, Nat.add_zero, List.getElem?_eq_getElem h1] at h4
 rw [List.getElem_map]; exact Option.some.inj h4
theorem qol {P : Program} {s d t : TypeId} (hs : P.underlying s = some .string) (hd : P.underlying d = some (.slice t)) (ht : P.underlying t = some (.int .u8)) (w : World) (l : List UInt8) (hl : l.length <= 9223372036854775807) (A : Bl) :
   ∃ (w' : World) (a : Option Addr) (n c : Nat), (convert s d (.string (mkS l))).run P w = .ok (.slice a n c) w' /\ Ow tU8 t w' A a n c l /\ Below w.heap.size w w' /\ zq w.heap.size a := by
 have hcap : ∃ cap, l.length <= cap /\ cap <= maxLen /\ (choose (.appendCap l.length 0 t)).run P w = .ok cap w.drew := by
   refine ⟨_, grownCap_ge w l.length 0 t, grownCap_le_maxLen w l.length 0 t (by unfold maxLen; omega), ?_⟩
   rw [run_choose]; rfl
 obtain ⟨cap, h1, h2, hch⟩ := hcap
 have hsz : (mkS l).size = l.length := rfl
 generalize hcs : (mkS l).data.map (fun b => Value.int .u8 (b.toNat : Nat)) ++ Array.replicate (cap - l.length) (Value.int .u8 0) = cs
 have hcss : cs.size = cap := by rw [<- hcs]; simp [mkS]; omega
 have hmark : (markStringish ⟨w.heap.size, 0, none⟩).run P (w.drew.alloc (.cells cs t)) = .ok () ((w.drew.alloc (.cells cs t)).freeze ⟨w.heap.size, cs.size, none⟩ 1) := by
   unfold markStringish
   have : (w.drew.alloc (.cells cs t)).shape? w.heap.size = some (t, cs.size) := by
     unfold World.shape?
     have := heap_alloc_new w.drew (.cells cs t)
     rw [show w.drew.heap.size = w.heap.size from rfl] at this
     rw [this]
   simp [this]
 refine ⟨(w.drew.alloc (.cells cs t)).freeze ⟨w.heap.size, cs.size, none⟩ 1, some ⟨w.heap.size, 0, none⟩, l.length, cap, ?_, ?_, ?_, fun g hg => by simp [ownB] at hg; omega⟩
 · simp only [convert, Sem.run_bind, jE hs, jE hd, Result.andThen_ok, jE ht, Conv.stringToBytes, hsz, hch]
   show ((newRow t _).run P w.drew).andThen _ = _
   rw [hcs]
   simp only [newRow, Sem.run_bind, run_newObj, Result.andThen_ok, Sem.run_pure, World.alloc_eq]
   rw [show w.drew.heap.size = w.heap.size from rfl, hmark]
   rfl
 · have hheap : ((w.drew.alloc (.cells cs t)).freeze ⟨w.heap.size, cs.size, none⟩ 1).heap[w.heap.size]? = some (.cells cs t (cs.size, cs.size + 1)) := by
     have := heap_alloc_new w.drew (.cells cs t)
     rw [show w.drew.heap.size = w.heap.size from rfl] at this
     simp only [World.freeze, if_neg (show ¬ (1 : Nat) = 0 by decide), Array.getElem?_modify, if_true, this]
     rfl
   refine ⟨rfl, h1, h2, .inr ⟨_, _, _, rfl, hheap, fun i hi => by omega, by rw [hcss]; exact (Nat.mul_one cap).symm, ?_⟩⟩
   have e : cs.toList.take (l.length * tU8.k) = l.map fun c => Value.int .u8 (c.toNat : Nat) := by
     rw [<- hcs]
     simp [mkS, tU8, Ty.enc]
   rw [e]
   exact qfM fun _ _ => trivial
 · refine qiF rfl rfl rfl (by simp [World.freeze]) fun k hk => ?_
   simp only [World.freeze, if_neg (show ¬ (1 : Nat) = 0 by decide), Array.getElem?_modify]
   rw [if_neg (show ¬ w.heap.size = k by omega)]
   exact heap_alloc_old w.drew _ k hk
theorem qi9 {P : Program} {s d t : TypeId} (hs : P.underlying s = some (.slice t)) (hd : P.underlying d = some .string) (ht : P.underlying t = some (.int .u8)) {w : World} {A : Bl} {a : Option Addr} {n c : Nat} {xs : List UInt8} (h : Sl tU8 w A a n c xs) :
   (convert s d (.slice a n c)).run P w = .ok (.string (mkS xs)) w := by
 have conv : (convert s d (.slice a n c)).run P w = (Conv.bytesToString (.slice a n c)).run P w := by
   cases a <;> simp [convert, jE hs, jE hd, jE ht]
 rw [conv]
 obtain ⟨hn, _, _, h4⟩ := h
 have loop : ∀ (msg : String) (l : List UInt8) (acc : List UInt8), (do
     let r <- forIn (l.map fun c => Value.int .u8 (c.toNat : Nat)) (mkS acc) fun c r => do
       let .int .u8 n := c | stuck msg
       pure (ForInStep.yield (r.push (UInt8.ofNat n.toNat)))
     pure (Value.string r) : Sem Value).run P w = .ok (.string (mkS (acc ++ l))) w := by
   intro msg l
   induction l with
   | nil => intro acc; simp
   | cons x l ih =>
     intro acc
     have e1 : (mkS acc).push x = mkS (acc ++ [x]) := by simp [mkS, ByteArray.push]
     have := ih (acc ++ [x])
     simp only [List.map_cons, List.forIn_cons, bind_assoc, pure_bind, Int.toNat_natCast, UInt8.ofNat_toNat, e1]
     rw [this]; simp
 cases a with
 | none =>
   have : xs = [] := by
     rcases h4 with h4 | ⟨b, off, e, _⟩
     · exact h4
     · cases e
   subst this
   simp [Conv.bytesToString]; rfl
 | some p =>
   have hcells : (loadCells p n).run P w = .ok (xs.map fun c => Value.int .u8 (c.toNat : Nat)).toArray w := by
     rcases h4 with h4 | ⟨b, off, e, hb, hab, l, h5, h6⟩
     · subst h4; subst hn; simp [loadCells, loadCellsFrom]
     · cases e
       have := qwY (P := P) h6
       rw [h5.len] at this
       rw [qh2 h5] at this
       rw [hn]
       simpa [tU8, Ty.enc] using this
   have key : ∃ msg : String, (Conv.bytesToString (.slice (some p) n c)).run P w = ((loadCells p n).run P w).andThen fun cs w' => (do
     let r <- forIn cs (mkS []) fun c r => do
       let .int .u8 n := c | stuck msg
       pure (ForInStep.yield (r.push (UInt8.ofNat n.toNat)))
     pure (Value.string r) : Sem Value).run P w' := by
     constructor
     unfold Conv.bytesToString
     simp only [Sem.run_bind]
     rfl
   obtain ⟨msg, key⟩ := key
   rw [key, hcells, Result.andThen_ok]
   have := loop msg xs []
   rw [List.nil_append] at this
   rw [<- this]
   simp only [List.forIn_toArray]
theorem wrap_i64 {n : Int} (h1 : -9223372036854775808 <= n) (h2 : n <= 9223372036854775807) : i64.wrap n = n := IntWalk.i64_in n ⟨h1, h2⟩
theorem qeZ {n : Int} (h1 : 0 <= n) (h2 : n <= 255) : IntKind.u8.wrap n = n := IntWalk.u8_in n ⟨h1, h2⟩
theorem qgK (c : UInt8) : (0 : Int) <= (c.toNat : Nat) /\ ((c.toNat : Nat) : Int) <= 255 := by
 have := c.toNat_lt; omega
theorem qie {s : List UInt8} {i : Int} (h : i.toNat < s.length) : qH s i = ((s[i.toNat]).toNat : Nat) := by
 simp [qH, h]
theorem qn0 {a b : UInt8} (h : ((a.toNat : Nat) : Int) = ((b.toNat : Nat) : Int)) : a = b := UInt8.toNat_inj.1 (by omega)
theorem qiV {w : World} {A : Bl} {n : Int} {c : UInt8} (h : n = ((c.toNat : Nat) : Int)) : tU8.rep w A [.int .u8 n] c := ⟨by rw [h], trivial⟩
theorem qgz {w : World} {A : Bl} {p : List UInt8 -> Prop} {s : List UInt8} (h : p s) : (tStr p).rep w A [.string (mkS s)] s := ⟨rfl, h⟩
theorem qvh {w : World} {A : Bl} {v : Value} {c : UInt8} (h : tU8.rep w A [v] c) : v = .int .u8 (c.toNat : Nat) := by have := h.1; simpa using this
theorem qeY {w : World} {A : Bl} {p : List UInt8 -> Prop} {v : Value} {s : List UInt8} (h : (tStr p).rep w A [v] s) : v = .string (mkS s) /\ p s := ⟨by have := h.1; simpa using this, h.2⟩
theorem zq.app {B : Nat} {w : World} {a a' : Option Addr} (hf : zq B a) (hB : B <= w.heap.size) (h : ∀ g, ownB a' = some g -> ownB a = some g \/ w.heap.size <= g) : zq B a' := fun g hg => by
 rcases h g hg with h | h
 · exact hf g h
 · exact Nat.le_trans hB h
theorem qkc : Flat tU8 := fun _ _ _ _ _ _ h => h
theorem qaS (p : List UInt8 -> Prop) : Flat (tStr p) := fun _ _ _ _ _ _ h => h
theorem Ow.newF {α : Type} {T : Ty α} (hf : Flat T) {w w' : World} {A : Bl} {t : TypeId} {l : List Value} {xs : List α} {b : Nat} (hb : b = w.heap.size) (hw : w' = w.alloc (.cells l.toArray t)) (h : RepL T w A l xs) (hm : xs.length <= maxLen) :
   Ow T t w' A (some ⟨b, 0, none⟩) xs.length xs.length xs := by
 subst hb hw
 refine ⟨rfl, Nat.le_refl _, hm, .inr ⟨_, l.toArray, (0, 0), rfl, heap_alloc_new w _, ?_, by simpa using h.len, ?_⟩⟩
 · intro i hi; simp
 · rw [<- h.len]; simp; exact h.flat hf
theorem fresh_new {w : World} {b : Nat} (hb : b = w.heap.size) : zq w.heap.size (some ⟨b, 0, none⟩) := fun g hg => by simp [ownB] at hg; omega
end Go.Pk
namespace Go.Pk
theorem qe9 {H : Type} {enc : TypeId × Value -> H} {C : Checked} {os : Os} {f : FuncId} {fn : Func} {s : OpenSpec} {conds : List PathCond} {apart : Bool} {laid : List (String × DataW Unit)} (modest : Bool) (w0 : World) (args : Array Value) (hos : w0.os = os)
   (hsh : (w0.forCall (fun _ _ => 0) ⟨#[], args, []⟩).Shaped C.prog)
   (hok : Input.okWideB C.prog (w0.forCall (fun _ _ => 0) ⟨#[], args, []⟩) f ⟨#[], args, []⟩ = true)
   (hrow : s.preRow enc C.prog fn conds apart laid (w0.forCall (fun _ _ => 0) ⟨#[], args, []⟩).memory args) :
   ∃ (w : World) (tape : Tape) (i : Input), w.os = os /\ (w.forCall tape i).Shaped C.prog /\ i.vars = [] /\ Input.okWide C.prog (w.forCall tape i) .any w.heap.size f i /\
     s.preRow enc C.prog fn conds apart laid (w.forCall tape i).memory i.args /\ ({ modest := modest } : Assume).holds C.prog (lone (Frame.enter C.prog f i.args .normal) [] (w.forCall tape i)) :=
 ⟨w0, fun _ _ => 0, ⟨#[], args, []⟩, hos, hsh, (Input.okWide_of_okWideB (base := 0) hok).1, (Input.okWide_of_okWideB hok).2, hrow, by
   simp only [Assume.holds]
   exact ⟨by simp, by simp, fun _ => Modest.zero, by simp, by simp⟩⟩
end Go.Pk
namespace Go.Proofs.YtlfolncaghkmcaaGreatDoor
open Go.Pk
abbrev qiD : Nat := 9
abbrev qe3 : Nat := 10
abbrev qdQ : Nat := 11
abbrev qS : Nat := 12
abbrev qee : Nat := 13
abbrev z7 : Nat := 14
abbrev jJ : Nat := 17
abbrev j7 : Nat := 21
abbrev qh5 : Nat := 26
abbrev qpt : Nat := 27
abbrev qpu : Nat := 28
abbrev qiE : Nat := 29
abbrev qmc : Nat := 30
abbrev qjb : Nat := 31
abbrev qkP : Nat := 32
abbrev qiC : Nat := 33
abbrev qla : Nat := 34
abbrev qi2 : Nat := 35
abbrev qfN : Nat := 36
abbrev ql3 : Nat := 37
abbrev ql8 : Nat := 38
abbrev qhF : Nat := 40
abbrev qaM : Nat := 41
abbrev j9 : Nat := 42
abbrev ql5 : Nat := 43
abbrev qdu : Nat := 44
abbrev qh0 : Nat := 45
abbrev ql4 : Nat := 46
abbrev qi3 : Nat := 47
abbrev qq1 : Nat := 48
abbrev qct : Nat := 49
abbrev qih : Nat := 52
abbrev qgj : Nat := 53
abbrev qkR : Nat := 54
abbrev ql9 : Nat := 55
abbrev qjm : Nat := 56
abbrev qaR : Nat := 57
abbrev qma : Nat := 58
abbrev qe1 : Nat := 59
abbrev qhd : Nat := 60
abbrev qq4 : Nat := 61
abbrev qjx : Nat := 62
abbrev qjI : Nat := 63
abbrev qiB : Nat := 64
abbrev qd8 : Nat := 65
abbrev qlZ : Nat := 66
abbrev qk8 : Nat := 67
abbrev qk7 : Nat := 68
abbrev qj9 : Nat := 69
abbrev qj4 : Nat := 70
abbrev qav : Nat := 71
abbrev zX : Nat := 72
abbrev qgR : Nat := 73
abbrev qig : Nat := 74
abbrev qh7 : Nat := 75
abbrev qj7 : Nat := 76
abbrev qii : Nat := 77
abbrev qdM : Nat := 78
abbrev qh6 : Nat := 79
abbrev qhL : Nat := 80
abbrev qi1 : Nat := 81
abbrev qff : Nat := 82
abbrev zN : Nat := 83
abbrev qf8 : Nat := 84
abbrev qan : Nat := 85
abbrev qjd : Nat := 86
abbrev qe2 : Nat := 87
abbrev qcz : Nat := 91
abbrev qhK : Nat := 92
abbrev zx : Nat := 93
abbrev qhe : Nat := 94
abbrev qlr : Nat := 95
abbrev qlc : Nat := 103
abbrev qa6 : Nat := 109
abbrev qpv : Nat := 110
abbrev qsT : Nat := 111
abbrev qhU : Nat := 112
abbrev qhV : Nat := 113
abbrev qsS : Nat := 114
abbrev qcg : Nat := 115
abbrev qcx : Nat := 116
abbrev qnl : Nat := 117
abbrev qsU : Nat := 118
abbrev qp6 : Nat := 119
abbrev ql0 : Nat := 120
abbrev qnk : Nat := 121
abbrev qoC : Nat := 122
abbrev qhT : Nat := 123
abbrev qkQ : Nat := 124
abbrev qk9 : Nat := 125
abbrev qcm : Nat := 126
abbrev qk6 : Nat := 127
abbrev qmb : Nat := 128
abbrev qjn : Nat := 129
abbrev qka : Nat := 130
abbrev qh4 : Nat := 131
abbrev qe4 : Nat := 132
abbrev qnc : Nat := 133
abbrev qnd : Nat := 134
abbrev qc3 : Nat := 135
abbrev qau : Nat := 136
abbrev ju : Nat := 137
abbrev qq3 : Nat := 138
abbrev jM : Nat := 139
abbrev qbs : Nat := 140
abbrev qq2 : Nat := 141
abbrev ql7 : Nat := 142
abbrev jF : Nat := 155
abbrev qpw : Nat := 176
abbrev qoq : Nat := 182
abbrev qpr : Nat := 183
abbrev qjc : Nat := 184
abbrev qfJ : Nat := 185
abbrev qfT : Nat := 186
abbrev qdt : Nat := 187
abbrev ql2 : Nat := 188
abbrev qnj : Nat := 191
abbrev qiz : Nat := 192
abbrev qj5 : Nat := 193
abbrev qkS : Nat := 194
abbrev qjy : Nat := 196
abbrev qlb : Nat := 199
abbrev qlY : Nat := 200
abbrev qnf : Nat := 201
abbrev qhS : Nat := 202
abbrev qjL : Nat := 203
abbrev qne : Nat := 230
abbrev qg1 : Nat := 231
abbrev qnh : Nat := 236
abbrev qiA : Nat := 237
abbrev qni : Nat := 238
abbrev ql1 : Nat := 239
abbrev zp : Nat := 240
abbrev qj6 : Nat := 241
abbrev qem : Nat := 242
abbrev qhc : Nat := 243
abbrev qhM : Nat := 245
abbrev ql6 : Nat := 246
abbrev quc : Nat := 270
abbrev qps : Nat := 271
abbrev qng : Nat := 272
abbrev qe0 : Nat := 273
abbrev qjJ : Nat := 274
abbrev qgO : Nat := 275
abbrev qrV : Nat := 285
abbrev qlq : Nat := 286
abbrev qjK : Nat := 287
abbrev qi0 : Nat := 288
abbrev qdP : Nat := 289
abbrev qfS : Nat := 302
abbrev qfe : Nat := 303
abbrev qhf : Nat := 311
abbrev qjk : Nat := 0
abbrev qA : Nat := 2
abbrev qt : Nat := 3
abbrev qN : Nat := 4
abbrev qU : Nat := 5
abbrev qh : Nat := 9
abbrev qfb : Nat := 22
abbrev qjv : Nat := 24
abbrev qr : Nat := 30
abbrev qf : Nat := 32
abbrev qw : Nat := 34
abbrev zn : Nat := 40
abbrev qg7 : Nat := 42
abbrev za : Nat := 43
abbrev qD : Nat := 52
abbrev qu : Nat := 58
abbrev qe : Nat := 63
abbrev jw : Nat := 73
abbrev jR : Nat := 74
abbrev zj : Nat := 76
abbrev qp : Nat := 78
abbrev qi : Nat := 85
abbrev qV : Nat := 104
abbrev qz : Nat := 109
abbrev zu : Nat := 110
abbrev qY : Nat := 112
abbrev qbu : Nat := 123
abbrev zF : Nat := 125
abbrev qL : Nat := 140
abbrev j6 : Nat := 143
abbrev qyU : Nat := 185
abbrev qb9 : Nat := 194
abbrev qei : Nat := 235
abbrev qge : Nat := 238
abbrev zl : Nat := 239
abbrev zV : Nat := 244
abbrev qc5 : Nat := 246
abbrev qvn : Nat := 249
abbrev qlO : Nat := 293
abbrev qvm : Nat := 307
abbrev qjG : Nat := 323
theorem un_int64 : prog.underlying qA = some (.int .i64) := by kernel_rfl
theorem j8 : TF prog qA 1 8 (.int .i64 (0 : Int)) := TF.of (by kernel_rfl) (by kernel_rfl) false (by kernel_rfl) (.inr rfl)
theorem qK : prog.underlying qt = some (.int .i64) := by kernel_rfl
theorem qab : TF prog qt 1 8 (.int .i64 (0 : Int)) := TF.of (by kernel_rfl) (by kernel_rfl) false (by kernel_rfl) (.inr rfl)
theorem un_bool : prog.underlying qN = some (.bool) := by kernel_rfl
theorem qcr : TF prog qN 1 1 (.bool false) := TF.of (by kernel_rfl) (by kernel_rfl) false (by kernel_rfl) (.inr rfl)
theorem un_uint8 : prog.underlying qU = some (.int .u8) := by kernel_rfl
theorem qkY : TF prog qU 1 1 (.int .u8 (0 : Int)) := TF.of (by kernel_rfl) (by kernel_rfl) false (by kernel_rfl) (.inr rfl)
theorem un_string : prog.underlying qh = some (.string) := by kernel_rfl
theorem ze : TF prog qh 1 16 (.string (mkS [])) := TF.of (by kernel_rfl) (by kernel_rfl) false (by kernel_rfl) (.inr rfl)
theorem qkZ : prog.underlying qfb = some (.pointer qg7) := by kernel_rfl
theorem qlH : prog.underlying qjv = some (.pointer zj) := by kernel_rfl
abbrev jx : Array Value := #[.int .u8 (0 : Int), .int .u8 (0 : Int), .int .u8 (0 : Int), .int .u8 (0 : Int), .int .u8 (0 : Int), .int .u8 (0 : Int), .int .u8 (0 : Int), .int .u8 (0 : Int), .int .u8 (0 : Int), .int .u8 (0 : Int), .int .u8 (0 : Int), .int .u8 (0 : Int), .int .u8 (0 : Int), .int .u8 (0 : Int), .int .u8 (0 : Int), .int .u8 (0 : Int)]
theorem qx6 : TF prog qr 16 16 (.agg #[.int .u8 (0 : Int), .int .u8 (0 : Int), .int .u8 (0 : Int), .int .u8 (0 : Int), .int .u8 (0 : Int), .int .u8 (0 : Int), .int .u8 (0 : Int), .int .u8 (0 : Int), .int .u8 (0 : Int), .int .u8 (0 : Int), .int .u8 (0 : Int), .int .u8 (0 : Int), .int .u8 (0 : Int), .int .u8 (0 : Int), .int .u8 (0 : Int), .int .u8 (0 : Int)]) := TF.of (by kernel_rfl) (by kernel_rfl) true (by kernel_rfl) (.inl rfl)
abbrev qZ : Array Value := #[.int .i64 (0 : Int), .string (mkS []), .int .u8 (0 : Int), .int .u8 (0 : Int), .int .u8 (0 : Int), .int .u8 (0 : Int), .int .u8 (0 : Int), .int .u8 (0 : Int), .int .u8 (0 : Int), .int .u8 (0 : Int), .int .u8 (0 : Int), .int .u8 (0 : Int), .int .u8 (0 : Int), .int .u8 (0 : Int), .int .u8 (0 : Int), .int .u8 (0 : Int), .int .u8 (0 : Int), .int .u8 (0 : Int)]
theorem qx7 : TF prog qf 18 40 (.agg #[.int .i64 (0 : Int), .string (mkS []), .int .u8 (0 : Int), .int .u8 (0 : Int), .int .u8 (0 : Int), .int .u8 (0 : Int), .int .u8 (0 : Int), .int .u8 (0 : Int), .int .u8 (0 : Int), .int .u8 (0 : Int), .int .u8 (0 : Int), .int .u8 (0 : Int), .int .u8 (0 : Int), .int .u8 (0 : Int), .int .u8 (0 : Int), .int .u8 (0 : Int), .int .u8 (0 : Int), .int .u8 (0 : Int)]) := TF.of (by kernel_rfl) (by kernel_rfl) true (by kernel_rfl) (.inl rfl)
abbrev qgM : Array Value := #[.bool false, .int .i64 (0 : Int), .string (mkS []), .int .u8 (0 : Int), .int .u8 (0 : Int), .int .u8 (0 : Int), .int .u8 (0 : Int), .int .u8 (0 : Int), .int .u8 (0 : Int), .int .u8 (0 : Int), .int .u8 (0 : Int), .int .u8 (0 : Int), .int .u8 (0 : Int), .int .u8 (0 : Int), .int .u8 (0 : Int), .int .u8 (0 : Int), .int .u8 (0 : Int), .int .u8 (0 : Int), .int .u8 (0 : Int), .int .i64 (0 : Int), .string (mkS [])]
theorem qzx : TF prog qw 21 72 (.agg #[.bool false, .int .i64 (0 : Int), .string (mkS []), .int .u8 (0 : Int), .int .u8 (0 : Int), .int .u8 (0 : Int), .int .u8 (0 : Int), .int .u8 (0 : Int), .int .u8 (0 : Int), .int .u8 (0 : Int), .int .u8 (0 : Int), .int .u8 (0 : Int), .int .u8 (0 : Int), .int .u8 (0 : Int), .int .u8 (0 : Int), .int .u8 (0 : Int), .int .u8 (0 : Int), .int .u8 (0 : Int), .int .u8 (0 : Int), .int .i64 (0 : Int), .string (mkS [])]) := TF.of (by kernel_rfl) (by kernel_rfl) true (by kernel_rfl) (.inl rfl)
theorem jL : prog.underlying zn = some (.pointer qY) := by kernel_rfl
theorem qac : prog.underlying za = some (.slice qU) := by kernel_rfl
theorem quQ : TF prog qD 21 72 (.agg #[.bool false, .int .i64 (0 : Int), .string (mkS []), .int .u8 (0 : Int), .int .u8 (0 : Int), .int .u8 (0 : Int), .int .u8 (0 : Int), .int .u8 (0 : Int), .int .u8 (0 : Int), .int .u8 (0 : Int), .int .u8 (0 : Int), .int .u8 (0 : Int), .int .u8 (0 : Int), .int .u8 (0 : Int), .int .u8 (0 : Int), .int .u8 (0 : Int), .int .u8 (0 : Int), .int .u8 (0 : Int), .int .u8 (0 : Int), .string (mkS []), .int .i64 (0 : Int)]) := TF.of (by kernel_rfl) (by kernel_rfl) true (by kernel_rfl) (.inl rfl)
theorem qgP : prog.underlying qu = some (.slice qe) := by kernel_rfl
theorem qsk : TF prog qu 1 24 (.slice none 0 0) := TF.of (by kernel_rfl) (by kernel_rfl) false (by kernel_rfl) (.inr rfl)
abbrev qG : Array Value := #[.string (mkS []), .string (mkS []), .int .i64 (0 : Int), .string (mkS []), .int .u8 (0 : Int), .int .u8 (0 : Int), .int .u8 (0 : Int), .int .u8 (0 : Int), .int .u8 (0 : Int), .int .u8 (0 : Int), .int .u8 (0 : Int), .int .u8 (0 : Int), .int .u8 (0 : Int), .int .u8 (0 : Int), .int .u8 (0 : Int), .int .u8 (0 : Int), .int .u8 (0 : Int), .int .u8 (0 : Int), .int .u8 (0 : Int), .int .u8 (0 : Int), .bool false, .string (mkS []), .bool false, .bool false, .int .i64 (0 : Int), .int .i64 (0 : Int), .int .i64 (0 : Int), .int .i64 (0 : Int), .int .i64 (0 : Int)]
theorem qjU : TF prog qe 29 144 (.agg #[.string (mkS []), .string (mkS []), .int .i64 (0 : Int), .string (mkS []), .int .u8 (0 : Int), .int .u8 (0 : Int), .int .u8 (0 : Int), .int .u8 (0 : Int), .int .u8 (0 : Int), .int .u8 (0 : Int), .int .u8 (0 : Int), .int .u8 (0 : Int), .int .u8 (0 : Int), .int .u8 (0 : Int), .int .u8 (0 : Int), .int .u8 (0 : Int), .int .u8 (0 : Int), .int .u8 (0 : Int), .int .u8 (0 : Int), .int .u8 (0 : Int), .bool false, .string (mkS []), .bool false, .bool false, .int .i64 (0 : Int), .int .i64 (0 : Int), .int .i64 (0 : Int), .int .i64 (0 : Int), .int .i64 (0 : Int)]) := TF.of (by kernel_rfl) (by kernel_rfl) true (by kernel_rfl) (.inl rfl)
theorem z8 : prog.underlying jw = some (.map qbu qt) := by kernel_rfl
theorem qeQ : prog.underlying jR = some (.slice zF) := by kernel_rfl
theorem qtR : TF prog jR 1 24 (.slice none 0 0) := TF.of (by kernel_rfl) (by kernel_rfl) false (by kernel_rfl) (.inr rfl)
theorem qtP : TF prog qp 2 24 (.agg #[.int .i64 (0 : Int), .string (mkS [])]) := TF.of (by kernel_rfl) (by kernel_rfl) true (by kernel_rfl) (.inl rfl)
theorem qqz : TF prog qi 11 112 (.agg #[.string (mkS []), .string (mkS []), .string (mkS []), .string (mkS []), .bool false, .int .i64 (0 : Int), .bool false, .int .i64 (0 : Int), .bool false, .bool false, .int .i64 (0 : Int)]) := TF.of (by kernel_rfl) (by kernel_rfl) true (by kernel_rfl) (.inl rfl)
theorem qc6 : prog.underlying qV = some (.slice qh) := by kernel_rfl
theorem qrG : TF prog qV 1 24 (.slice none 0 0) := TF.of (by kernel_rfl) (by kernel_rfl) false (by kernel_rfl) (.inr rfl)
theorem zw : prog.underlying qz = some (.map j6 qL) := by kernel_rfl
theorem qf3 : prog.underlying zu = some (.map qh qt) := by kernel_rfl
theorem quT : TF prog qbu 2 24 (.agg #[.int .i64 (0 : Int), .string (mkS [])]) := TF.of (by kernel_rfl) (by kernel_rfl) true (by kernel_rfl) (.inl rfl)
theorem qxd : TF prog zF 4 4 (.agg #[.bool false, .bool false, .bool false, .bool false]) := TF.of (by kernel_rfl) (by kernel_rfl) true (by kernel_rfl) (.inl rfl)
abbrev qf7 : Array Value := #[.string (mkS []), .string (mkS []), .int .i64 (0 : Int), .string (mkS []), .int .u8 (0 : Int), .int .u8 (0 : Int), .int .u8 (0 : Int), .int .u8 (0 : Int), .int .u8 (0 : Int), .int .u8 (0 : Int), .int .u8 (0 : Int), .int .u8 (0 : Int), .int .u8 (0 : Int), .int .u8 (0 : Int), .int .u8 (0 : Int), .int .u8 (0 : Int), .int .u8 (0 : Int), .int .u8 (0 : Int), .int .u8 (0 : Int), .int .u8 (0 : Int), .bool false, .string (mkS []), .bool false, .bool false, .int .i64 (0 : Int), .int .i64 (0 : Int), .int .i64 (0 : Int), .int .i64 (0 : Int), .int .i64 (0 : Int), .string (mkS [])]
theorem qqA : TF prog qL 30 160 (.agg #[.string (mkS []), .string (mkS []), .int .i64 (0 : Int), .string (mkS []), .int .u8 (0 : Int), .int .u8 (0 : Int), .int .u8 (0 : Int), .int .u8 (0 : Int), .int .u8 (0 : Int), .int .u8 (0 : Int), .int .u8 (0 : Int), .int .u8 (0 : Int), .int .u8 (0 : Int), .int .u8 (0 : Int), .int .u8 (0 : Int), .int .u8 (0 : Int), .int .u8 (0 : Int), .int .u8 (0 : Int), .int .u8 (0 : Int), .int .u8 (0 : Int), .bool false, .string (mkS []), .bool false, .bool false, .int .i64 (0 : Int), .int .i64 (0 : Int), .int .i64 (0 : Int), .int .i64 (0 : Int), .int .i64 (0 : Int), .string (mkS [])]) := TF.of (by kernel_rfl) (by kernel_rfl) true (by kernel_rfl) (.inl rfl)
abbrev qvq : Array Value := #[.string (mkS []), .int .i64 (0 : Int), .string (mkS []), .int .u8 (0 : Int), .int .u8 (0 : Int), .int .u8 (0 : Int), .int .u8 (0 : Int), .int .u8 (0 : Int), .int .u8 (0 : Int), .int .u8 (0 : Int), .int .u8 (0 : Int), .int .u8 (0 : Int), .int .u8 (0 : Int), .int .u8 (0 : Int), .int .u8 (0 : Int), .int .u8 (0 : Int), .int .u8 (0 : Int), .int .u8 (0 : Int), .int .u8 (0 : Int), .bool false, .string (mkS [])]
theorem quS : TF prog j6 21 80 (.agg #[.string (mkS []), .int .i64 (0 : Int), .string (mkS []), .int .u8 (0 : Int), .int .u8 (0 : Int), .int .u8 (0 : Int), .int .u8 (0 : Int), .int .u8 (0 : Int), .int .u8 (0 : Int), .int .u8 (0 : Int), .int .u8 (0 : Int), .int .u8 (0 : Int), .int .u8 (0 : Int), .int .u8 (0 : Int), .int .u8 (0 : Int), .int .u8 (0 : Int), .int .u8 (0 : Int), .int .u8 (0 : Int), .int .u8 (0 : Int), .bool false, .string (mkS [])]) := TF.of (by kernel_rfl) (by kernel_rfl) true (by kernel_rfl) (.inl rfl)
theorem quU : prog.underlying qb9 = some (.array 4 qh) := by kernel_rfl
theorem qoU : TF prog qb9 4 64 (.agg #[.string (mkS []), .string (mkS []), .string (mkS []), .string (mkS [])]) := TF.of (by kernel_rfl) (by kernel_rfl) true (by kernel_rfl) (.inl rfl)
theorem qn1 : prog.underlying qei = some (.slice qge) := by kernel_rfl
theorem qtU : prog.underlying qge = some (.int .u16) := by kernel_rfl
theorem qxe : TF prog qge 1 2 (.int .u16 (0 : Int)) := TF.of (by kernel_rfl) (by kernel_rfl) false (by kernel_rfl) (.inr rfl)
theorem quR : TF prog zl 8 16 (.agg #[.int .u16 (0 : Int), .int .u16 (0 : Int), .int .u16 (0 : Int), .int .u16 (0 : Int), .int .u16 (0 : Int), .int .u16 (0 : Int), .int .u16 (0 : Int), .int .u16 (0 : Int)]) := TF.of (by kernel_rfl) (by kernel_rfl) true (by kernel_rfl) (.inl rfl)
theorem qpT : prog.underlying zV = some (.array 3 qt) := by kernel_rfl
theorem qky : TF prog zV 3 24 (.agg #[.int .i64 (0 : Int), .int .i64 (0 : Int), .int .i64 (0 : Int)]) := TF.of (by kernel_rfl) (by kernel_rfl) true (by kernel_rfl) (.inl rfl)
abbrev qxm : Array Value := #[.int .i64 (0 : Int), .int .i64 (0 : Int), .int .i64 (0 : Int), .int .i64 (0 : Int), .int .i64 (0 : Int), .int .i64 (0 : Int), .int .i64 (0 : Int), .int .i64 (0 : Int), .int .i64 (0 : Int), .int .i64 (0 : Int), .int .i64 (0 : Int), .int .i64 (0 : Int)]
theorem qxc : TF prog qlO 12 96 (.agg #[.int .i64 (0 : Int), .int .i64 (0 : Int), .int .i64 (0 : Int), .int .i64 (0 : Int), .int .i64 (0 : Int), .int .i64 (0 : Int), .int .i64 (0 : Int), .int .i64 (0 : Int), .int .i64 (0 : Int), .int .i64 (0 : Int), .int .i64 (0 : Int), .int .i64 (0 : Int)]) := TF.of (by kernel_rfl) (by kernel_rfl) true (by kernel_rfl) (.inl rfl)
abbrev qvo : Array Value := #[.int .u8 (0 : Int), .int .u8 (0 : Int), .int .u8 (0 : Int), .int .u8 (0 : Int), .int .u8 (0 : Int), .int .u8 (0 : Int), .int .u8 (0 : Int), .int .u8 (0 : Int), .int .u8 (0 : Int), .int .u8 (0 : Int), .int .u8 (0 : Int), .int .u8 (0 : Int), .int .u8 (0 : Int), .int .u8 (0 : Int), .int .u8 (0 : Int), .int .u8 (0 : Int), .int .u8 (0 : Int), .int .u8 (0 : Int), .int .u8 (0 : Int), .int .u8 (0 : Int), .int .u8 (0 : Int), .int .u8 (0 : Int), .int .u8 (0 : Int), .int .u8 (0 : Int)]
abbrev qvp : Array Value := #[.int .u8 (0 : Int), .int .u8 (0 : Int), .int .u8 (0 : Int), .int .u8 (0 : Int), .int .u8 (0 : Int), .int .u8 (0 : Int), .int .u8 (0 : Int), .int .u8 (0 : Int), .int .u8 (0 : Int), .int .u8 (0 : Int), .int .u8 (0 : Int), .int .u8 (0 : Int), .int .u8 (0 : Int), .int .u8 (0 : Int), .int .u8 (0 : Int), .int .u8 (0 : Int), .int .u8 (0 : Int), .int .u8 (0 : Int), .int .u8 (0 : Int), .int .u8 (0 : Int), .int .u8 (0 : Int), .int .u8 (0 : Int), .int .u8 (0 : Int), .int .u8 (0 : Int), .int .u8 (0 : Int), .int .u8 (0 : Int), .int .u8 (0 : Int), .int .u8 (0 : Int), .int .u8 (0 : Int), .int .u8 (0 : Int), .int .u8 (0 : Int), .int .u8 (0 : Int), .int .u8 (0 : Int), .int .u8 (0 : Int), .int .u8 (0 : Int), .int .u8 (0 : Int), .int .u8 (0 : Int), .int .u8 (0 : Int), .int .u8 (0 : Int), .int .u8 (0 : Int), .int .u8 (0 : Int), .int .u8 (0 : Int), .int .u8 (0 : Int), .int .u8 (0 : Int), .int .u8 (0 : Int), .int .u8 (0 : Int), .int .u8 (0 : Int), .int .u8 (0 : Int), .int .u8 (0 : Int), .int .u8 (0 : Int), .int .u8 (0 : Int), .int .u8 (0 : Int), .int .u8 (0 : Int), .int .u8 (0 : Int), .int .u8 (0 : Int), .int .u8 (0 : Int), .int .u8 (0 : Int), .int .u8 (0 : Int), .int .u8 (0 : Int), .int .u8 (0 : Int), .int .u8 (0 : Int), .int .u8 (0 : Int), .int .u8 (0 : Int), .int .u8 (0 : Int), .int .u8 (0 : Int)]
end Go.Proofs.YtlfolncaghkmcaaGreatDoor
set_option maxRecDepth 100000
namespace Go.Proofs.YtlfolncaghkmcaaGreatDoor
open Go.Pk
open Go.RowKit (Below)
--  cracknel/host.Parse
abbrev Ld (t : TypeId) (p : Option Addr) (w : World) (v : Value) : Prop := (Instr.loadAt t (.pointer p)).run prog w = .ok v w
abbrev Sv (t : TypeId) (p : Option Addr) (v : Value) (w x : World) : Prop := (Instr.storeAt t (.pointer p) v).run prog w = .ok () x
abbrev hV (a b c d : List UInt8) (e : Bool) (f : Int) (g : Bool) (h : Int) (i j : Bool) (k : Int) : Value := .agg #[.string (mkS a), .string (mkS b), .string (mkS c), .string (mkS d), .bool e, .int .i64 f, .bool g, .int .i64 h, .bool i, .bool j, .int .i64 k]
def qqM (s0 : List UInt8) (w : World) (K : Value -> World -> Prop) : Prop :=
 ∀ k2 w2, k2 = w.heap.size -> w2 = w.alloc (.cells qZ qf) ->
 Calls prog qa6 #[.string (mkS s0), .string (mkS [91])] w2 fun e15 w15 => ∃ s15_0 b15_1, e15 = .returned (.tuple #[.string (mkS s15_0), .bool b15_1]) /\
 BCase b15_1
 (Calls prog qpv #[.string (mkS s15_0), .string (mkS [93])] w15 fun e21 w21 => ∃ s21_0 b21_1, e21 = .returned (.tuple #[.string (mkS s21_0), .bool b21_1]) /\
 Calls prog qsT #[.string (mkS s21_0)] w21 fun e26 w26 => ∃ v26_0 b26_1, e26 = .returned (.tuple #[v26_0, .bool b26_1]) /\
 ∀ k8 w8, k8 = w26.heap.size -> w8 = w26.alloc (.cells jx qr) ->
 ∃ wx, Sv qr (some ⟨k8, 0, none⟩) v26_0 w8 wx /\
 ∃ v29, Ld qr (some ⟨k8, 0, none⟩) wx v29 /\
 BCase b26_1
 (Calls prog qhU #[.int .i64 (3 : Int), v29, .bool b21_1] wx fun e34 w34 => ∃ v34_0 n34_1, e34 = .returned (.tuple #[v34_0, .int .i64 n34_1]) /\
 ∃ wx_1, Sv qf (some ⟨k2, 0, none⟩) v34_0 w34 wx_1 /\
 ∃ vr0, (qs qf (.pointer (some ⟨k2, 0, none⟩))).run prog wx_1 = .ok vr0 wx_1 /\
 K (.tuple #[vr0, .int .i64 n34_1]) wx_1)
 (Calls prog qhU #[.int .i64 (3 : Int), v29, .bool false] wx fun e34_1 w34_1 => ∃ v34_0_1 n34_1_1, e34_1 = .returned (.tuple #[v34_0_1, .int .i64 n34_1_1]) /\
 ∃ wx_2, Sv qf (some ⟨k2, 0, none⟩) v34_0_1 w34_1 wx_2 /\
 ∃ vr0_1, (qs qf (.pointer (some ⟨k2, 0, none⟩))).run prog wx_2 = .ok vr0_1 wx_2 /\
 K (.tuple #[vr0_1, .int .i64 n34_1_1]) wx_2))
 (Calls prog qd8 #[.string (mkS s0)] w15 fun e38 w38 => ∃ s38, e38 = .returned (.string (mkS s38)) /\
 Calls prog qe1 #[.string (mkS s38), .int .u8 (46 : Int)] w38 fun e39 w39 => ∃ a39 l39 c39, e39 = .returned (.slice a39 l39 c39) /\
 ((0 <= (i64.wrap (((l39 : Nat) : Int) - (1 : Int))) /\ (i64.wrap (((l39 : Nat) : Int) - (1 : Int))) < ((l39 : Nat) : Int)) /\ Option.isSome a39 = true) /\
 ∃ s45, Ld qh (ql a39 (i64.wrap (((l39 : Nat) : Int) - (1 : Int))) 1) w39 (.string (mkS s45)) /\
 Calls prog qhV #[.string (mkS s45)] w39 fun e46 w46 => ∃ b46, e46 = .returned (.bool b46) /\
 BCase b46
 (Calls prog qsS #[.string (mkS s0)] w46 fun e49 w49 => ∃ v49_0 b49_1, e49 = .returned (.tuple #[v49_0, .bool b49_1]) /\
 ∀ k11 w11, k11 = w49.heap.size -> w11 = w49.alloc (.cells jx qr) ->
 ∃ wx_3, Sv qr (some ⟨k11, 0, none⟩) v49_0 w11 wx_3 /\
 ∃ v52, Ld qr (some ⟨k11, 0, none⟩) wx_3 v52 /\
 Calls prog qhU #[.int .i64 (2 : Int), v52, .bool b49_1] wx_3 fun e54 w54 => ∃ v54_0 n54_1, e54 = .returned (.tuple #[v54_0, .int .i64 n54_1]) /\
 ∃ wx_4, Sv qf (some ⟨k2, 0, none⟩) v54_0 w54 wx_4 /\
 ∃ vr0_2, (qs qf (.pointer (some ⟨k2, 0, none⟩))).run prog wx_4 = .ok vr0_2 wx_4 /\
 K (.tuple #[vr0_2, .int .i64 n54_1]) wx_4)
 (∃ J : FP [],
 (∃ J_1 : FP [.one (.bool)],
 (BCase (decide (((List.length s0 : Nat) : Int) > (253 : Int)))
 (J_1 true w46)
 (Calls prog qcg #[.slice a39 l39 c39, .func (.func qcx) #[] #[]] w46 fun e62 w62 => ∃ b62, e62 = .returned (.bool b62) /\
 J_1 b62 w62)) /\
 ∀ b63, AllJ 6 (∀ wj, J_1 b63 wj ->
 BCase b63
 (∃ wx_5, Sv qf (some ⟨k2, 0, none⟩) (.agg qZ) wj wx_5 /\
 ∃ vr0_3, (qs qf (.pointer (some ⟨k2, 0, none⟩))).run prog wx_5 = .ok vr0_3 wx_5 /\
 K (.tuple #[vr0_3, .int .i64 (31 : Int)]) wx_5)
 (J wj))) /\
 AllJ 9 (∀ wj_1, J wj_1 ->
 Calls prog qct #[.slice a39 l39 c39, .string (mkS [46])] wj_1 fun e66 w66 => ∃ s66, e66 = .returned (.string (mkS s66)) /\
 ∃ wx_6, Sv qf (some ⟨k2, 0, none⟩) (.agg #[.int .i64 (1 : Int), .string (mkS s66), .int .u8 (0 : Int), .int .u8 (0 : Int), .int .u8 (0 : Int), .int .u8 (0 : Int), .int .u8 (0 : Int), .int .u8 (0 : Int), .int .u8 (0 : Int), .int .u8 (0 : Int), .int .u8 (0 : Int), .int .u8 (0 : Int), .int .u8 (0 : Int), .int .u8 (0 : Int), .int .u8 (0 : Int), .int .u8 (0 : Int), .int .u8 (0 : Int), .int .u8 (0 : Int)]) w66 wx_6 /\
 ∃ vr0_4, (qs qf (.pointer (some ⟨k2, 0, none⟩))).run prog wx_6 = .ok vr0_4 wx_6 /\
 K (.tuple #[vr0_4, .int .i64 (0 : Int)]) wx_6)))
theorem quC (s0 : List UInt8) {w : World} {K : Value -> World -> Prop} (h : qqM s0 w K) : Calls prog qjm #[.string (mkS s0)] w (Ret K) :=
 qm (c := qq Tryz.f56) (by kernel_rfl) Tryz.func56 (by kernel_rfl) [(28, []), (29, [(63, .one (.bool))])] [.string (mkS s0)] (of_decide_eq_true (by kernel_rfl)) _ (by kernel_rfl) h

--  cracknel/host.Labels
def qo1 (v0 : Value) (w : World) (K : Value -> World -> Prop) : Prop :=
 ∀ k1 w1, k1 = w.heap.size -> w1 = w.alloc (.cells (Value.cells v0) qf) ->
 ∃ J : FP [],
 ((true = true) /\
 ∃ n4, Ld qt (some ⟨k1, 0, none⟩) w1 (.int .i64 n4) /\
 BCase (n4 != (1 : Int))
 (K (.slice none 0 0) w1)
 (∃ v7, Ld qf (some ⟨k1, 0, none⟩) w1 v7 /\
 Calls prog qhd #[v7] w1 fun e8 w8 => ∃ b8, e8 = .returned (.bool b8) /\
 BCase (!b8)
 (K (.slice none 0 0) w8)
 (J w8))) /\
 AllJ 9 (∀ wj, J wj ->
 (true = true) /\
 ∃ s12, Ld qh (some ⟨k1, 1, none⟩) wj (.string (mkS s12)) /\
 Calls prog qe1 #[.string (mkS s12), .int .u8 (46 : Int)] wj fun e13 w13 => ∃ a13 l13 c13, e13 = .returned (.slice a13 l13 c13) /\
 K (.slice a13 l13 c13) w13)
theorem qtq (v0 : Value) {w : World} {K : Value -> World -> Prop} (h : qo1 v0 w K) : Calls prog qaR #[v0] w (Ret K) :=
 qm (c := qq Tryz.f57) (by kernel_rfl) Tryz.func57 (by kernel_rfl) [(2, [])] [v0] (of_decide_eq_true (by kernel_rfl)) _ (by kernel_rfl) h

--  cracknel/host.Right
def qqN (v0 : Value) (w : World) (K : Value -> World -> Prop) : Prop :=
 ∀ k1 w1, k1 = w.heap.size -> w1 = w.alloc (.cells (Value.cells v0) qf) ->
 ∃ v6, Ld qf (some ⟨k1, 0, none⟩) w1 v6 /\
 Calls prog qj7 #[v6] w1 fun e7 w7 => ∃ s7, e7 = .returned (.string (mkS s7)) /\
 Calls prog qjm #[.string (mkS s7)] w7 fun e8 w8 => ∃ v8_0 n8_1, e8 = .returned (.tuple #[v8_0, .int .i64 n8_1]) /\
 ∀ k3 w3, k3 = w8.heap.size -> w3 = w8.alloc (.cells qZ qf) ->
 ∃ wx, Sv qf (some ⟨k3, 0, none⟩) v8_0 w3 wx /\
 BCase (n8_1 == (0 : Int))
 (∃ v14, Ld qf (some ⟨k3, 0, none⟩) wx v14 /\
 ∃ v15, Ld qf (some ⟨k1, 0, none⟩) wx v15 /\
 ∃ b16, ((do eqGuard .eql qf (.tmp 14) (.tmp 15) v14 v15; binOp .eql qf v14 v15 : Sem Value)).run prog wx = .ok (.bool b16) wx /\
 K (.bool b16) wx)
 (K (.bool false) wx)
theorem quD (v0 : Value) {w : World} {K : Value -> World -> Prop} (h : qqN v0 w K) : Calls prog qhd #[v0] w (Ret K) :=
 qm (c := qq Tryz.f60) (by kernel_rfl) Tryz.func60 (by kernel_rfl) [] [v0] (of_decide_eq_true (by kernel_rfl)) _ (by kernel_rfl) h

--  cracknel/host.Text
def qrO (v0 : Value) (w : World) (K : Value -> World -> Prop) : Prop :=
 ∀ k1 w1, k1 = w.heap.size -> w1 = w.alloc (.cells (Value.cells v0) qf) ->
 (true = true) /\
 ∃ n4, Ld qt (some ⟨k1, 0, none⟩) w1 (.int .i64 n4) /\
 BCase (n4 == (1 : Int))
 ((true = true) /\
 ∃ s8, Ld qh (some ⟨k1, 1, none⟩) w1 (.string (mkS s8)) /\
 K (.string (mkS s8)) w1)
 (BCase (n4 == (2 : Int))
 ((true = true) /\
 ∃ v12, Ld qr (some ⟨k1, 2, none⟩) w1 v12 /\
 Calls prog qnc #[v12] w1 fun e13 w13 => ∃ s13, e13 = .returned (.string (mkS s13)) /\
 K (.string (mkS s13)) w13)
 (BCase (n4 == (3 : Int))
 ((true = true) /\
 ∃ v17, Ld qr (some ⟨k1, 2, none⟩) w1 v17 /\
 Calls prog qnd #[v17] w1 fun e18 w18 => ∃ s18, e18 = .returned (.string (mkS s18)) /\
 ((((List.length [91] + List.length s18 : Nat) : Int) <= i64.max)) /\
 ∀ s19, s19 = ([91] ++ s18) ->
 ((((List.length s19 + List.length [93] : Nat) : Int) <= i64.max)) /\
 ∀ s20, s20 = (s19 ++ [93]) ->
 K (.string (mkS s20)) w18)
 (K (.string (mkS [])) w1)))
theorem qwa (v0 : Value) {w : World} {K : Value -> World -> Prop} (h : qrO v0 w K) : Calls prog qj7 #[v0] w (Ret K) :=
 qm (c := qq Tryz.f76) (by kernel_rfl) Tryz.func76 (by kernel_rfl) [] [v0] (of_decide_eq_true (by kernel_rfl)) _ (by kernel_rfl) h

--  cracknel/cracknelref03.Parse
def qpe (s0 : List UInt8) (w : World) (K : Value -> World -> Prop) : Prop :=
 ∀ k2 w2, k2 = w.heap.size -> w2 = w.alloc (.cells qZ qf) ->
 ∃ J : FP [],
 (∃ J_1 : FP [.one (.bool)],
 (BCase (decide (((List.length s0 : Nat) : Int) > (0 : Int)))
 (((0 <= (0 : Int) /\ (0 : Int) < ((List.length s0 : Nat) : Int))) /\
 J_1 ((qH s0 (0 : Int)) == (91 : Int)) w2)
 (J_1 false w2)) /\
 ∀ b19, AllJ 7 (∀ wj, J_1 b19 wj ->
 BCase b19
 (((0 <= (i64.wrap (((List.length s0 : Nat) : Int) - (1 : Int))) /\ (i64.wrap (((List.length s0 : Nat) : Int) - (1 : Int))) < ((List.length s0 : Nat) : Int))) /\
 BCase ((qH s0 (i64.wrap (((List.length s0 : Nat) : Int) - (1 : Int)))) != (93 : Int))
 (∃ wx, Sv qf (some ⟨k2, 0, none⟩) (.agg qZ) wj wx /\
 ∃ vr0, (qs qf (.pointer (some ⟨k2, 0, none⟩))).run prog wx = .ok vr0 wx /\
 K (.tuple #[vr0, .int .i64 (31 : Int)]) wx)
 ((((0 <= (i64.wrap (((List.length s0 : Nat) : Int) - (1 : Int))) /\ (i64.wrap (((List.length s0 : Nat) : Int) - (1 : Int))) <= (((List.length s0) : Nat) : Int)) /\ 0 <= (1 : Int) /\ (1 : Int) <= ((Int.toNat (i64.wrap (((List.length s0 : Nat) : Int) - (1 : Int))) : Nat) : Int))) /\
 ∀ s32, s32 = (List.drop (Int.toNat (1 : Int)) (List.take (Int.toNat (i64.wrap (((List.length s0 : Nat) : Int) - (1 : Int)))) s0)) ->
 Calls prog qq3 #[.string (mkS s32)] wj fun e33 w33 => ∃ v33_0 b33_1, e33 = .returned (.tuple #[v33_0, .bool b33_1]) /\
 ∀ k4 w4, k4 = w33.heap.size -> w4 = w33.alloc (.cells jx qr) ->
 ∃ wx_1, Sv qr (some ⟨k4, 0, none⟩) v33_0 w4 wx_1 /\
 BCase (!b33_1)
 (∃ wx_2, Sv qf (some ⟨k2, 0, none⟩) (.agg qZ) wx_1 wx_2 /\
 ∃ vr0_1, (qs qf (.pointer (some ⟨k2, 0, none⟩))).run prog wx_2 = .ok vr0_1 wx_2 /\
 K (.tuple #[vr0_1, .int .i64 (31 : Int)]) wx_2)
 (∃ v39, Ld qr (some ⟨k4, 0, none⟩) wx_1 v39 /\
 ∃ v40, (Instr.build qf #[(0, .int .i64 (3 : Int)), (2, v39)]).run prog wx_1 = .ok v40 wx_1 /\
 ∃ wx_3, Sv qf (some ⟨k2, 0, none⟩) v40 wx_1 wx_3 /\
 ∃ vr0_2, (qs qf (.pointer (some ⟨k2, 0, none⟩))).run prog wx_3 = .ok vr0_2 wx_3 /\
 K (.tuple #[vr0_2, .int .i64 (0 : Int)]) wx_3)))
 (J wj))) /\
 AllJ 32 (∀ wj_1, J wj_1 ->
 Calls prog zN #[.string (mkS s0)] wj_1 fun e42 w42 => ∃ s42, e42 = .returned (.string (mkS s42)) /\
 Calls prog jM #[.string (mkS s42), .int .u8 (46 : Int)] w42 fun e44 w44 => ∃ a44 l44 c44, e44 = .returned (.slice a44 l44 c44) /\
 ((0 <= (i64.wrap (((l44 : Nat) : Int) - (1 : Int))) /\ (i64.wrap (((l44 : Nat) : Int) - (1 : Int))) < ((l44 : Nat) : Int)) /\ Option.isSome a44 = true) /\
 ∃ s50, Ld qh (ql a44 (i64.wrap (((l44 : Nat) : Int) - (1 : Int))) 1) w44 (.string (mkS s50)) /\
 Calls prog qbs #[.string (mkS s50)] w44 fun e51 w51 => ∃ b51, e51 = .returned (.bool b51) /\
 BCase b51
 (Calls prog qq2 #[.string (mkS s0)] w51 fun e54 w54 => ∃ v54_0 b54_1, e54 = .returned (.tuple #[v54_0, .bool b54_1]) /\
 ∀ k8 w8, k8 = w54.heap.size -> w8 = w54.alloc (.cells jx qr) ->
 ∃ wx_4, Sv qr (some ⟨k8, 0, none⟩) v54_0 w8 wx_4 /\
 BCase (!b54_1)
 (∃ wx_5, Sv qf (some ⟨k2, 0, none⟩) (.agg qZ) wx_4 wx_5 /\
 ∃ vr0_3, (qs qf (.pointer (some ⟨k2, 0, none⟩))).run prog wx_5 = .ok vr0_3 wx_5 /\
 K (.tuple #[vr0_3, .int .i64 (31 : Int)]) wx_5)
 (∃ v60, Ld qr (some ⟨k8, 0, none⟩) wx_4 v60 /\
 ∃ v61, (Instr.build qf #[(0, .int .i64 (2 : Int)), (2, v60)]).run prog wx_4 = .ok v61 wx_4 /\
 ∃ wx_6, Sv qf (some ⟨k2, 0, none⟩) v61 wx_4 wx_6 /\
 ∃ vr0_4, (qs qf (.pointer (some ⟨k2, 0, none⟩))).run prog wx_6 = .ok vr0_4 wx_6 /\
 K (.tuple #[vr0_4, .int .i64 (0 : Int)]) wx_6))
 (∃ I : Nat -> FP [.one (.int .i64)],
 (∃ m, I m (0 : Int) w51) /\
 ∀ m n64, AllJ 10 (∀ wl, I m n64 wl ->
 BCase (decide (n64 < ((l44 : Nat) : Int)))
 (((0 <= n64 /\ n64 < ((l44 : Nat) : Int)) /\ Option.isSome a44 = true) /\
 ∃ s67, Ld qh (ql a44 n64 1) wl (.string (mkS s67)) /\
 Calls prog ql7 #[.string (mkS s67)] wl fun e69 w69 => ∃ b69, e69 = .returned (.bool b69) /\
 BCase (!b69)
 (∃ wx_7, Sv qf (some ⟨k2, 0, none⟩) (.agg qZ) w69 wx_7 /\
 ∃ vr0_5, (qs qf (.pointer (some ⟨k2, 0, none⟩))).run prog wx_7 = .ok vr0_5 wx_7 /\
 K (.tuple #[vr0_5, .int .i64 (31 : Int)]) wx_7)
 (∃ m' : Nat, m' < m /\ I m' (i64.wrap (n64 + (1 : Int))) w69))
 (BCase (decide (((List.length s0 : Nat) : Int) > (253 : Int)))
 (∃ wx_8, Sv qf (some ⟨k2, 0, none⟩) (.agg qZ) wl wx_8 /\
 ∃ vr0_6, (qs qf (.pointer (some ⟨k2, 0, none⟩))).run prog wx_8 = .ok vr0_6 wx_8 /\
 K (.tuple #[vr0_6, .int .i64 (31 : Int)]) wx_8)
 (∃ wx_9, Sv qf (some ⟨k2, 0, none⟩) (.agg #[.int .i64 (1 : Int), .string (mkS s42), .int .u8 (0 : Int), .int .u8 (0 : Int), .int .u8 (0 : Int), .int .u8 (0 : Int), .int .u8 (0 : Int), .int .u8 (0 : Int), .int .u8 (0 : Int), .int .u8 (0 : Int), .int .u8 (0 : Int), .int .u8 (0 : Int), .int .u8 (0 : Int), .int .u8 (0 : Int), .int .u8 (0 : Int), .int .u8 (0 : Int), .int .u8 (0 : Int), .int .u8 (0 : Int)]) wl wx_9 /\
 ∃ vr0_7, (qs qf (.pointer (some ⟨k2, 0, none⟩))).run prog wx_9 = .ok vr0_7 wx_9 /\
 K (.tuple #[vr0_7, .int .i64 (0 : Int)]) wx_9)))))
theorem qtE (s0 : List UInt8) {w : World} {K : Value -> World -> Prop} (h : qpe s0 w K) : Calls prog qan #[.string (mkS s0)] w (Ret K) :=
 qm (c := qq Tryz.f85) (by kernel_rfl) Tryz.func85 (by kernel_rfl) [(2, []), (3, [(19, .one (.bool))]), (54, [(64, .one (.int .i64))])] [.string (mkS s0)] (of_decide_eq_true (by kernel_rfl)) _ (by kernel_rfl) h

--  cracknel/cracknelref03.Right
def qvj (s0 : List UInt8) (w : World) (K : Value -> World -> Prop) : Prop :=
 ∀ k2 w2, k2 = w.heap.size -> w2 = w.alloc (.cells jx qr) ->
 Calls prog qp6 #[.string (mkS s0), .string (mkS [58, 58])] w2 fun e15 w15 => ∃ s15_0 s15_1 b15_2, e15 = .returned (.tuple #[.string (mkS s15_0), .string (mkS s15_1), .bool b15_2]) /\
 Calls prog qoq #[.string (mkS s15_0)] w15 fun e21 w21 => ∃ a21_0 l21_0 c21_0 b21_1, e21 = .returned (.tuple #[.slice a21_0 l21_0 c21_0, .bool b21_1]) /\
 Calls prog qoq #[.string (mkS s15_1)] w21 fun e26 w26 => ∃ a26_0 l26_0 c26_0 b26_1, e26 = .returned (.tuple #[.slice a26_0 l26_0 c26_0, .bool b26_1]) /\
 ∃ J : FP [],
 (∃ J_1 : FP [.one (.bool)],
 (BCase (!b21_1)
 (J_1 true w26)
 (BCase (!b26_1)
 (J_1 true w26)
 (BCase b15_2
 (BCase (decide ((i64.wrap (((l21_0 : Nat) : Int) + ((l26_0 : Nat) : Int))) >= (8 : Int)))
 (J_1 true w26)
 (BCase (!b15_2)
 (J_1 ((i64.wrap (((l21_0 : Nat) : Int) + ((l26_0 : Nat) : Int))) != (8 : Int)) w26)
 (J_1 false w26)))
 (BCase (!b15_2)
 (J_1 ((i64.wrap (((l21_0 : Nat) : Int) + ((l26_0 : Nat) : Int))) != (8 : Int)) w26)
 (J_1 false w26))))) /\
 ∀ b54, AllJ 20 (∀ wj, J_1 b54 wj ->
 BCase b54
 (∃ wx, Sv qr (some ⟨k2, 0, none⟩) (.agg jx) wj wx /\
 ∃ vr0, (qs qr (.pointer (some ⟨k2, 0, none⟩))).run prog wx = .ok vr0 wx /\
 K (.tuple #[vr0, .bool false]) wx)
 (J wj))) /\
 AllJ 23 (∀ wj_1, J wj_1 ->
 ∀ k12 w12, k12 = wj_1.heap.size -> w12 = wj_1.alloc (.cells #[.int .u16 (0 : Int), .int .u16 (0 : Int), .int .u16 (0 : Int), .int .u16 (0 : Int), .int .u16 (0 : Int), .int .u16 (0 : Int), .int .u16 (0 : Int), .int .u16 (0 : Int)] zl) ->
 (True) /\
 ∃ w58 n58, (Builtin.copy_ #[qei, qei] qt #[.slice (some ⟨k12, 0, none⟩) 8 8, .slice a21_0 l21_0 c21_0]).run prog w12 = .ok (.int .i64 n58) w58 /\
 ((0 <= (i64.wrap ((8 : Int) - ((l26_0 : Nat) : Int))) /\ (i64.wrap ((8 : Int) - ((l26_0 : Nat) : Int))) <= ((8 : Nat) : Int))) /\
 ∃ w64 n64, (Builtin.copy_ #[qei, qei] qt #[.slice (some (if 8 = (Int.toNat (i64.wrap ((8 : Int) - ((l26_0 : Nat) : Int)))) then ⟨k12, 0, none⟩ else Addr.add ⟨k12, 0, none⟩ ((Int.toNat (i64.wrap ((8 : Int) - ((l26_0 : Nat) : Int)))) * 1))) (8 - (Int.toNat (i64.wrap ((8 : Int) - ((l26_0 : Nat) : Int))))) (8 - (Int.toNat (i64.wrap ((8 : Int) - ((l26_0 : Nat) : Int))))), .slice a26_0 l26_0 c26_0]).run prog w58 = .ok (.int .i64 n64) w64 /\
 ∃ n65_0 n65_1 n65_2 n65_3 n65_4 n65_5 n65_6 n65_7, Ld zl (some ⟨k12, 0, none⟩) w64 (.agg #[.int .u16 n65_0, .int .u16 n65_1, .int .u16 n65_2, .int .u16 n65_3, .int .u16 n65_4, .int .u16 n65_5, .int .u16 n65_6, .int .u16 n65_7]) /\
 Calls prog qpr #[.agg #[.int .u16 n65_0, .int .u16 n65_1, .int .u16 n65_2, .int .u16 n65_3, .int .u16 n65_4, .int .u16 n65_5, .int .u16 n65_6, .int .u16 n65_7]] w64 fun e66 w66 => ∃ v66, e66 = .returned v66 /\
 ∃ wx_1, Sv qr (some ⟨k2, 0, none⟩) v66 w66 wx_1 /\
 ∃ vr0_1, (qs qr (.pointer (some ⟨k2, 0, none⟩))).run prog wx_1 = .ok vr0_1 wx_1 /\
 K (.tuple #[vr0_1, .bool true]) wx_1)
theorem qxY (s0 : List UInt8) {w : World} {K : Value -> World -> Prop} (h : qvj s0 w K) : Calls prog qsT #[.string (mkS s0)] w (Ret K) :=
 qm (c := qq Tryz.f111) (by kernel_rfl) Tryz.func111 (by kernel_rfl) [(10, []), (11, [(54, .one (.bool))])] [.string (mkS s0)] (of_decide_eq_true (by kernel_rfl)) _ (by kernel_rfl) h

--  cracknel/host.address
def qoa (n0 : Int) (v1 : Value) (b2 : Bool) (w : World) (K : Value -> World -> Prop) : Prop :=
 ∀ k4 w4, k4 = w.heap.size -> w4 = w.alloc (.cells (Value.cells v1) qr) ->
 ∀ k6 w6, k6 = w4.heap.size -> w6 = w4.alloc (.cells qZ qf) ->
 BCase (!b2)
 (∃ wx, Sv qf (some ⟨k6, 0, none⟩) (.agg qZ) w6 wx /\
 ∃ vr0, (qs qf (.pointer (some ⟨k6, 0, none⟩))).run prog wx = .ok vr0 wx /\
 K (.tuple #[vr0, .int .i64 (31 : Int)]) wx)
 (∃ v12, Ld qr (some ⟨k4, 0, none⟩) w6 v12 /\
 ∃ v13, (Instr.build qf #[(0, .int .i64 n0), (2, v12)]).run prog w6 = .ok v13 w6 /\
 ∃ wx_1, Sv qf (some ⟨k6, 0, none⟩) v13 w6 wx_1 /\
 ∃ vr0_1, (qs qf (.pointer (some ⟨k6, 0, none⟩))).run prog wx_1 = .ok vr0_1 wx_1 /\
 K (.tuple #[vr0_1, .int .i64 (0 : Int)]) wx_1)
theorem qsa (n0 : Int) (v1 : Value) (b2 : Bool) {w : World} {K : Value -> World -> Prop} (h : qoa n0 v1 b2 w K) : Calls prog qhU #[.int .i64 n0, v1, .bool b2] w (Ret K) :=
 qm (c := qq Tryz.f112) (by kernel_rfl) Tryz.func112 (by kernel_rfl) [] [.int .i64 n0, v1, .bool b2] (of_decide_eq_true (by kernel_rfl)) _ (by kernel_rfl) h

--  cracknel/addr.V4
def qvi (s0 : List UInt8) (w : World) (K : Value -> World -> Prop) : Prop :=
 ∀ k2 w2, k2 = w.heap.size -> w2 = w.alloc (.cells jx qr) ->
 Calls prog qe1 #[.string (mkS s0), .int .u8 (46 : Int)] w2 fun e11 w11 => ∃ a11 l11 c11, e11 = .returned (.slice a11 l11 c11) /\
 BCase (((l11 : Nat) : Int) != (4 : Int))
 (∃ wx, Sv qr (some ⟨k2, 0, none⟩) (.agg jx) w11 wx /\
 ∃ vr0, (qs qr (.pointer (some ⟨k2, 0, none⟩))).run prog wx = .ok vr0 wx /\
 K (.tuple #[vr0, .bool false]) wx)
 (∀ k5 w5, k5 = w11.heap.size -> w5 = w11.alloc (.cells jx qr) ->
 ∃ I : Nat -> FP [.one (.int .i64)],
 (∃ m, I m (0 : Int) w5) /\
 ∀ m n18, AllJ 27 (∀ wl, I m n18 wl ->
 BCase (decide (n18 < ((l11 : Nat) : Int)))
 (((0 <= n18 /\ n18 < ((l11 : Nat) : Int)) /\ Option.isSome a11 = true) /\
 ∃ s22, Ld qh (ql a11 n18 1) wl (.string (mkS s22)) /\
 Calls prog qjc #[.string (mkS s22)] wl fun e25 w25 => ∃ n25_0 b25_1, e25 = .returned (.tuple #[.int .i64 n25_0, .bool b25_1]) /\
 ∃ J : FP [],
 (∃ J_1 : FP [.one (.bool)],
 (BCase (!b25_1)
 (J_1 true w25)
 (J_1 (decide (n25_0 > (255 : Int))) w25)) /\
 ∀ b33, AllJ 5 (∀ wj, J_1 b33 wj ->
 BCase b33
 (∃ wx_1, Sv qr (some ⟨k2, 0, none⟩) (.agg jx) wj wx_1 /\
 ∃ vr0_1, (qs qr (.pointer (some ⟨k2, 0, none⟩))).run prog wx_1 = .ok vr0_1 wx_1 /\
 K (.tuple #[vr0_1, .bool false]) wx_1)
 (J wj))) /\
 AllJ 8 (∀ wj_1, J wj_1 ->
 ((0 <= (i64.wrap ((12 : Int) + n18)) /\ (i64.wrap ((12 : Int) + n18)) < ((16 : Nat) : Int)) /\ true = true) /\
 ∃ wx_2, Sv qU (ql (some ⟨k5, 0, none⟩) (i64.wrap ((12 : Int) + n18)) 1) (.int .u8 (IntKind.u8.wrap n25_0)) wj_1 wx_2 /\
 ∃ m' : Nat, m' < m /\ I m' (i64.wrap (n18 + (1 : Int))) wx_2))
 (∃ v41, Ld qr (some ⟨k5, 0, none⟩) wl v41 /\
 ∃ wx_3, Sv qr (some ⟨k2, 0, none⟩) v41 wl wx_3 /\
 ∃ vr0_2, (qs qr (.pointer (some ⟨k2, 0, none⟩))).run prog wx_3 = .ok vr0_2 wx_3 /\
 K (.tuple #[vr0_2, .bool true]) wx_3)))
theorem qxX (s0 : List UInt8) {w : World} {K : Value -> World -> Prop} (h : qvi s0 w K) : Calls prog qsS #[.string (mkS s0)] w (Ret K) :=
 qm (c := qq Tryz.f114) (by kernel_rfl) Tryz.func114 (by kernel_rfl) [(18, [(18, .one (.int .i64))]), (31, []), (32, [(33, .one (.bool))])] [.string (mkS s0)] (of_decide_eq_true (by kernel_rfl)) _ (by kernel_rfl) h

--  cracknel/host.Parse$1
def qmL (s0 : List UInt8) (w : World) (K : Value -> World -> Prop) : Prop :=
 Calls prog qnl #[.string (mkS s0)] w fun e4 w4 => ∃ b4, e4 = .returned (.bool b4) /\
 K (.bool (!b4)) w4
theorem qrg (s0 : List UInt8) {w : World} {K : Value -> World -> Prop} (h : qmL s0 w K) : Calls prog qcx #[.string (mkS s0)] w (Ret K) :=
 qm (c := qq Tryz.f116) (by kernel_rfl) Tryz.func116 (by kernel_rfl) [] [.string (mkS s0)] (of_decide_eq_true (by kernel_rfl)) _ (by kernel_rfl) h

--  cracknel/host.label
def qqP (s0 : List UInt8) (w : World) (K : Value -> World -> Prop) : Prop :=
 BCase (!(s0 == []))
 (BCase (decide (((List.length s0 : Nat) : Int) <= (63 : Int)))
 (∃ w12 a12 l12 c12, (convert qh za (.string (mkS s0))).run prog w = .ok (.slice a12 l12 c12) w12 /\
 Calls prog qfT #[.slice a12 l12 c12, .func (.func qdt) #[] #[]] w12 fun e13 w13 => ∃ b13, e13 = .returned (.bool b13) /\
 K (.bool (!b13)) w13)
 (K (.bool false) w))
 (K (.bool false) w)
theorem quF (s0 : List UInt8) {w : World} {K : Value -> World -> Prop} (h : qqP s0 w K) : Calls prog qnl #[.string (mkS s0)] w (Ret K) :=
 qm (c := qq Tryz.f117) (by kernel_rfl) Tryz.func117 (by kernel_rfl) [] [.string (mkS s0)] (of_decide_eq_true (by kernel_rfl)) _ (by kernel_rfl) h

--  cracknel/host.Under
def qqO (v0 : Value) (v1 : Value) (w : World) (K : Value -> World -> Prop) : Prop :=
 ∀ k2 w2, k2 = w.heap.size -> w2 = w.alloc (.cells (Value.cells v0) qf) ->
 ∀ k3 w3, k3 = w2.heap.size -> w3 = w2.alloc (.cells (Value.cells v1) qf) ->
 (∃ v9, Ld qf (some ⟨k2, 0, none⟩) (World.drew w3) v9 /\
 (Calls prog qaR #[v9] (World.drew w3) fun e10 w10 => ∃ a10 l10 c10, e10 = .returned (.slice a10 l10 c10) /\
 ∃ v11, Ld qf (some ⟨k3, 0, none⟩) w10 v11 /\
 Calls prog qaR #[v11] w10 fun e12 w12 => ∃ a12 l12 c12, e12 = .returned (.slice a12 l12 c12) /\
 ∃ J : FP [],
 (BCase (((l12 : Nat) : Int) == (0 : Int))
 (K (.bool false) w12)
 (BCase (decide (((l12 : Nat) : Int) >= ((l10 : Nat) : Int)))
 (K (.bool false) w12)
 (J w12))) /\
 AllJ 11 (∀ wj, J wj ->
 ∃ v24, Ld qf (some ⟨k2, 0, none⟩) wj v24 /\
 Calls prog qh4 #[v24, .int .i64 ((l12 : Nat) : Int)] wj fun e27 w27 => ∃ v27_0 b27_1, e27 = .returned (.tuple #[v27_0, .bool b27_1]) /\
 ∀ k7 w7, k7 = w27.heap.size -> w7 = w27.alloc (.cells qZ qf) ->
 ∃ wx, Sv qf (some ⟨k7, 0, none⟩) v27_0 w7 wx /\
 ∃ v30, Ld qf (some ⟨k7, 0, none⟩) wx v30 /\
 ∃ v31, Ld qf (some ⟨k3, 0, none⟩) wx v31 /\
 ∃ b32, ((do eqGuard .eql qf (.tmp 30) (.tmp 31) v30 v31; binOp .eql qf v30 v31 : Sem Value)).run prog wx = .ok (.bool b32) wx /\
 K (.bool b32) wx)) /\
 ∃ v11_1, Ld qf (some ⟨k3, 0, none⟩) (World.drew w3) v11_1 /\
 Calls prog qaR #[v9] (World.drew w3) fun e10_1 w10_1 => ∃ a10_1 l10_1 c10_1, e10_1 = .returned (.slice a10_1 l10_1 c10_1) /\
 Calls prog qaR #[v11_1] w10_1 fun e12_1 w12_1 => ∃ a12_1 l12_1 c12_1, e12_1 = .returned (.slice a12_1 l12_1 c12_1) /\
 ∃ J_1 : FP [],
 (BCase (((l12_1 : Nat) : Int) == (0 : Int))
 (K (.bool false) w12_1)
 (BCase (decide (((l12_1 : Nat) : Int) >= ((l10_1 : Nat) : Int)))
 (K (.bool false) w12_1)
 (J_1 w12_1))) /\
 AllJ 11 (∀ wj_1, J_1 wj_1 ->
 ∃ v24_1, Ld qf (some ⟨k2, 0, none⟩) wj_1 v24_1 /\
 Calls prog qh4 #[v24_1, .int .i64 ((l12_1 : Nat) : Int)] wj_1 fun e27_1 w27_1 => ∃ v27_0_1 b27_1_1, e27_1 = .returned (.tuple #[v27_0_1, .bool b27_1_1]) /\
 ∀ k7_1 w7_1, k7_1 = w27_1.heap.size -> w7_1 = w27_1.alloc (.cells qZ qf) ->
 ∃ wx_1, Sv qf (some ⟨k7_1, 0, none⟩) v27_0_1 w7_1 wx_1 /\
 ∃ v30_1, Ld qf (some ⟨k7_1, 0, none⟩) wx_1 v30_1 /\
 ∃ v31_1, Ld qf (some ⟨k3, 0, none⟩) wx_1 v31_1 /\
 ∃ b32_1, ((do eqGuard .eql qf (.tmp 30) (.tmp 31) v30_1 v31_1; binOp .eql qf v30_1 v31_1 : Sem Value)).run prog wx_1 = .ok (.bool b32_1) wx_1 /\
 K (.bool b32_1) wx_1)) /\
 ∃ v11_2, Ld qf (some ⟨k3, 0, none⟩) (World.drew w3) v11_2 /\
 ∃ v9_1, Ld qf (some ⟨k2, 0, none⟩) (World.drew w3) v9_1 /\
 Calls prog qaR #[v9_1] (World.drew w3) fun e10_2 w10_2 => ∃ a10_2 l10_2 c10_2, e10_2 = .returned (.slice a10_2 l10_2 c10_2) /\
 Calls prog qaR #[v11_2] w10_2 fun e12_2 w12_2 => ∃ a12_2 l12_2 c12_2, e12_2 = .returned (.slice a12_2 l12_2 c12_2) /\
 ∃ J_2 : FP [],
 (BCase (((l12_2 : Nat) : Int) == (0 : Int))
 (K (.bool false) w12_2)
 (BCase (decide (((l12_2 : Nat) : Int) >= ((l10_2 : Nat) : Int)))
 (K (.bool false) w12_2)
 (J_2 w12_2))) /\
 AllJ 11 (∀ wj_2, J_2 wj_2 ->
 ∃ v24_2, Ld qf (some ⟨k2, 0, none⟩) wj_2 v24_2 /\
 Calls prog qh4 #[v24_2, .int .i64 ((l12_2 : Nat) : Int)] wj_2 fun e27_2 w27_2 => ∃ v27_0_2 b27_1_2, e27_2 = .returned (.tuple #[v27_0_2, .bool b27_1_2]) /\
 ∀ k7_2 w7_2, k7_2 = w27_2.heap.size -> w7_2 = w27_2.alloc (.cells qZ qf) ->
 ∃ wx_2, Sv qf (some ⟨k7_2, 0, none⟩) v27_0_2 w7_2 wx_2 /\
 ∃ v30_2, Ld qf (some ⟨k7_2, 0, none⟩) wx_2 v30_2 /\
 ∃ v31_2, Ld qf (some ⟨k3, 0, none⟩) wx_2 v31_2 /\
 ∃ b32_2, ((do eqGuard .eql qf (.tmp 30) (.tmp 31) v30_2 v31_2; binOp .eql qf v30_2 v31_2 : Sem Value)).run prog wx_2 = .ok (.bool b32_2) wx_2 /\
 K (.bool b32_2) wx_2)
theorem quE (v0 : Value) (v1 : Value) {w : World} {K : Value -> World -> Prop} (h : qqO v0 v1 w K) : Calls prog qjn #[v0, v1] w (Ret K) :=
 qm (c := qq Tryz.f129) (by kernel_rfl) Tryz.func129 (by kernel_rfl) [(1000003, []), (4, []), (4, []), (4, [])] [v0, v1] (of_decide_eq_true (by kernel_rfl)) _ (by kernel_rfl) h

--  cracknel/host.Tail
def qrN (v0 : Value) (n1 : Int) (w : World) (K : Value -> World -> Prop) : Prop :=
 ∀ k2 w2, k2 = w.heap.size -> w2 = w.alloc (.cells (Value.cells v0) qf) ->
 ∀ k4 w4, k4 = w2.heap.size -> w4 = w2.alloc (.cells qZ qf) ->
 ∃ v7, Ld qf (some ⟨k2, 0, none⟩) w4 v7 /\
 Calls prog qaR #[v7] w4 fun e8 w8 => ∃ a8 l8 c8, e8 = .returned (.slice a8 l8 c8) /\
 ∃ J : FP [],
 (∃ J_1 : FP [.one (.bool)],
 (BCase (decide (n1 < (1 : Int)))
 (J_1 true w8)
 (J_1 (decide (n1 > ((l8 : Nat) : Int))) w8)) /\
 ∀ b16, AllJ 7 (∀ wj, J_1 b16 wj ->
 BCase b16
 (∃ wx, Sv qf (some ⟨k4, 0, none⟩) (.agg qZ) wj wx /\
 ∃ vr0, (qs qf (.pointer (some ⟨k4, 0, none⟩))).run prog wx = .ok vr0 wx /\
 K (.tuple #[vr0, .bool false]) wx)
 (J wj))) /\
 AllJ 10 (∀ wj_1, J wj_1 ->
 ((0 <= (i64.wrap (((l8 : Nat) : Int) - n1)) /\ (i64.wrap (((l8 : Nat) : Int) - n1)) <= ((l8 : Nat) : Int))) /\
 Calls prog qct #[.slice (qy a8 c8 (Int.toNat (i64.wrap (((l8 : Nat) : Int) - n1))) 1) (l8 - (Int.toNat (i64.wrap (((l8 : Nat) : Int) - n1)))) (c8 - (Int.toNat (i64.wrap (((l8 : Nat) : Int) - n1)))), .string (mkS [46])] wj_1 fun e24 w24 => ∃ s24, e24 = .returned (.string (mkS s24)) /\
 ∃ wx_1, Sv qf (some ⟨k4, 0, none⟩) (.agg #[.int .i64 (1 : Int), .string (mkS s24), .int .u8 (0 : Int), .int .u8 (0 : Int), .int .u8 (0 : Int), .int .u8 (0 : Int), .int .u8 (0 : Int), .int .u8 (0 : Int), .int .u8 (0 : Int), .int .u8 (0 : Int), .int .u8 (0 : Int), .int .u8 (0 : Int), .int .u8 (0 : Int), .int .u8 (0 : Int), .int .u8 (0 : Int), .int .u8 (0 : Int), .int .u8 (0 : Int), .int .u8 (0 : Int)]) w24 wx_1 /\
 ∃ vr0_1, (qs qf (.pointer (some ⟨k4, 0, none⟩))).run prog wx_1 = .ok vr0_1 wx_1 /\
 K (.tuple #[vr0_1, .bool true]) wx_1)
theorem qv9 (v0 : Value) (n1 : Int) {w : World} {K : Value -> World -> Prop} (h : qrN v0 n1 w K) : Calls prog qh4 #[v0, .int .i64 n1] w (Ret K) :=
 qm (c := qq Tryz.f131) (by kernel_rfl) Tryz.func131 (by kernel_rfl) [(4, []), (5, [(16, .one (.bool))])] [v0, .int .i64 n1] (of_decide_eq_true (by kernel_rfl)) _ (by kernel_rfl) h

--  cracknel/addr.Text4
def qqC (v0 : Value) (w : World) (K : Value -> World -> Prop) : Prop :=
 ∀ k1 w1, k1 = w.heap.size -> w1 = w.alloc (.cells (Value.cells v0) qr) ->
 ((0 <= (12 : Int) /\ (12 : Int) <= ((16 : Nat) : Int))) /\
 ∃ I : Nat -> FP [.one (.slice), .one (.int .i64)],
 (∃ m, I m none 0 0 (0 : Int) w1) /\
 ∀ m a3 l3 c3 n8, AllJ 11 (∀ wl, I m a3 l3 c3 n8 wl ->
 BCase (decide (n8 < (((16 - (Int.toNat (12 : Int))) : Nat) : Int)))
 (((0 <= n8 /\ n8 < (((16 - (Int.toNat (12 : Int))) : Nat) : Int)) /\ true = true) /\
 ∃ n11, Ld qU (ql (some (if 16 = (Int.toNat (12 : Int)) then ⟨k1, 0, none⟩ else Addr.add ⟨k1, 0, none⟩ ((Int.toNat (12 : Int)) * 1))) n8 1) wl (.int .u8 n11) /\
 Calls prog qlb #[.int .i64 (i64.wrap n11)] wl fun e15 w15 => ∃ s15, e15 = .returned (.string (mkS s15)) /\
 ∀ k16 w16, k16 = w15.heap.size -> w16 = w15.alloc (.cells #[.string (mkS s15)] qh) ->
 ∃ w17 a17 l17 c17, (Builtin.append_ #[qV, qV] qV #[.slice a3 l3 c3, .slice (some ⟨k16, 0, none⟩) 1 1]).run prog w16 = .ok (.slice a17 l17 c17) w17 /\
 ∃ m' : Nat, m' < m /\ I m' a17 l17 c17 (i64.wrap (n8 + (1 : Int))) w17)
 (Calls prog qct #[.slice a3 l3 c3, .string (mkS [46])] wl fun e20 w20 => ∃ s20, e20 = .returned (.string (mkS s20)) /\
 K (.string (mkS s20)) w20))
theorem qus (v0 : Value) {w : World} {K : Value -> World -> Prop} (h : qqC v0 w K) : Calls prog qnc #[v0] w (Ret K) :=
 qm (c := qq Tryz.f133) (by kernel_rfl) Tryz.func133 (by kernel_rfl) [(8, [(3, .one (.slice)), (8, .one (.int .i64))])] [v0] (of_decide_eq_true (by kernel_rfl)) _ (by kernel_rfl) h

--  cracknel/addr.Text6
def qqD (v0 : Value) (w : World) (K : Value -> World -> Prop) : Prop :=
 ∀ k1 w1, k1 = w.heap.size -> w1 = w.alloc (.cells (Value.cells v0) qr) ->
 ∃ v6, Ld qr (some ⟨k1, 0, none⟩) w1 v6 /\
 Calls prog qlY #[v6] w1 fun e7 w7 => ∃ n7_0 n7_1 n7_2 n7_3 n7_4 n7_5 n7_6 n7_7, e7 = .returned (.agg #[.int .u16 n7_0, .int .u16 n7_1, .int .u16 n7_2, .int .u16 n7_3, .int .u16 n7_4, .int .u16 n7_5, .int .u16 n7_6, .int .u16 n7_7]) /\
 ∀ k3 w3, k3 = w7.heap.size -> w3 = w7.alloc (.cells #[.int .u16 (0 : Int), .int .u16 (0 : Int), .int .u16 (0 : Int), .int .u16 (0 : Int), .int .u16 (0 : Int), .int .u16 (0 : Int), .int .u16 (0 : Int), .int .u16 (0 : Int)] zl) ->
 ∃ wx, Sv zl (some ⟨k3, 0, none⟩) (.agg #[.int .u16 n7_0, .int .u16 n7_1, .int .u16 n7_2, .int .u16 n7_3, .int .u16 n7_4, .int .u16 n7_5, .int .u16 n7_6, .int .u16 n7_7]) w3 wx /\
 ∃ n9_0 n9_1 n9_2 n9_3 n9_4 n9_5 n9_6 n9_7, Ld zl (some ⟨k3, 0, none⟩) wx (.agg #[.int .u16 n9_0, .int .u16 n9_1, .int .u16 n9_2, .int .u16 n9_3, .int .u16 n9_4, .int .u16 n9_5, .int .u16 n9_6, .int .u16 n9_7]) /\
 Calls prog qnf #[.agg #[.int .u16 n9_0, .int .u16 n9_1, .int .u16 n9_2, .int .u16 n9_3, .int .u16 n9_4, .int .u16 n9_5, .int .u16 n9_6, .int .u16 n9_7]] wx fun e10 w10 => ∃ n10_0 n10_1, e10 = .returned (.tuple #[.int .i64 n10_0, .int .i64 n10_1]) /\
 BCase (decide (n10_1 < (2 : Int)))
 ((True) /\
 Calls prog qhS #[.slice (some ⟨k3, 0, none⟩) 8 8] w10 fun e16 w16 => ∃ s16, e16 = .returned (.string (mkS s16)) /\
 K (.string (mkS s16)) w16)
 (((0 <= n10_0 /\ n10_0 <= ((8 : Nat) : Int))) /\
 ∃ s19, (∀ u19, Below w10.heap.size w10 u19 -> Calls prog qhS #[.slice (some ⟨k3, 0, none⟩) (Int.toNat n10_0) 8] u19 fun e19 w19 => e19 = .returned (.string (mkS s19)) /\ Below w10.heap.size u19 w19) /\
 ((((List.length s19 + List.length [58, 58] : Nat) : Int) <= i64.max)) /\
 ∀ s20, s20 = (s19 ++ [58, 58]) ->
 ((0 <= (i64.wrap (n10_0 + n10_1)) /\ (i64.wrap (n10_0 + n10_1)) <= ((8 : Nat) : Int))) /\
 ∃ s25, (∀ u25, Below w10.heap.size w10 u25 -> Calls prog qhS #[.slice (some (if 8 = (Int.toNat (i64.wrap (n10_0 + n10_1))) then ⟨k3, 0, none⟩ else Addr.add ⟨k3, 0, none⟩ ((Int.toNat (i64.wrap (n10_0 + n10_1))) * 1))) (8 - (Int.toNat (i64.wrap (n10_0 + n10_1)))) (8 - (Int.toNat (i64.wrap (n10_0 + n10_1))))] u25 fun e25 w25 => e25 = .returned (.string (mkS s25)) /\ Below w10.heap.size u25 w25) /\
 ((((List.length s20 + List.length s25 : Nat) : Int) <= i64.max)) /\
 ∀ s26, s26 = (s20 ++ s25) ->
 ∀ wq, Below w10.heap.size w10 wq ->
 K (.string (mkS s26)) wq)
theorem qut (v0 : Value) {w : World} {K : Value -> World -> Prop} (h : qqD v0 w K) : Calls prog qnd #[v0] w (Ret K) :=
 qm (c := qq Tryz.f134) (by kernel_rfl) Tryz.func134 (by kernel_rfl) [] [v0] (of_decide_eq_true (by kernel_rfl)) _ (by kernel_rfl) h

--  cracknel/cracknelref02.V6
def qt1 (s0 : List UInt8) (w : World) (K : Value -> World -> Prop) : Prop :=
 ∀ k2 w2, k2 = w.heap.size -> w2 = w.alloc (.cells jx qr) ->
 Calls prog qjL #[.string (mkS s0)] w2 fun e15 w15 => ∃ v15_0 b15_1, e15 = .returned (.tuple #[v15_0, .bool b15_1]) /\
 ∀ k4 w4, k4 = w15.heap.size -> w4 = w15.alloc (.cells jx qr) ->
 ∃ wx, Sv qr (some ⟨k4, 0, none⟩) v15_0 w4 wx /\
 BCase b15_1
 (∃ v19, Ld qr (some ⟨k4, 0, none⟩) wx v19 /\
 ∃ wx_1, Sv qr (some ⟨k2, 0, none⟩) v19 wx wx_1 /\
 ∃ vr0, (qs qr (.pointer (some ⟨k2, 0, none⟩))).run prog wx_1 = .ok vr0 wx_1 /\
 K (.tuple #[vr0, .bool true]) wx_1)
 (∃ I : Nat -> FP [.one (.int .i64)],
 (∃ m, I m (0 : Int) wx) /\
 ∀ m n6, AllJ 57 (∀ wl, I m n6 wl ->
 BCase (decide ((i64.wrap (n6 + (2 : Int))) <= ((List.length s0 : Nat) : Int)))
 (∃ J : FP [],
 (((0 <= n6 /\ n6 < ((List.length s0 : Nat) : Int))) /\
 BCase ((qH s0 n6) != (58 : Int))
 (∃ m' : Nat, m' < m /\ I m' (i64.wrap (n6 + (1 : Int))) wl)
 (((0 <= (i64.wrap (n6 + (1 : Int))) /\ (i64.wrap (n6 + (1 : Int))) < ((List.length s0 : Nat) : Int))) /\
 BCase ((qH s0 (i64.wrap (n6 + (1 : Int)))) != (58 : Int))
 (∃ m' : Nat, m' < m /\ I m' (i64.wrap (n6 + (1 : Int))) wl)
 (J wl))) /\
 AllJ 11 (∀ wj, J wj ->
 ((0 <= n6 /\ n6 <= (((List.length s0) : Nat) : Int))) /\
 ∀ s40, s40 = (List.take (Int.toNat n6) s0) ->
 ((0 <= (i64.wrap (n6 + (2 : Int))) /\ (i64.wrap (n6 + (2 : Int))) <= (((List.length s0) : Nat) : Int))) /\
 ∀ s44, s44 = (List.drop (Int.toNat (i64.wrap (n6 + (2 : Int)))) s0) ->
 ∃ J_1 : FP [.one (.str)],
 (BCase (!(s40 == []))
 (((((List.length s40 + List.length [58] : Nat) : Int) <= i64.max)) /\
 ∀ s48, s48 = (s40 ++ [58]) ->
 J_1 s48 wj)
 (J_1 s40 wj)) /\
 ∀ s7, AllJ 4 (∀ wj_1, J_1 s7 wj_1 ->
 ∃ J_2 : FP [.one (.str)],
 (BCase (!(s44 == []))
 (((((List.length [58] + List.length s44 : Nat) : Int) <= i64.max)) /\
 ∀ s52, s52 = ([58] ++ s44) ->
 J_2 s52 wj_1)
 (J_2 s44 wj_1)) /\
 ∀ s8, AllJ 4 (∀ wj_2, J_2 s8 wj_2 ->
 ∃ I_1 : Nat -> FP [.one (.str), .one (.int .i64)],
 (∃ m_1, I_1 m_1 [48] (0 : Int) wj_2) /\
 ∀ m_1 s9 n10, AllJ 20 (∀ wl_1, I_1 m_1 s9 n10 wl_1 ->
 BCase (decide (n10 < (8 : Int)))
 (((((List.length s7 + List.length s9 : Nat) : Int) <= i64.max)) /\
 ∀ s60, s60 = (s7 ++ s9) ->
 ((((List.length s60 + List.length s8 : Nat) : Int) <= i64.max)) /\
 ∀ s62, s62 = (s60 ++ s8) ->
 Calls prog qjL #[.string (mkS s62)] wl_1 fun e63 w63 => ∃ v63_0 b63_1, e63 = .returned (.tuple #[v63_0, .bool b63_1]) /\
 ∀ k11 w11, k11 = w63.heap.size -> w11 = w63.alloc (.cells jx qr) ->
 ∃ wx_2, Sv qr (some ⟨k11, 0, none⟩) v63_0 w11 wx_2 /\
 BCase b63_1
 (∃ v67, Ld qr (some ⟨k11, 0, none⟩) wx_2 v67 /\
 ∃ wx_3, Sv qr (some ⟨k2, 0, none⟩) v67 wx_2 wx_3 /\
 ∃ vr0_1, (qs qr (.pointer (some ⟨k2, 0, none⟩))).run prog wx_3 = .ok vr0_1 wx_3 /\
 K (.tuple #[vr0_1, .bool true]) wx_3)
 (((((List.length s9 + List.length [58, 48] : Nat) : Int) <= i64.max)) /\
 ∀ s69, s69 = (s9 ++ [58, 48]) ->
 ∃ m'_1 : Nat, m'_1 < m_1 /\ I_1 m'_1 s69 (i64.wrap (n10 + (1 : Int))) wx_2))
 (∃ m' : Nat, m' < m /\ I m' (i64.wrap (n6 + (1 : Int))) wl_1))))))
 (∃ wx_4, Sv qr (some ⟨k2, 0, none⟩) (.agg jx) wl wx_4 /\
 ∃ vr0_2, (qs qr (.pointer (some ⟨k2, 0, none⟩))).run prog wx_4 = .ok vr0_2 wx_4 /\
 K (.tuple #[vr0_2, .bool false]) wx_4)))
theorem qw3 (s0 : List UInt8) {w : World} {K : Value -> World -> Prop} (h : qt1 s0 w K) : Calls prog qq3 #[.string (mkS s0)] w (Ret K) :=
 qm (c := qq Tryz.f138) (by kernel_rfl) Tryz.func138 (by kernel_rfl) [(16, [(6, .one (.int .i64))]), (25, []), (35, [(7, .one (.str))]), (41, [(8, .one (.str))]), (52, [(9, .one (.str)), (10, .one (.int .i64))])] [.string (mkS s0)] (of_decide_eq_true (by kernel_rfl)) _ (by kernel_rfl) h

--  cracknel/cracknelref02.V4
def qt0 (s0 : List UInt8) (w : World) (K : Value -> World -> Prop) : Prop :=
 ∀ k2 w2, k2 = w.heap.size -> w2 = w.alloc (.cells jx qr) ->
 ∀ k4 w4, k4 = w2.heap.size -> w4 = w2.alloc (.cells jx qr) ->
 ∃ wx, Sv qr (some ⟨k4, 0, none⟩) (.agg jx) w4 wx /\
 Calls prog jM #[.string (mkS s0), .int .u8 (46 : Int)] wx fun e11 w11 => ∃ a11 l11 c11, e11 = .returned (.slice a11 l11 c11) /\
 BCase (((l11 : Nat) : Int) != (4 : Int))
 (∃ wx_1, Sv qr (some ⟨k2, 0, none⟩) (.agg jx) w11 wx_1 /\
 ∃ vr0, (qs qr (.pointer (some ⟨k2, 0, none⟩))).run prog wx_1 = .ok vr0 wx_1 /\
 K (.tuple #[vr0, .bool false]) wx_1)
 (∃ I : Nat -> FP [.one (.int .i64)],
 (∃ m, I m (0 : Int) w11) /\
 ∀ m n6, AllJ 27 (∀ wl, I m n6 wl ->
 BCase (decide (n6 < (4 : Int)))
 (((0 <= n6 /\ n6 < ((l11 : Nat) : Int)) /\ Option.isSome a11 = true) /\
 ∃ s24, Ld qh (ql a11 n6 1) wl (.string (mkS s24)) /\
 Calls prog qjd #[.string (mkS s24)] wl fun e25 w25 => ∃ n25_0 b25_1, e25 = .returned (.tuple #[.int .i64 n25_0, .bool b25_1]) /\
 ∃ J : FP [],
 (∃ J_1 : FP [.one (.bool)],
 (BCase (!b25_1)
 (J_1 true w25)
 (J_1 (decide (n25_0 > (255 : Int))) w25)) /\
 ∀ b33, AllJ 5 (∀ wj, J_1 b33 wj ->
 BCase b33
 (∃ wx_2, Sv qr (some ⟨k2, 0, none⟩) (.agg jx) wj wx_2 /\
 ∃ vr0_1, (qs qr (.pointer (some ⟨k2, 0, none⟩))).run prog wx_2 = .ok vr0_1 wx_2 /\
 K (.tuple #[vr0_1, .bool false]) wx_2)
 (J wj))) /\
 AllJ 8 (∀ wj_1, J wj_1 ->
 ((0 <= (i64.wrap ((12 : Int) + n6)) /\ (i64.wrap ((12 : Int) + n6)) < ((16 : Nat) : Int)) /\ true = true) /\
 ∃ wx_3, Sv qU (ql (some ⟨k4, 0, none⟩) (i64.wrap ((12 : Int) + n6)) 1) (.int .u8 (IntKind.u8.wrap n25_0)) wj_1 wx_3 /\
 ∃ m' : Nat, m' < m /\ I m' (i64.wrap (n6 + (1 : Int))) wx_3))
 (∃ v40, Ld qr (some ⟨k4, 0, none⟩) wl v40 /\
 ∃ wx_4, Sv qr (some ⟨k2, 0, none⟩) v40 wl wx_4 /\
 ∃ vr0_2, (qs qr (.pointer (some ⟨k2, 0, none⟩))).run prog wx_4 = .ok vr0_2 wx_4 /\
 K (.tuple #[vr0_2, .bool true]) wx_4)))
theorem qw2 (s0 : List UInt8) {w : World} {K : Value -> World -> Prop} (h : qt0 s0 w K) : Calls prog qq2 #[.string (mkS s0)] w (Ret K) :=
 qm (c := qq Tryz.f141) (by kernel_rfl) Tryz.func141 (by kernel_rfl) [(18, [(6, .one (.int .i64))]), (29, []), (30, [(33, .one (.bool))])] [.string (mkS s0)] (of_decide_eq_true (by kernel_rfl)) _ (by kernel_rfl) h

--  cracknel/cracknelref03.label
def qpf (s0 : List UInt8) (w : World) (K : Value -> World -> Prop) : Prop :=
 ∃ I : Nat -> FP [.one (.int .i64)],
 (∃ m, I m (0 : Int) w) /\
 ∀ m n3, AllJ 33 (∀ wl, I m n3 wl ->
 BCase (decide (n3 < ((List.length s0 : Nat) : Int)))
 (((0 <= n3 /\ n3 < ((List.length s0 : Nat) : Int))) /\
 BCase (decide ((qH s0 n3) < (97 : Int)))
 (BCase (decide ((qH s0 n3) < (48 : Int)))
 (BCase ((qH s0 n3) != (45 : Int))
 (BCase ((qH s0 n3) != (95 : Int))
 (K (.bool false) wl)
 (∃ m' : Nat, m' < m /\ I m' (i64.wrap (n3 + (1 : Int))) wl))
 (∃ m' : Nat, m' < m /\ I m' (i64.wrap (n3 + (1 : Int))) wl))
 (BCase (decide ((qH s0 n3) > (57 : Int)))
 (BCase ((qH s0 n3) != (45 : Int))
 (BCase ((qH s0 n3) != (95 : Int))
 (K (.bool false) wl)
 (∃ m' : Nat, m' < m /\ I m' (i64.wrap (n3 + (1 : Int))) wl))
 (∃ m' : Nat, m' < m /\ I m' (i64.wrap (n3 + (1 : Int))) wl))
 (∃ m' : Nat, m' < m /\ I m' (i64.wrap (n3 + (1 : Int))) wl)))
 (BCase (decide ((qH s0 n3) > (122 : Int)))
 (BCase (decide ((qH s0 n3) < (48 : Int)))
 (BCase ((qH s0 n3) != (45 : Int))
 (BCase ((qH s0 n3) != (95 : Int))
 (K (.bool false) wl)
 (∃ m' : Nat, m' < m /\ I m' (i64.wrap (n3 + (1 : Int))) wl))
 (∃ m' : Nat, m' < m /\ I m' (i64.wrap (n3 + (1 : Int))) wl))
 (BCase (decide ((qH s0 n3) > (57 : Int)))
 (BCase ((qH s0 n3) != (45 : Int))
 (BCase ((qH s0 n3) != (95 : Int))
 (K (.bool false) wl)
 (∃ m' : Nat, m' < m /\ I m' (i64.wrap (n3 + (1 : Int))) wl))
 (∃ m' : Nat, m' < m /\ I m' (i64.wrap (n3 + (1 : Int))) wl))
 (∃ m' : Nat, m' < m /\ I m' (i64.wrap (n3 + (1 : Int))) wl)))
 (∃ m' : Nat, m' < m /\ I m' (i64.wrap (n3 + (1 : Int))) wl)))
 (BCase (decide (((List.length s0 : Nat) : Int) >= (1 : Int)))
 (K (.bool (decide (((List.length s0 : Nat) : Int) <= (63 : Int)))) wl)
 (K (.bool false) wl)))
theorem qtF (s0 : List UInt8) {w : World} {K : Value -> World -> Prop} (h : qpf s0 w K) : Calls prog ql7 #[.string (mkS s0)] w (Ret K) :=
 qm (c := qq Tryz.f142) (by kernel_rfl) Tryz.func142 (by kernel_rfl) [(6, [(3, .one (.int .i64))])] [.string (mkS s0)] (of_decide_eq_true (by kernel_rfl)) _ (by kernel_rfl) h

--  cracknel/cracknelref03.Text
def qtW (s0 : List UInt8) (w : World) (K : Value -> World -> Prop) : Prop :=
 BCase (s0 == [])
 (K (.tuple #[.slice none 0 0, .bool true]) w)
 (Calls prog qe1 #[.string (mkS s0), .int .u8 (58 : Int)] w fun e12 w12 => ∃ a12 l12 c12, e12 = .returned (.slice a12 l12 c12) /\
 ∃ I : Nat -> FP [.one (.slice), .one (.int .i64)],
 (∃ m, I m none 0 0 (0 : Int) w12) /\
 ∀ m a4 l4 c4 n14, AllJ 20 (∀ wl, I m a4 l4 c4 n14 wl ->
 BCase (decide (n14 < ((l12 : Nat) : Int)))
 (((0 <= n14 /\ n14 < ((l12 : Nat) : Int)) /\ Option.isSome a12 = true) /\
 ∃ s17, Ld qh (ql a12 n14 1) wl (.string (mkS s17)) /\
 Calls prog qne #[.string (mkS s17)] wl fun e20 w20 => ∃ n20_0 b20_1, e20 = .returned (.tuple #[.int .u16 n20_0, .bool b20_1]) /\
 BCase (!b20_1)
 (K (.tuple #[.slice none 0 0, .bool false]) w20)
 (∀ k27 w27, k27 = w20.heap.size -> w27 = w20.alloc (.cells #[.int .u16 n20_0] qge) ->
 ∃ w28 a28 l28 c28, (Builtin.append_ #[qei, qei] qei #[.slice a4 l4 c4, .slice (some ⟨k27, 0, none⟩) 1 1]).run prog w27 = .ok (.slice a28 l28 c28) w28 /\
 ∃ m' : Nat, m' < m /\ I m' a28 l28 c28 (i64.wrap (n14 + (1 : Int))) w28))
 (K (.tuple #[.slice a4 l4 c4, .bool true]) wl)))
theorem qwX (s0 : List UInt8) {w : World} {K : Value -> World -> Prop} (h : qtW s0 w K) : Calls prog qoq #[.string (mkS s0)] w (Ret K) :=
 qm (c := qq Tryz.f182) (by kernel_rfl) Tryz.func182 (by kernel_rfl) [(16, [(4, .one (.slice)), (14, .one (.int .i64))])] [.string (mkS s0)] (of_decide_eq_true (by kernel_rfl)) _ (by kernel_rfl) h

--  cracknel/addr.From
def qrJ (n0_0 : Int) (n0_1 : Int) (n0_2 : Int) (n0_3 : Int) (n0_4 : Int) (n0_5 : Int) (n0_6 : Int) (n0_7 : Int) (w : World) (K : Value -> World -> Prop) : Prop :=
 ∀ k1 w1, k1 = w.heap.size -> w1 = w.alloc (.cells #[.int .u16 n0_0, .int .u16 n0_1, .int .u16 n0_2, .int .u16 n0_3, .int .u16 n0_4, .int .u16 n0_5, .int .u16 n0_6, .int .u16 n0_7] zl) ->
 ∀ k2 w2, k2 = w1.heap.size -> w2 = w1.alloc (.cells jx qr) ->
 ∀ k3 w3, k3 = w2.heap.size -> w3 = w2.alloc (.cells jx qr) ->
 ∃ I : Nat -> FP [.one (.int .i64)],
 (∃ m, I m (0 : Int) w3) /\
 ∀ m n5, AllJ 20 (∀ wl, I m n5 wl ->
 BCase (decide (n5 < (8 : Int)))
 (((0 <= n5 /\ n5 < ((8 : Nat) : Int)) /\ true = true) /\
 ((0 <= n5 /\ n5 < ((8 : Nat) : Int)) /\ true = true) /\
 (∃ n15, Ld qge (ql (some ⟨k1, 0, none⟩) n5 1) (World.drew wl) (.int .u16 n15) /\
 (0 <= (8 : Int)) /\
 ((0 <= (i64.wrap ((2 : Int) * n5)) /\ (i64.wrap ((2 : Int) * n5)) < ((16 : Nat) : Int)) /\ true = true) /\
 (∃ n20, Ld qge (ql (some ⟨k1, 0, none⟩) n5 1) (World.drew wl) (.int .u16 n20) /\
 ∃ wx, Sv qU (ql (some ⟨k3, 0, none⟩) (i64.wrap ((2 : Int) * n5)) 1) (.int .u8 (IntKind.u8.wrap (Int.fdiv n15 (2 ^ (min (Int.toNat (8 : Int)) (IntKind.bits .u16)))))) (World.drew wl) wx /\
 ((0 <= (i64.wrap ((i64.wrap ((2 : Int) * n5)) + (1 : Int))) /\ (i64.wrap ((i64.wrap ((2 : Int) * n5)) + (1 : Int))) < ((16 : Nat) : Int)) /\ true = true) /\
 ∃ wx_1, Sv qU (ql (some ⟨k3, 0, none⟩) (i64.wrap ((i64.wrap ((2 : Int) * n5)) + (1 : Int))) 1) (.int .u8 (IntKind.u8.wrap n20)) wx wx_1 /\
 ∃ m' : Nat, m' < m /\ I m' (i64.wrap (n5 + (1 : Int))) wx_1) /\
 ∃ wx_2, Sv qU (ql (some ⟨k3, 0, none⟩) (i64.wrap ((2 : Int) * n5)) 1) (.int .u8 (IntKind.u8.wrap (Int.fdiv n15 (2 ^ (min (Int.toNat (8 : Int)) (IntKind.bits .u16)))))) (World.drew wl) wx_2 /\
 ∃ n20_1, Ld qge (ql (some ⟨k1, 0, none⟩) n5 1) wx_2 (.int .u16 n20_1) /\
 ((0 <= (i64.wrap ((i64.wrap ((2 : Int) * n5)) + (1 : Int))) /\ (i64.wrap ((i64.wrap ((2 : Int) * n5)) + (1 : Int))) < ((16 : Nat) : Int)) /\ true = true) /\
 ∃ wx_3, Sv qU (ql (some ⟨k3, 0, none⟩) (i64.wrap ((i64.wrap ((2 : Int) * n5)) + (1 : Int))) 1) (.int .u8 (IntKind.u8.wrap n20_1)) wx_2 wx_3 /\
 ∃ m' : Nat, m' < m /\ I m' (i64.wrap (n5 + (1 : Int))) wx_3) /\
 ∃ n20_2, Ld qge (ql (some ⟨k1, 0, none⟩) n5 1) (World.drew wl) (.int .u16 n20_2) /\
 ∃ n15_1, Ld qge (ql (some ⟨k1, 0, none⟩) n5 1) (World.drew wl) (.int .u16 n15_1) /\
 (0 <= (8 : Int)) /\
 ((0 <= (i64.wrap ((2 : Int) * n5)) /\ (i64.wrap ((2 : Int) * n5)) < ((16 : Nat) : Int)) /\ true = true) /\
 ∃ wx_4, Sv qU (ql (some ⟨k3, 0, none⟩) (i64.wrap ((2 : Int) * n5)) 1) (.int .u8 (IntKind.u8.wrap (Int.fdiv n15_1 (2 ^ (min (Int.toNat (8 : Int)) (IntKind.bits .u16)))))) (World.drew wl) wx_4 /\
 ((0 <= (i64.wrap ((i64.wrap ((2 : Int) * n5)) + (1 : Int))) /\ (i64.wrap ((i64.wrap ((2 : Int) * n5)) + (1 : Int))) < ((16 : Nat) : Int)) /\ true = true) /\
 ∃ wx_5, Sv qU (ql (some ⟨k3, 0, none⟩) (i64.wrap ((i64.wrap ((2 : Int) * n5)) + (1 : Int))) 1) (.int .u8 (IntKind.u8.wrap n20_2)) wx_4 wx_5 /\
 ∃ m' : Nat, m' < m /\ I m' (i64.wrap (n5 + (1 : Int))) wx_5)
 (∃ v25, Ld qr (some ⟨k3, 0, none⟩) wl v25 /\
 ∃ wx_6, Sv qr (some ⟨k2, 0, none⟩) v25 wl wx_6 /\
 ∃ vr0, (qs qr (.pointer (some ⟨k2, 0, none⟩))).run prog wx_6 = .ok vr0 wx_6 /\
 K vr0 wx_6))
theorem qv5 (n0_0 : Int) (n0_1 : Int) (n0_2 : Int) (n0_3 : Int) (n0_4 : Int) (n0_5 : Int) (n0_6 : Int) (n0_7 : Int) {w : World} {K : Value -> World -> Prop} (h : qrJ n0_0 n0_1 n0_2 n0_3 n0_4 n0_5 n0_6 n0_7 w K) : Calls prog qpr #[.agg #[.int .u16 n0_0, .int .u16 n0_1, .int .u16 n0_2, .int .u16 n0_3, .int .u16 n0_4, .int .u16 n0_5, .int .u16 n0_6, .int .u16 n0_7]] w (Ret K) :=
 qm (c := qq Tryz.f183) (by kernel_rfl) Tryz.func183 (by kernel_rfl) [(8, [(5, .one (.int .i64))])] [.agg #[.int .u16 n0_0, .int .u16 n0_1, .int .u16 n0_2, .int .u16 n0_3, .int .u16 n0_4, .int .u16 n0_5, .int .u16 n0_6, .int .u16 n0_7]] (of_decide_eq_true (by kernel_rfl)) _ (by kernel_rfl) h

--  cracknel/host.label$1
def qmM (n0 : Int) (w : World) (K : Value -> World -> Prop) : Prop :=
 Calls prog ql2 #[.int .u8 n0] w fun e4 w4 => ∃ b4, e4 = .returned (.bool b4) /\
 K (.bool (!b4)) w4
theorem qrh (n0 : Int) {w : World} {K : Value -> World -> Prop} (h : qmM n0 w K) : Calls prog qdt #[.int .u8 n0] w (Ret K) :=
 qm (c := qq Tryz.f187) (by kernel_rfl) Tryz.func187 (by kernel_rfl) [] [.int .u8 n0] (of_decide_eq_true (by kernel_rfl)) _ (by kernel_rfl) h

--  cracknel/host.letter
def qo2 (n0 : Int) (w : World) (K : Value -> World -> Prop) : Prop :=
 BCase (decide (n0 >= (97 : Int)))
 (BCase (decide (n0 <= (122 : Int)))
 (K (.bool true) w)
 (BCase (decide (n0 >= (48 : Int)))
 (BCase (decide (n0 <= (57 : Int)))
 (K (.bool true) w)
 (BCase (n0 == (45 : Int))
 (K (.bool true) w)
 (K (.bool (n0 == (95 : Int))) w)))
 (BCase (n0 == (45 : Int))
 (K (.bool true) w)
 (K (.bool (n0 == (95 : Int))) w))))
 (BCase (decide (n0 >= (48 : Int)))
 (BCase (decide (n0 <= (57 : Int)))
 (K (.bool true) w)
 (BCase (n0 == (45 : Int))
 (K (.bool true) w)
 (K (.bool (n0 == (95 : Int))) w)))
 (BCase (n0 == (45 : Int))
 (K (.bool true) w)
 (K (.bool (n0 == (95 : Int))) w)))
theorem qtr (n0 : Int) {w : World} {K : Value -> World -> Prop} (h : qo2 n0 w K) : Calls prog ql2 #[.int .u8 n0] w (Ret K) :=
 qm (c := qq Tryz.f188) (by kernel_rfl) Tryz.func188 (by kernel_rfl) [] [.int .u8 n0] (of_decide_eq_true (by kernel_rfl)) _ (by kernel_rfl) h

--  cracknel/addr.Groups
def qoV (v0 : Value) (w : World) (K : Value -> World -> Prop) : Prop :=
 ∀ k1 w1, k1 = w.heap.size -> w1 = w.alloc (.cells (Value.cells v0) qr) ->
 ∀ k2 w2, k2 = w1.heap.size -> w2 = w1.alloc (.cells #[.int .u16 (0 : Int), .int .u16 (0 : Int), .int .u16 (0 : Int), .int .u16 (0 : Int), .int .u16 (0 : Int), .int .u16 (0 : Int), .int .u16 (0 : Int), .int .u16 (0 : Int)] zl) ->
 ∀ k3 w3, k3 = w2.heap.size -> w3 = w2.alloc (.cells #[.int .u16 (0 : Int), .int .u16 (0 : Int), .int .u16 (0 : Int), .int .u16 (0 : Int), .int .u16 (0 : Int), .int .u16 (0 : Int), .int .u16 (0 : Int), .int .u16 (0 : Int)] zl) ->
 ∃ I : Nat -> FP [.one (.int .i64)],
 (∃ m, I m (0 : Int) w3) /\
 ∀ m n5, AllJ 19 (∀ wl, I m n5 wl ->
 BCase (decide (n5 < (8 : Int)))
 (((0 <= (i64.wrap ((2 : Int) * n5)) /\ (i64.wrap ((2 : Int) * n5)) < ((16 : Nat) : Int)) /\ true = true) /\
 ∃ n12, (∀ u12, Below wl.heap.size wl u12 -> Ld qU (ql (some ⟨k1, 0, none⟩) (i64.wrap ((2 : Int) * n5)) 1) u12 (.int .u8 n12)) /\
 (0 <= (8 : Int)) /\
 ((0 <= (i64.wrap ((i64.wrap ((2 : Int) * n5)) + (1 : Int))) /\ (i64.wrap ((i64.wrap ((2 : Int) * n5)) + (1 : Int))) < ((16 : Nat) : Int)) /\ true = true) /\
 ∃ n19, (∀ u19, Below wl.heap.size wl u19 -> Ld qU (ql (some ⟨k1, 0, none⟩) (i64.wrap ((i64.wrap ((2 : Int) * n5)) + (1 : Int))) 1) u19 (.int .u8 n19)) /\
 ((0 <= n5 /\ n5 < ((8 : Nat) : Int)) /\ true = true) /\
 ∀ wq, Below wl.heap.size wl wq ->
 ∃ wx, Sv qge (ql (some ⟨k3, 0, none⟩) n5 1) (.int .u16 (IntKind.u16.wrap (((BitVec.ofInt (IntKind.bits .u16) (IntKind.u16.wrap ((IntKind.u16.wrap n12) * 2 ^ (min (Int.toNat (8 : Int)) (IntKind.bits .u16))))) ||| (BitVec.ofInt (IntKind.bits .u16) (IntKind.u16.wrap n19))).toNat : Nat))) wq wx /\
 ∃ m' : Nat, m' < m /\ I m' (i64.wrap (n5 + (1 : Int))) wx)
 (∃ n24_0 n24_1 n24_2 n24_3 n24_4 n24_5 n24_6 n24_7, Ld zl (some ⟨k3, 0, none⟩) wl (.agg #[.int .u16 n24_0, .int .u16 n24_1, .int .u16 n24_2, .int .u16 n24_3, .int .u16 n24_4, .int .u16 n24_5, .int .u16 n24_6, .int .u16 n24_7]) /\
 ∃ wx_1, Sv zl (some ⟨k2, 0, none⟩) (.agg #[.int .u16 n24_0, .int .u16 n24_1, .int .u16 n24_2, .int .u16 n24_3, .int .u16 n24_4, .int .u16 n24_5, .int .u16 n24_6, .int .u16 n24_7]) wl wx_1 /\
 ∃ nr0_0 nr0_1 nr0_2 nr0_3 nr0_4 nr0_5 nr0_6 nr0_7, (qs zl (.pointer (some ⟨k2, 0, none⟩))).run prog wx_1 = .ok (.agg #[.int .u16 nr0_0, .int .u16 nr0_1, .int .u16 nr0_2, .int .u16 nr0_3, .int .u16 nr0_4, .int .u16 nr0_5, .int .u16 nr0_6, .int .u16 nr0_7]) wx_1 /\
 K (.agg #[.int .u16 nr0_0, .int .u16 nr0_1, .int .u16 nr0_2, .int .u16 nr0_3, .int .u16 nr0_4, .int .u16 nr0_5, .int .u16 nr0_6, .int .u16 nr0_7]) wx_1))
theorem qtk (v0 : Value) {w : World} {K : Value -> World -> Prop} (h : qoV v0 w K) : Calls prog qlY #[v0] w (Ret K) :=
 qm (c := qq Tryz.f200) (by kernel_rfl) Tryz.func200 (by kernel_rfl) [(8, [(5, .one (.int .i64))]), (2000019, [(15, .one (.bool))])] [v0] (of_decide_eq_true (by kernel_rfl)) _ (by kernel_rfl) h

--  cracknel/addr.zeros
def qqF (n0_0 : Int) (n0_1 : Int) (n0_2 : Int) (n0_3 : Int) (n0_4 : Int) (n0_5 : Int) (n0_6 : Int) (n0_7 : Int) (w : World) (K : Value -> World -> Prop) : Prop :=
 ∀ k1 w1, k1 = w.heap.size -> w1 = w.alloc (.cells #[.int .u16 n0_0, .int .u16 n0_1, .int .u16 n0_2, .int .u16 n0_3, .int .u16 n0_4, .int .u16 n0_5, .int .u16 n0_6, .int .u16 n0_7] zl) ->
 ∃ I : Nat -> FP [.one (.int .i64), .one (.int .i64), .one (.int .i64), .one (.int .i64)],
 (∃ m, I m (0 : Int) (0 : Int) (0 : Int) (0 : Int) w1) /\
 ∀ m n4 n5 n6 n8, AllJ 18 (∀ wl, I m n4 n5 n6 n8 wl ->
 BCase (decide (n8 < (8 : Int)))
 (∃ J : FP [.one (.int .i64)],
 (((0 <= n8 /\ n8 < ((8 : Nat) : Int)) /\ true = true) /\
 ∃ n15, Ld qge (ql (some ⟨k1, 0, none⟩) n8 1) wl (.int .u16 n15) /\
 BCase (n15 != (0 : Int))
 (J (0 : Int) wl)
 (J (i64.wrap (n6 + (1 : Int))) wl)) /\
 ∀ n6_1, AllJ 4 (∀ wj, J n6_1 wj ->
 BCase (decide (n6_1 > n5))
 (∃ m' : Nat, m' < m /\ I m' (i64.wrap ((i64.wrap (n8 + (1 : Int))) - n6_1)) n6_1 n6_1 (i64.wrap (n8 + (1 : Int))) wj)
 (∃ m' : Nat, m' < m /\ I m' n4 n5 n6_1 (i64.wrap (n8 + (1 : Int))) wj)))
 (K (.tuple #[.int .i64 n4, .int .i64 n5]) wl))
theorem quv (n0_0 : Int) (n0_1 : Int) (n0_2 : Int) (n0_3 : Int) (n0_4 : Int) (n0_5 : Int) (n0_6 : Int) (n0_7 : Int) {w : World} {K : Value -> World -> Prop} (h : qqF n0_0 n0_1 n0_2 n0_3 n0_4 n0_5 n0_6 n0_7 w K) : Calls prog qnf #[.agg #[.int .u16 n0_0, .int .u16 n0_1, .int .u16 n0_2, .int .u16 n0_3, .int .u16 n0_4, .int .u16 n0_5, .int .u16 n0_6, .int .u16 n0_7]] w (Ret K) :=
 qm (c := qq Tryz.f201) (by kernel_rfl) Tryz.func201 (by kernel_rfl) [(8, [(4, .one (.int .i64)), (5, .one (.int .i64)), (6, .one (.int .i64)), (8, .one (.int .i64))]), (21, [(6, .one (.int .i64))])] [.agg #[.int .u16 n0_0, .int .u16 n0_1, .int .u16 n0_2, .int .u16 n0_3, .int .u16 n0_4, .int .u16 n0_5, .int .u16 n0_6, .int .u16 n0_7]] (of_decide_eq_true (by kernel_rfl)) _ (by kernel_rfl) h

--  cracknel/addr.written
def qn3 (a0 : Option Addr) (l0 c0 : Nat) (w : World) (K : Value -> World -> Prop) : Prop :=
 ∃ I : Nat -> FP [.one (.slice), .one (.int .i64)],
 (∃ m, I m none 0 0 (0 : Int) w) /\
 ∀ m a3 l3 c3 n8, AllJ 11 (∀ wl, I m a3 l3 c3 n8 wl ->
 BCase (decide (n8 < ((l0 : Nat) : Int)))
 (((0 <= n8 /\ n8 < ((l0 : Nat) : Int)) /\ Option.isSome a0 = true) /\
 ∃ n11, Ld qge (ql a0 n8 1) wl (.int .u16 n11) /\
 Calls prog qhM #[.int .u64 (IntKind.u64.wrap n11), .int .i64 (16 : Int)] wl fun e15 w15 => ∃ s15, e15 = .returned (.string (mkS s15)) /\
 ∀ k16 w16, k16 = w15.heap.size -> w16 = w15.alloc (.cells #[.string (mkS s15)] qh) ->
 ∃ w17 a17 l17 c17, (Builtin.append_ #[qV, qV] qV #[.slice a3 l3 c3, .slice (some ⟨k16, 0, none⟩) 1 1]).run prog w16 = .ok (.slice a17 l17 c17) w17 /\
 ∃ m' : Nat, m' < m /\ I m' a17 l17 c17 (i64.wrap (n8 + (1 : Int))) w17)
 (Calls prog qct #[.slice a3 l3 c3, .string (mkS [58])] wl fun e20 w20 => ∃ s20, e20 = .returned (.string (mkS s20)) /\
 K (.string (mkS s20)) w20))
theorem qr3 (a0 : Option Addr) (l0 c0 : Nat) {w : World} {K : Value -> World -> Prop} (h : qn3 a0 l0 c0 w K) : Calls prog qhS #[.slice a0 l0 c0] w (Ret K) :=
 qm (c := qq Tryz.f202) (by kernel_rfl) Tryz.func202 (by kernel_rfl) [(8, [(3, .one (.slice)), (8, .one (.int .i64))])] [.slice a0 l0 c0] (of_decide_eq_true (by kernel_rfl)) _ (by kernel_rfl) h

--  cracknel/cracknelref02.eight
def qpd (s0 : List UInt8) (w : World) (K : Value -> World -> Prop) : Prop :=
 ∀ k2 w2, k2 = w.heap.size -> w2 = w.alloc (.cells jx qr) ->
 ∀ k4 w4, k4 = w2.heap.size -> w4 = w2.alloc (.cells jx qr) ->
 ∃ wx, Sv qr (some ⟨k4, 0, none⟩) (.agg jx) w4 wx /\
 Calls prog jM #[.string (mkS s0), .int .u8 (58 : Int)] wx fun e12 w12 => ∃ a12 l12 c12, e12 = .returned (.slice a12 l12 c12) /\
 BCase (((l12 : Nat) : Int) != (8 : Int))
 (∃ wx_1, Sv qr (some ⟨k2, 0, none⟩) (.agg jx) w12 wx_1 /\
 ∃ vr0, (qs qr (.pointer (some ⟨k2, 0, none⟩))).run prog wx_1 = .ok vr0 wx_1 /\
 K (.tuple #[vr0, .bool false]) wx_1)
 (∃ I : Nat -> FP [.one (.int .i64)],
 (∃ m, I m (0 : Int) w12) /\
 ∀ m n6, AllJ 59 (∀ wl, I m n6 wl ->
 BCase (decide (n6 < (8 : Int)))
 (∃ J : FP [],
 (∃ J_1 : FP [.one (.bool)],
 (((0 <= n6 /\ n6 < ((l12 : Nat) : Int)) /\ Option.isSome a12 = true) /\
 ∃ s24, Ld qh (ql a12 n6 1) wl (.string (mkS s24)) /\
 BCase (decide (((List.length s24 : Nat) : Int) < (1 : Int)))
 (J_1 true wl)
 (((0 <= n6 /\ n6 < ((l12 : Nat) : Int)) /\ Option.isSome a12 = true) /\
 ∃ s31, Ld qh (ql a12 n6 1) wl (.string (mkS s31)) /\
 J_1 (decide (((List.length s31 : Nat) : Int) > (4 : Int))) wl)) /\
 ∀ b34, AllJ 13 (∀ wj, J_1 b34 wj ->
 BCase b34
 (∃ wx_2, Sv qr (some ⟨k2, 0, none⟩) (.agg jx) wj wx_2 /\
 ∃ vr0_1, (qs qr (.pointer (some ⟨k2, 0, none⟩))).run prog wx_2 = .ok vr0_1 wx_2 /\
 K (.tuple #[vr0_1, .bool false]) wx_2)
 (J wj))) /\
 AllJ 16 (∀ wj_1, J wj_1 ->
 ∃ I_1 : Nat -> FP [.one (.int .i64), .one (.int .i64)],
 (∃ m_1, I_1 m_1 (0 : Int) (0 : Int) wj_1) /\
 ∀ m_1 n7 n8, AllJ 25 (∀ wl_1, I_1 m_1 n7 n8 wl_1 ->
 ((0 <= n6 /\ n6 < ((l12 : Nat) : Int)) /\ Option.isSome a12 = true) /\
 ∃ s40, Ld qh (ql a12 n6 1) wl_1 (.string (mkS s40)) /\
 BCase (decide (n8 < ((List.length s40 : Nat) : Int)))
 (((0 <= n6 /\ n6 < ((l12 : Nat) : Int)) /\ Option.isSome a12 = true) /\
 ∃ s48, Ld qh (ql a12 n6 1) wl_1 (.string (mkS s48)) /\
 ((0 <= n8 /\ n8 < ((List.length s48 : Nat) : Int))) /\
 Calls prog ql6 #[.int .u8 (qH s48 n8)] wl_1 fun e51 w51 => ∃ n51, e51 = .returned (.int .i64 n51) /\
 BCase (decide (n51 < (0 : Int)))
 (∃ wx_3, Sv qr (some ⟨k2, 0, none⟩) (.agg jx) w51 wx_3 /\
 ∃ vr0_2, (qs qr (.pointer (some ⟨k2, 0, none⟩))).run prog wx_3 = .ok vr0_2 wx_3 /\
 K (.tuple #[vr0_2, .bool false]) wx_3)
 (∃ m'_1 : Nat, m'_1 < m_1 /\ I_1 m'_1 (i64.wrap ((i64.wrap (n7 * (16 : Int))) + n51)) (i64.wrap (n8 + (1 : Int))) w51))
 (((256 : Int) ≠ 0) /\
 ∀ q62, q62 = (i64.wrap (Int.tdiv n7 (256 : Int))) ->
 ((0 <= (i64.wrap ((2 : Int) * n6)) /\ (i64.wrap ((2 : Int) * n6)) < ((16 : Nat) : Int)) /\ true = true) /\
 ∃ wx_4, Sv qU (ql (some ⟨k4, 0, none⟩) (i64.wrap ((2 : Int) * n6)) 1) (.int .u8 (IntKind.u8.wrap q62)) wl_1 wx_4 /\
 ((256 : Int) ≠ 0) /\
 ∀ q69, q69 = (Int.tmod n7 (256 : Int)) ->
 ((0 <= (i64.wrap ((i64.wrap ((2 : Int) * n6)) + (1 : Int))) /\ (i64.wrap ((i64.wrap ((2 : Int) * n6)) + (1 : Int))) < ((16 : Nat) : Int)) /\ true = true) /\
 ∃ wx_5, Sv qU (ql (some ⟨k4, 0, none⟩) (i64.wrap ((i64.wrap ((2 : Int) * n6)) + (1 : Int))) 1) (.int .u8 (IntKind.u8.wrap q69)) wx_4 wx_5 /\
 ∃ m' : Nat, m' < m /\ I m' (i64.wrap (n6 + (1 : Int))) wx_5))))
 (∃ v72, Ld qr (some ⟨k4, 0, none⟩) wl v72 /\
 ∃ wx_6, Sv qr (some ⟨k2, 0, none⟩) v72 wl wx_6 /\
 ∃ vr0_3, (qs qr (.pointer (some ⟨k2, 0, none⟩))).run prog wx_6 = .ok vr0_3 wx_6 /\
 K (.tuple #[vr0_3, .bool true]) wx_6)))
theorem qtD (s0 : List UInt8) {w : World} {K : Value -> World -> Prop} (h : qpd s0 w K) : Calls prog qjL #[.string (mkS s0)] w (Ret K) :=
 qm (c := qq Tryz.f203) (by kernel_rfl) Tryz.func203 (by kernel_rfl) [(18, [(6, .one (.int .i64))]), (29, []), (30, [(34, .one (.bool))]), (41, [(7, .one (.int .i64)), (8, .one (.int .i64))])] [.string (mkS s0)] (of_decide_eq_true (by kernel_rfl)) _ (by kernel_rfl) h

--  cracknel/cracknelref02.Text4
def qqE (s0 : List UInt8) (w : World) (K : Value -> World -> Prop) : Prop :=
 ∃ J : FP [],
 (BCase (decide (((List.length s0 : Nat) : Int) < (1 : Int)))
 (K (.tuple #[.int .u16 (0 : Int), .bool false]) w)
 (BCase (decide (((List.length s0 : Nat) : Int) > (4 : Int)))
 (K (.tuple #[.int .u16 (0 : Int), .bool false]) w)
 (J w))) /\
 AllJ 10 (∀ wj, J wj ->
 Calls prog qd8 #[.string (mkS s0)] wj fun e17 w17 => ∃ s17, e17 = .returned (.string (mkS s17)) /\
 ∃ w18 a18 l18 c18, (convert qh za (.string (mkS s17))).run prog w17 = .ok (.slice a18 l18 c18) w18 /\
 ∃ I : Nat -> FP [.one (.int .u16), .one (.int .i64)],
 (∃ m, I m (0 : Int) (0 : Int) w18) /\
 ∀ m n4 n20, AllJ 17 (∀ wl, I m n4 n20 wl ->
 BCase (decide (n20 < ((l18 : Nat) : Int)))
 (((0 <= n20 /\ n20 < ((l18 : Nat) : Int)) /\ Option.isSome a18 = true) /\
 ∃ n23, Ld qU (ql a18 n20 1) wl (.int .u8 n23) /\
 Calls prog qpw #[.string (mkS [48, 49, 50, 51, 52, 53, 54, 55, 56, 57, 97, 98, 99, 100, 101, 102]), .int .u8 n23] wl fun e25 w25 => ∃ n25, e25 = .returned (.int .i64 n25) /\
 BCase (decide (n25 < (0 : Int)))
 (K (.tuple #[.int .u16 (0 : Int), .bool false]) w25)
 ((0 <= (4 : Int)) /\
 ∃ m' : Nat, m' < m /\ I m' (IntKind.u16.wrap (((BitVec.ofInt (IntKind.bits .u16) (IntKind.u16.wrap (n4 * 2 ^ (min (Int.toNat (4 : Int)) (IntKind.bits .u16))))) ||| (BitVec.ofInt (IntKind.bits .u16) (IntKind.u16.wrap n25))).toNat : Nat)) (i64.wrap (n20 + (1 : Int))) w25))
 (K (.tuple #[.int .u16 n4, .bool true]) wl)))
theorem quu (s0 : List UInt8) {w : World} {K : Value -> World -> Prop} (h : qqE s0 w K) : Calls prog qne #[.string (mkS s0)] w (Ret K) :=
 qm (c := qq Tryz.f230) (by kernel_rfl) Tryz.func230 (by kernel_rfl) [(2, []), (16, [(4, .one (.int .u16)), (20, .one (.int .i64))])] [.string (mkS s0)] (of_decide_eq_true (by kernel_rfl)) _ (by kernel_rfl) h

--  cracknel/cracknelref02.digit
def qpc (n0 : Int) (w : World) (K : Value -> World -> Prop) : Prop :=
 ∃ J : FP [],
 (∃ J_1 : FP [.one (.bool)],
 (BCase (decide (n0 >= (48 : Int)))
 (J_1 (decide (n0 <= (57 : Int))) w)
 (J_1 false w)) /\
 ∀ b8, AllJ 5 (∀ wj, J_1 b8 wj ->
 BCase b8
 (K (.int .i64 (i64.wrap ((i64.wrap n0) - (48 : Int)))) wj)
 (J wj))) /\
 AllJ 10 (∀ wj_1, J wj_1 ->
 ∃ J_2 : FP [],
 (∃ J_3 : FP [.one (.bool)],
 (BCase (decide (n0 >= (97 : Int)))
 (J_3 (decide (n0 <= (102 : Int))) wj_1)
 (J_3 false wj_1)) /\
 ∀ b17, AllJ 5 (∀ wj_2, J_3 b17 wj_2 ->
 BCase b17
 (K (.int .i64 (i64.wrap ((i64.wrap n0) - (87 : Int)))) wj_2)
 (J_2 wj_2))) /\
 AllJ 10 (∀ wj_3, J_2 wj_3 ->
 ∃ J_4 : FP [.one (.bool)],
 (BCase (decide (n0 >= (65 : Int)))
 (J_4 (decide (n0 <= (70 : Int))) wj_3)
 (J_4 false wj_3)) /\
 ∀ b26, AllJ 5 (∀ wj_4, J_4 b26 wj_4 ->
 BCase b26
 (K (.int .i64 (i64.wrap ((i64.wrap n0) - (55 : Int)))) wj_4)
 (K (.int .i64 (-1 : Int)) wj_4))))
theorem qtC (n0 : Int) {w : World} {K : Value -> World -> Prop} (h : qpc n0 w K) : Calls prog ql6 #[.int .u8 n0] w (Ret K) :=
 qm (c := qq Tryz.f246) (by kernel_rfl) Tryz.func246 (by kernel_rfl) [(2, []), (3, [(8, .one (.bool))]), (10, []), (11, [(17, .one (.bool))]), (19, [(26, .one (.bool))])] [.int .u8 n0] (of_decide_eq_true (by kernel_rfl)) _ (by kernel_rfl) h

--  cracknel/cracknelref03.Tail
def qbt (a0 : Option Addr) (l0 c0 : Nat) (w : World) (K : Value -> World -> Prop) : Prop :=
 Calls prog qfJ #[.slice a0 l0 c0, .func (.func qcx) #[] #[]] w fun e7 w7 => ∃ n7, e7 = .returned (.int .i64 n7) /\
 K (.bool (decide (n7 >= (0 : Int)))) w7
theorem qeM (a0 : Option Addr) (l0 c0 : Nat) {w : World} {K : Value -> World -> Prop} (h : qbt a0 l0 c0 w K) : Calls prog qcg #[.slice a0 l0 c0, .func (.func qcx) #[] #[]] w (Ret K) :=
 qm (c := qq Tryz.f115) (by kernel_rfl) Tryz.func115 (by kernel_rfl) [] [.slice a0 l0 c0, .func (.func qcx) #[] #[]] (of_decide_eq_true (by kernel_rfl)) _ (by kernel_rfl) h

--  slices.IndexFunc[[]string,string]
def qb8 (a0 : Option Addr) (l0 c0 : Nat) (w : World) (K : Value -> World -> Prop) : Prop :=
 ∃ I : Nat -> FP [.one (.int .i64)],
 (∃ m, I m (0 : Int) w) /\
 ∀ m n8, AllJ 12 (∀ wl, I m n8 wl ->
 BCase (decide (n8 < ((l0 : Nat) : Int)))
 (((0 <= n8 /\ n8 < ((l0 : Nat) : Int)) /\ Option.isSome a0 = true) /\
 ∃ s15, Ld qh (ql a0 n8 1) wl (.string (mkS s15)) /\
 Calls prog qcx #[.string (mkS s15)] wl fun e16 w16 => ∃ b16, e16 = .returned (.bool b16) /\
 BCase b16
 (K (.int .i64 n8) w16)
 (∃ m' : Nat, m' < m /\ I m' (i64.wrap (n8 + (1 : Int))) w16))
 (K (.int .i64 (-1 : Int)) wl))
theorem qe7 (a0 : Option Addr) (l0 c0 : Nat) {w : World} {K : Value -> World -> Prop} (h : qb8 a0 l0 c0 w K) : Calls prog qfJ #[.slice a0 l0 c0, .func (.func qcx) #[] #[]] w (Ret K) :=
 qm (c := qq Tryz.f185) (by kernel_rfl) Tryz.func185 (by kernel_rfl) [(6, [(8, .one (.int .i64))])] [.slice a0 l0 c0, .func (.func qcx) #[] #[]] (of_decide_eq_true (by kernel_rfl)) _ (by kernel_rfl) h

--  slices.ContainsFunc[[]byte,byte]
def qca (a0 : Option Addr) (l0 c0 : Nat) (w : World) (K : Value -> World -> Prop) : Prop :=
 Calls prog qg1 #[.slice a0 l0 c0, .func (.func qdt) #[] #[]] w fun e7 w7 => ∃ n7, e7 = .returned (.int .i64 n7) /\
 K (.bool (decide (n7 >= (0 : Int)))) w7
theorem qfI (a0 : Option Addr) (l0 c0 : Nat) {w : World} {K : Value -> World -> Prop} (h : qca a0 l0 c0 w K) : Calls prog qfT #[.slice a0 l0 c0, .func (.func qdt) #[] #[]] w (Ret K) :=
 qm (c := qq Tryz.f186) (by kernel_rfl) Tryz.func186 (by kernel_rfl) [] [.slice a0 l0 c0, .func (.func qdt) #[] #[]] (of_decide_eq_true (by kernel_rfl)) _ (by kernel_rfl) h

--  slices.IndexFunc[[]byte,byte]
def qc2 (a0 : Option Addr) (l0 c0 : Nat) (w : World) (K : Value -> World -> Prop) : Prop :=
 ∃ I : Nat -> FP [.one (.int .i64)],
 (∃ m, I m (0 : Int) w) /\
 ∀ m n8, AllJ 12 (∀ wl, I m n8 wl ->
 BCase (decide (n8 < ((l0 : Nat) : Int)))
 (((0 <= n8 /\ n8 < ((l0 : Nat) : Int)) /\ Option.isSome a0 = true) /\
 ∃ n15, Ld qU (ql a0 n8 1) wl (.int .u8 n15) /\
 Calls prog qdt #[.int .u8 n15] wl fun e16 w16 => ∃ b16, e16 = .returned (.bool b16) /\
 BCase b16
 (K (.int .i64 n8) w16)
 (∃ m' : Nat, m' < m /\ I m' (i64.wrap (n8 + (1 : Int))) w16))
 (K (.int .i64 (-1 : Int)) wl))
theorem qf6 (a0 : Option Addr) (l0 c0 : Nat) {w : World} {K : Value -> World -> Prop} (h : qc2 a0 l0 c0 w K) : Calls prog qg1 #[.slice a0 l0 c0, .func (.func qdt) #[] #[]] w (Ret K) :=
 qm (c := qq Tryz.f231) (by kernel_rfl) Tryz.func231 (by kernel_rfl) [(6, [(8, .one (.int .i64))])] [.slice a0 l0 c0, .func (.func qdt) #[] #[]] (of_decide_eq_true (by kernel_rfl)) _ (by kernel_rfl) h

--  strconv.FormatUint
def qju (n0 : Int) (n1 : Int) (w : World) (K : Value -> World -> Prop) : Prop :=
 Calls prog qgO #[.int .u64 n0, .int .i64 n1] w fun e7 w7 => ∃ s7, e7 = .returned (.string (mkS s7)) /\
 K (.string (mkS s7)) w7
theorem qm0 (n0 : Int) (n1 : Int) {w : World} {K : Value -> World -> Prop} (h : qju n0 n1 w K) : Calls prog qhM #[.int .u64 n0, .int .i64 n1] w (Ret K) :=
 qm (c := qq Tryz.f245) (by kernel_rfl) Tryz.func245 (by kernel_rfl) [] [.int .u64 n0, .int .i64 n1] (of_decide_eq_true (by kernel_rfl)) _ (by kernel_rfl) h

--  internal/strconv.FormatUint
def qgc (n0 : Int) (n1 : Int) (w : World) (K : Value -> World -> Prop) : Prop :=
 BCase (n1 == (10 : Int))
 (BCase (decide (n0 < (100 : Int)))
 (Calls prog qlq #[.int .i64 (i64.wrap n0)] w fun e15 w15 => ∃ s15, e15 = .returned (.string (mkS s15)) /\
 K (.string (mkS s15)) w15)
 (∀ k5 w5, k5 = w.heap.size -> w5 = w.alloc (.cells qvo qvm) ->
 Calls prog qjK #[.int .u64 n0] w5 fun e17 w17 => ∃ n17, e17 = .returned (.int .i64 n17) /\
 ((0 <= n17 /\ n17 <= ((24 : Nat) : Int))) /\
 Calls prog qi0 #[.slice (some ⟨k5, 0, none⟩) (Int.toNat n17) 24, .int .u64 n0] w17 fun e21 w21 => e21 = .returned (.tuple #[]) /\
 ((0 <= n17 /\ n17 <= ((24 : Nat) : Int))) /\
 ∃ s24, (convert za qh (.slice (some ⟨k5, 0, none⟩) (Int.toNat n17) 24)).run prog w21 = .ok (.string (mkS s24)) w21 /\
 K (.string (mkS s24)) w21))
 (Calls prog qdP #[.slice none 0 0, .int .u64 n0, .int .i64 n1, .bool false, .bool false] w fun e28 w28 => ∃ a28_0 l28_0 c28_0 s28_1, e28 = .returned (.tuple #[.slice a28_0 l28_0 c28_0, .string (mkS s28_1)]) /\
 K (.string (mkS s28_1)) w28)
theorem qi6 (n0 : Int) (n1 : Int) {w : World} {K : Value -> World -> Prop} (h : qgc n0 n1 w K) : Calls prog qgO #[.int .u64 n0, .int .i64 n1] w (Ret K) :=
 qm (c := qq Tryz.f275) (by kernel_rfl) Tryz.func275 (by kernel_rfl) [] [.int .u64 n0, .int .i64 n1] (of_decide_eq_true (by kernel_rfl)) _ (by kernel_rfl) h

--  internal/strconv.formatBits
def qgd (a0 : Option Addr) (l0 c0 : Nat) (n1 : Int) (n2 : Int) (b3 : Bool) (b4 : Bool) (w : World) (K : Value -> World -> Prop) : Prop :=
 ∃ J : FP [],
 (∃ J_1 : FP [.one (.bool)],
 (BCase (decide (n2 < (2 : Int)))
 (J_1 true w)
 (BCase (n2 == (10 : Int))
 (J_1 true w)
 (J_1 (decide (n2 > (36 : Int))) w))) /\
 ∀ b28, AllJ 9 (∀ wj, J_1 b28 wj ->
 BCase b28
 (False)
 (J wj))) /\
 AllJ 11 (∀ wj_1, J wj_1 ->
 ∀ k12 w12, k12 = wj_1.heap.size -> w12 = wj_1.alloc (.cells qvp qjG) ->
 ∃ J_2 : FP [.one (.int .u64)],
 (BCase b3
 (J_2 (IntKind.u64.wrap (0 - n1)) w12)
 (J_2 n1 w12)) /\
 ∀ n1_1, AllJ 3 (∀ wj_2, J_2 n1_1 wj_2 ->
 ∃ J_3 : FP [.one (.int .i64)],
 (Calls prog qfS #[.int .i64 n2] wj_2 fun e34 w34 => ∃ b34, e34 = .returned (.bool b34) /\
 BCase b34
 (Calls prog qfe #[.int .u64 (IntKind.u64.wrap n2)] w34 fun e37 w37 => ∃ n37, e37 = .returned (.int .i64 n37) /\
 ∃ I : Nat -> FP [.one (.int .u64), .one (.int .i64)],
 (∃ m, I m n1_1 (65 : Int) w37) /\
 ∀ m n1_2 n13, AllJ 14 (∀ wl, I m n1_2 n13 wl ->
 BCase (decide (n1_2 >= (IntKind.u64.wrap n2)))
 (((0 <= (IntKind.u64.wrap (((BitVec.ofInt (IntKind.bits .u64) n1_2) &&& (BitVec.ofInt (IntKind.bits .u64) (IntKind.u64.wrap ((IntKind.u64.wrap n2) - (1 : Int))))).toNat : Nat)) /\ (IntKind.u64.wrap (((BitVec.ofInt (IntKind.bits .u64) n1_2) &&& (BitVec.ofInt (IntKind.bits .u64) (IntKind.u64.wrap ((IntKind.u64.wrap n2) - (1 : Int))))).toNat : Nat)) < ((List.length [48, 49, 50, 51, 52, 53, 54, 55, 56, 57, 97, 98, 99, 100, 101, 102, 103, 104, 105, 106, 107, 108, 109, 110, 111, 112, 113, 114, 115, 116, 117, 118, 119, 120, 121, 122] : Nat) : Int))) /\
 ((0 <= (i64.wrap (n13 - (1 : Int))) /\ (i64.wrap (n13 - (1 : Int))) < ((65 : Nat) : Int)) /\ true = true) /\
 ∃ wx, Sv qU (ql (some ⟨k12, 0, none⟩) (i64.wrap (n13 - (1 : Int))) 1) (.int .u8 (qH [48, 49, 50, 51, 52, 53, 54, 55, 56, 57, 97, 98, 99, 100, 101, 102, 103, 104, 105, 106, 107, 108, 109, 110, 111, 112, 113, 114, 115, 116, 117, 118, 119, 120, 121, 122] (IntKind.u64.wrap (((BitVec.ofInt (IntKind.bits .u64) n1_2) &&& (BitVec.ofInt (IntKind.bits .u64) (IntKind.u64.wrap ((IntKind.u64.wrap n2) - (1 : Int))))).toNat : Nat)))) wl wx /\
 (0 <= (IntKind.u64.wrap n37)) /\
 ∃ m' : Nat, m' < m /\ I m' (Int.fdiv n1_2 (2 ^ (min (Int.toNat (IntKind.u64.wrap n37)) (IntKind.bits .u64)))) (i64.wrap (n13 - (1 : Int))) wx)
 (((0 <= n1_2 /\ n1_2 < ((List.length [48, 49, 50, 51, 52, 53, 54, 55, 56, 57, 97, 98, 99, 100, 101, 102, 103, 104, 105, 106, 107, 108, 109, 110, 111, 112, 113, 114, 115, 116, 117, 118, 119, 120, 121, 122] : Nat) : Int))) /\
 ((0 <= (i64.wrap (n13 - (1 : Int))) /\ (i64.wrap (n13 - (1 : Int))) < ((65 : Nat) : Int)) /\ true = true) /\
 ∃ wx_1, Sv qU (ql (some ⟨k12, 0, none⟩) (i64.wrap (n13 - (1 : Int))) 1) (.int .u8 (qH [48, 49, 50, 51, 52, 53, 54, 55, 56, 57, 97, 98, 99, 100, 101, 102, 103, 104, 105, 106, 107, 108, 109, 110, 111, 112, 113, 114, 115, 116, 117, 118, 119, 120, 121, 122] n1_2)) wl wx_1 /\
 J_3 (i64.wrap (n13 - (1 : Int))) wx_1)))
 (∃ I_1 : Nat -> FP [.one (.int .u64), .one (.int .i64)],
 (∃ m_1, I_1 m_1 n1_1 (65 : Int) w34) /\
 ∀ m_1 n1_3 n13_1, AllJ 18 (∀ wl_1, I_1 m_1 n1_3 n13_1 wl_1 ->
 BCase (decide (n1_3 >= (IntKind.u64.wrap n2)))
 (((IntKind.u64.wrap n2) ≠ 0) /\
 ∀ q73, q73 = (IntKind.u64.wrap (Int.tdiv n1_3 (IntKind.u64.wrap n2))) ->
 ((0 <= (IntKind.u64.wrap (n1_3 - (IntKind.u64.wrap (q73 * (IntKind.u64.wrap n2))))) /\ (IntKind.u64.wrap (n1_3 - (IntKind.u64.wrap (q73 * (IntKind.u64.wrap n2))))) < ((List.length [48, 49, 50, 51, 52, 53, 54, 55, 56, 57, 97, 98, 99, 100, 101, 102, 103, 104, 105, 106, 107, 108, 109, 110, 111, 112, 113, 114, 115, 116, 117, 118, 119, 120, 121, 122] : Nat) : Int))) /\
 ((0 <= (i64.wrap (n13_1 - (1 : Int))) /\ (i64.wrap (n13_1 - (1 : Int))) < ((65 : Nat) : Int)) /\ true = true) /\
 ∃ wx_2, Sv qU (ql (some ⟨k12, 0, none⟩) (i64.wrap (n13_1 - (1 : Int))) 1) (.int .u8 (qH [48, 49, 50, 51, 52, 53, 54, 55, 56, 57, 97, 98, 99, 100, 101, 102, 103, 104, 105, 106, 107, 108, 109, 110, 111, 112, 113, 114, 115, 116, 117, 118, 119, 120, 121, 122] (IntKind.u64.wrap (n1_3 - (IntKind.u64.wrap (q73 * (IntKind.u64.wrap n2))))))) wl_1 wx_2 /\
 ∃ m'_1 : Nat, m'_1 < m_1 /\ I_1 m'_1 q73 (i64.wrap (n13_1 - (1 : Int))) wx_2)
 (((0 <= n1_3 /\ n1_3 < ((List.length [48, 49, 50, 51, 52, 53, 54, 55, 56, 57, 97, 98, 99, 100, 101, 102, 103, 104, 105, 106, 107, 108, 109, 110, 111, 112, 113, 114, 115, 116, 117, 118, 119, 120, 121, 122] : Nat) : Int))) /\
 ((0 <= (i64.wrap (n13_1 - (1 : Int))) /\ (i64.wrap (n13_1 - (1 : Int))) < ((65 : Nat) : Int)) /\ true = true) /\
 ∃ wx_3, Sv qU (ql (some ⟨k12, 0, none⟩) (i64.wrap (n13_1 - (1 : Int))) 1) (.int .u8 (qH [48, 49, 50, 51, 52, 53, 54, 55, 56, 57, 97, 98, 99, 100, 101, 102, 103, 104, 105, 106, 107, 108, 109, 110, 111, 112, 113, 114, 115, 116, 117, 118, 119, 120, 121, 122] n1_3)) wl_1 wx_3 /\
 J_3 (i64.wrap (n13_1 - (1 : Int))) wx_3)))) /\
 ∀ n13_2, AllJ 62 (∀ wj_3, J_3 n13_2 wj_3 ->
 ∃ J_4 : FP [.one (.int .i64)],
 (BCase b3
 (((0 <= (i64.wrap (n13_2 - (1 : Int))) /\ (i64.wrap (n13_2 - (1 : Int))) < ((65 : Nat) : Int)) /\ true = true) /\
 ∃ wx_4, Sv qU (ql (some ⟨k12, 0, none⟩) (i64.wrap (n13_2 - (1 : Int))) 1) (.int .u8 (45 : Int)) wj_3 wx_4 /\
 J_4 (i64.wrap (n13_2 - (1 : Int))) wx_4)
 (J_4 n13_2 wj_3)) /\
 ∀ n13_3, AllJ 5 (∀ wj_4, J_4 n13_3 wj_4 ->
 BCase b4
 (((0 <= n13_3 /\ n13_3 <= ((65 : Nat) : Int))) /\
 ∃ w98 a98 l98 c98, (Builtin.append_ #[za, za] za #[.slice a0 l0 c0, .slice (some (if 65 = (Int.toNat n13_3) then ⟨k12, 0, none⟩ else Addr.add ⟨k12, 0, none⟩ ((Int.toNat n13_3) * 1))) (65 - (Int.toNat n13_3)) (65 - (Int.toNat n13_3))]).run prog wj_4 = .ok (.slice a98 l98 c98) w98 /\
 K (.tuple #[.slice a98 l98 c98, .string (mkS [])]) w98)
 (((0 <= n13_3 /\ n13_3 <= ((65 : Nat) : Int))) /\
 ∃ s101, (convert za qh (.slice (some (if 65 = (Int.toNat n13_3) then ⟨k12, 0, none⟩ else Addr.add ⟨k12, 0, none⟩ ((Int.toNat n13_3) * 1))) (65 - (Int.toNat n13_3)) (65 - (Int.toNat n13_3)))).run prog wj_4 = .ok (.string (mkS s101)) wj_4 /\
 K (.tuple #[.slice none 0 0, .string (mkS s101)]) wj_4)))))
theorem qi7 (a0 : Option Addr) (l0 c0 : Nat) (n1 : Int) (n2 : Int) (b3 : Bool) (b4 : Bool) {w : World} {K : Value -> World -> Prop} (h : qgd a0 l0 c0 n1 n2 b3 b4 w K) : Calls prog qdP #[.slice a0 l0 c0, .int .u64 n1, .int .i64 n2, .bool b3, .bool b4] w (Ret K) :=
 qm (c := qq Tryz.f289) (by kernel_rfl) Tryz.func289 (by kernel_rfl) [(2, []), (3, [(28, .one (.bool))]), (12, [(1, .one (.int .u64))]), (18, [(13, .one (.int .i64))]), (30, [(1, .one (.int .u64)), (13, .one (.int .i64))]), (50, [(1, .one (.int .u64)), (13, .one (.int .i64))]), (68, [(13, .one (.int .i64))])] [.slice a0 l0 c0, .int .u64 n1, .int .i64 n2, .bool b3, .bool b4] (of_decide_eq_true (by kernel_rfl)) _ (by kernel_rfl) h

--  internal/strconv.isPowerOfTwo
def qfK (n0 : Int) (w : World) (K : Value -> World -> Prop) : Prop :=
 K (.bool ((i64.wrap (((BitVec.ofInt (IntKind.bits .i64) n0) &&& (BitVec.ofInt (IntKind.bits .i64) (i64.wrap (n0 - (1 : Int))))).toNat : Nat)) == (0 : Int))) w
theorem qiN (n0 : Int) {w : World} {K : Value -> World -> Prop} (h : qfK n0 w K) : Calls prog qfS #[.int .i64 n0] w (Ret K) :=
 qm (c := qq Tryz.f302) (by kernel_rfl) Tryz.func302 (by kernel_rfl) [] [.int .i64 n0] (of_decide_eq_true (by kernel_rfl)) _ (by kernel_rfl) h

--  math/bits.TrailingZeros
def qhG (n0 : Int) (w : World) (K : Value -> World -> Prop) : Prop :=
 Calls prog qhf #[.int .u64 n0] w fun e7 w7 => ∃ n7, e7 = .returned (.int .i64 n7) /\
 K (.int .i64 n7) w7
theorem qku (n0 : Int) {w : World} {K : Value -> World -> Prop} (h : qhG n0 w K) : Calls prog qfe #[.int .u64 n0] w (Ret K) :=
 qm (c := qq Tryz.f303) (by kernel_rfl) Tryz.func303 (by kernel_rfl) [] [.int .u64 n0] (of_decide_eq_true (by kernel_rfl)) _ (by kernel_rfl) h

--  math/bits.TrailingZeros64
def qg6 (n0 : Int) (w : World) (K : Value -> World -> Prop) : Prop :=
 BCase (n0 == (0 : Int))
 (K (.int .i64 (64 : Int)) w)
 ((0 <= (58 : Int)) /\
 ((0 <= (Int.fdiv (IntKind.u64.wrap ((IntKind.u64.wrap (((BitVec.ofInt (IntKind.bits .u64) n0) &&& (BitVec.ofInt (IntKind.bits .u64) (IntKind.u64.wrap (0 - n0)))).toNat : Nat)) * (285870213051353865 : Int))) (2 ^ (min (Int.toNat (58 : Int)) (IntKind.bits .u64)))) /\ (Int.fdiv (IntKind.u64.wrap ((IntKind.u64.wrap (((BitVec.ofInt (IntKind.bits .u64) n0) &&& (BitVec.ofInt (IntKind.bits .u64) (IntKind.u64.wrap (0 - n0)))).toNat : Nat)) * (285870213051353865 : Int))) (2 ^ (min (Int.toNat (58 : Int)) (IntKind.bits .u64)))) < ((64 : Nat) : Int)) /\ true = true) /\
 ∃ n12, Ld qU (ql (some ⟨7, 0, none⟩) (Int.fdiv (IntKind.u64.wrap ((IntKind.u64.wrap (((BitVec.ofInt (IntKind.bits .u64) n0) &&& (BitVec.ofInt (IntKind.bits .u64) (IntKind.u64.wrap (0 - n0)))).toNat : Nat)) * (285870213051353865 : Int))) (2 ^ (min (Int.toNat (58 : Int)) (IntKind.bits .u64)))) 1) w (.int .u8 n12) /\
 K (.int .i64 (i64.wrap n12)) w)
theorem qjz (n0 : Int) {w : World} {K : Value -> World -> Prop} (h : qg6 n0 w K) : Calls prog qhf #[.int .u64 n0] w (Ret K) :=
 qm (c := qq Tryz.f311) (by kernel_rfl) Tryz.func311 (by kernel_rfl) [] [.int .u64 n0] (of_decide_eq_true (by kernel_rfl)) _ (by kernel_rfl) h
end Go.Proofs.YtlfolncaghkmcaaGreatDoor
