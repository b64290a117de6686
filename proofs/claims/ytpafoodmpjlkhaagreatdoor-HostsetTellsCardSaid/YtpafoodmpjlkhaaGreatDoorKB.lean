/- What the laws lean on: R, Open, Names, V33, Arr, H, Big, Chg, Lst, Bwd, ColX, V35; what is used. Its conditions: none. -/
import Derived.Test.YtpafoodmpjlkhaaGreatDoorKA
import Derived.Laws.AppendOwn
import Derived.IntWalk
import Derived.ProofKit
import Derived.OpenShut
import Derived.Stop.LaidErr
import Derived.Lib.LaidTab
import Derived.Deep.DeepHandedRow
import Derived.Test.YtpafoodmpjlkhaaGreatDoorRows
import Derived.RangeFuncNested
import Derived.RangeFuncLeaves
import Derived.Shelf.Abstract
import Derived.Shelf.AbstractIn
import Derived.WalkKit
import Derived.OwnWalkIn
import Derived.TacticsInMore
import Derived.RegionIn
import Derived.LoopNIn
import Derived.LoopIn
import Derived.Maps.AppendAt
open Go.IntKind (i64)
open Go.Proofs.Tryz (prog)
set_option linter.unusedVariables false
set_option linter.unusedSimpArgs false
namespace Go.Pk
open Go.RowKit (Below)
abbrev Bl := Nat -> Prop
structure sg (A : Bl) (w w' : World) : Prop where
 size : w.heap.size <= w'.heap.size
 block : ∀ b, b < w.heap.size -> A b -> w'.heap[b]? = w.heap[b]?
theorem sg.refl (A : Bl) (w : World) : sg A w w := ⟨Nat.le_refl _, fun _ _ _ => rfl⟩
theorem sg.trans {A : Bl} {a b c : World} (h : sg A a b) (k : sg A b c) : sg A a c :=
 ⟨Nat.le_trans h.size k.size, fun i hi ha => (k.block i (Nat.lt_of_lt_of_le hi h.size) ha).trans (h.block i hi ha)⟩
theorem sg.mono {A A' : Bl} {w w' : World} (h : sg A w w') (ha : ∀ b, A' b -> A b) : sg A' w w' := ⟨h.size, fun b hb hab => h.block b hb (ha b hab)⟩
theorem yl {w w' : World} (h : Below w.heap.size w w') (A : Bl) : sg A w w' := ⟨h.size, fun b hb _ => h.block b hb⟩
theorem hX {w w' : World} {row : Option Nat} (h : w.grownBy w' row) {A : Bl} (ha : ∀ b, A b -> some b ≠ row) : sg A w w' := ⟨h.size, fun b hb hab => h.block b hb (ha b hab)⟩
theorem gV (w : World) : Below w.heap.size w w.drew := (Below.refl _ w).drew
theorem ah (w : World) (o : Obj) : Below w.heap.size w (w.alloc o) := (Below.refl _ w).alloc (Nat.le_refl _) o
theorem ab {B : Nat} {a b c : World} (h : Below B a b) (k : Below b.heap.size b c) (hB : B <= b.heap.size) : Below B a c := h.trans (k.mono hB)
structure Ty (α : Type) where
 k : Nat
 pos : 0 < k
 rep : World -> Bl -> List Value -> α -> Prop
 len : ∀ {w A vs x}, rep w A vs x -> vs.length = k
 one : ∀ {w A vs x}, rep w A vs x -> ∀ v ∈ vs, v.oneCell' = true
 keep : ∀ {w w' A vs x}, rep w A vs x -> sg A w w' -> rep w' A vs x
 mono : ∀ {w A A' vs x}, rep w A vs x -> (∀ b, b < w.heap.size -> A b -> A' b) -> rep w A' vs x
def Ty.enc {α : Type} (e : α -> Value) (h1 : ∀ x, (e x).oneCell' = true) (p : α -> Prop) : Ty α where
 k := 1
 pos := by decide
 rep := fun _ _ vs x => vs = [e x] /\ p x
 len := fun h => by rw [h.1]; rfl
 one := fun {_ _ _ x} h v hv => by rw [h.1] at hv; simp at hv; rw [hv]; exact h1 x
 keep := fun h _ => h
 mono := fun h _ => h
def IM (k : IntKind) (p : Int -> Prop) : Ty Int := Ty.enc (fun n => .int k n) (fun _ => rfl) p
def i7 : Ty Int := IM .i64 fun _ => True
def tU8 : Ty UInt8 := Ty.enc (fun c => .int .u8 (c.toNat : Nat)) (fun _ => rfl) fun _ => True
def ul : Ty Bool := Ty.enc (fun b => .bool b) (fun _ => rfl) fun _ => True
def G8 (p : List UInt8 -> Prop) : Ty (List UInt8) := Ty.enc (fun s => .string (mkS s)) (fun _ => rfl) p
abbrev tS : Ty (List UInt8) := G8 fun _ => True
def NoB : Bl := fun _ => False
structure TF (P : Program) (t : TypeId) (k bytes : Nat) (z : Value) : Prop where
 info : ∃ i, P.info? t = some i /\ i.size = k /\ i.bytes = bytes /\ i.zero = some z
 cells : z.cells.size = k
 und : ∃ d, P.underlying t = some d /\ (Ar d = true \/ k = 1 /\ Ar d = false)
theorem TF.of {P : Program} {t : TypeId} {k bytes : Nat} {z : Value} (h1 : (P.info? t).map (fun i => (i.size, i.bytes, i.zero)) = some (k, bytes, some z)) (h2 : z.cells.size = k) (b : Bool)
   (h3 : (P.underlying t).map Ar = some b) (h4 : b = true \/ k = 1) : TF P t k bytes z := by
 cases hi : P.info? t with
 | none => rw [hi] at h1; cases h1
 | some i =>
   rw [hi] at h1
   simp only [Option.map_some, Option.some.injEq, Prod.mk.injEq] at h1
   cases hu : P.underlying t with
   | none => rw [hu] at h3; cases h3
   | some d =>
     rw [hu] at h3
     simp only [Option.map_some, Option.some.injEq] at h3
     refine ⟨⟨i, hi, h1.1, h1.2.1, h1.2.2⟩, h2, d, hu, ?_⟩
     cases b with
     | true => exact .inl h3
     | false => exact .inr ⟨h4.resolve_left (by simp), h3⟩
structure gw {α : Type} (T : Ty α) (w : World) (A : Bl) (l : List Value) (xs : List α) : Prop where
 len : l.length = xs.length * T.k
 rep : ∀ i (h : i < xs.length), T.rep w A ((l.drop (i * T.k)).take T.k) xs[i]
theorem gw.nil {α : Type} (T : Ty α) (w : World) (A : Bl) : gw T w A [] ([] : List α) := ⟨by simp, fun i h => by cases h⟩
theorem gw.one {α : Type} {T : Ty α} {w : World} {A : Bl} {vs : List Value} {x : α} (h : T.rep w A vs x) : gw T w A vs [x] := by
 have hl := T.len h
 refine ⟨by simp [hl], fun i hi => ?_⟩
 have : i = 0 := by simpa using hi
 subst this
 simp only [Nat.zero_mul, List.drop_zero, List.getElem_cons_zero]
 rw [List.take_of_length_le (by omega)]; exact h
theorem gw.append {α : Type} {T : Ty α} {w : World} {A : Bl} {l m : List Value} {xs ys : List α} (h : gw T w A l xs) (k : gw T w A m ys) : gw T w A (l ++ m) (xs ++ ys) := by
 refine ⟨by rw [List.length_append, List.length_append, h.len, k.len, Nat.add_mul], fun i hi => ?_⟩
 by_cases c : i < xs.length
 · rw [List.getElem_append_left c]
   have h1 := h.rep i c
   have h2 : i * T.k + T.k <= l.length := by
     have := Nat.mul_le_mul_right T.k (show i + 1 <= xs.length from c)
     rw [Nat.add_mul, Nat.one_mul] at this
     rw [h.len]; exact this
   rw [List.drop_append_of_le_length (by omega), List.take_append_of_le_length (by rw [List.length_drop]; omega)]
   exact h1
 · have hi' : i - xs.length < ys.length := by simp at hi; omega
   rw [List.getElem_append_right (by omega)]
   have h1 := k.rep (i - xs.length) hi'
   have h2 : i * T.k = l.length + (i - xs.length) * T.k := by
     rw [h.len, <- Nat.add_mul]; congr 1; omega
   rw [h2, List.drop_length_add_append]
   exact h1
theorem gw.keep {α : Type} {T : Ty α} {w w' : World} {A : Bl} {l : List Value} {xs : List α} (h : gw T w A l xs) (hk : sg A w w') : gw T w' A l xs := ⟨h.len, fun i hi => T.keep (h.rep i hi) hk⟩
theorem gw.mono {α : Type} {T : Ty α} {w : World} {A A' : Bl} {l : List Value} {xs : List α} (h : gw T w A l xs) (ha : ∀ b, b < w.heap.size -> A b -> A' b) : gw T w A' l xs := ⟨h.len, fun i hi => T.mono (h.rep i hi) ha⟩
theorem gw.ones {α : Type} {T : Ty α} {w : World} {A : Bl} : ∀ {xs : List α} {l : List Value}, gw T w A l xs -> ∀ v ∈ l, v.oneCell' = true
 | [], l, h, v, hv => by have := h.len; simp at this; subst this; cases hv
 | x :: xs, l, h, v, hv => by
   have hl := h.len
   have hk := T.pos
   have h1 := h.rep 0 (by simp)
   rw [Nat.zero_mul, List.drop_zero] at h1
   have h2 : gw T w A (l.drop T.k) xs := by
     refine ⟨by rw [List.length_drop, hl]; simp [Nat.add_mul], fun i hi => ?_⟩
     have := h.rep (i + 1) (by simp; omega)
     simp only [List.getElem_cons_succ] at this
     rw [List.drop_drop]
     rw [Nat.add_mul, Nat.one_mul, Nat.add_comm] at this
     exact this
   rw [<- List.take_append_drop T.k l] at hv
   rcases List.mem_append.1 hv with hv | hv
   · exact T.one h1 v hv
   · exact gw.ones h2 v hv
theorem gw.set {α : Type} {T : Ty α} {w : World} {A : Bl} {l : List Value} {xs : List α} (h : gw T w A l xs) {i : Nat} (hi : i < xs.length) {vs : List Value} {x : α} (hx : T.rep w A vs x) :
   gw T w A (l.take (i * T.k) ++ vs ++ l.drop (i * T.k + vs.length)) (xs.set i x) := by
 have hv := T.len hx
 have hb : i * T.k + T.k <= l.length := by
   have := Nat.mul_le_mul_right T.k (show i + 1 <= xs.length from hi)
   rw [Nat.add_mul, Nat.one_mul] at this
   rw [h.len]; exact this
 refine ⟨?_, fun j hj => ?_⟩
 · rw [List.length_set, <- h.len, List.length_append, List.length_append, List.length_take, List.length_drop, hv]; omega
 · have hj' : j < xs.length := by simpa using hj
   have key : (l.take (i * T.k) ++ vs ++ l.drop (i * T.k + vs.length)) = l.take (i * T.k) ++ (vs ++ l.drop (i * T.k + vs.length)) := List.append_assoc _ _ _
   have htl : (l.take (i * T.k)).length = i * T.k := by rw [List.length_take]; omega
   by_cases c1 : j < i
   · have h1 := h.rep j hj'
     have h2 : j * T.k + T.k <= i * T.k := by
       have := Nat.mul_le_mul_right T.k (show j + 1 <= i from c1)
       rwa [Nat.add_mul, Nat.one_mul] at this
     rw [List.getElem_set_ne (by omega), key, List.drop_append_of_le_length (by omega), List.take_append_of_le_length (by rw [List.length_drop]; omega)]
     rw [List.drop_take, List.take_take]
     rw [show min T.k (i * T.k - j * T.k) = T.k by omega]
     exact h1
   · by_cases c2 : j = i
     · subst c2
       rw [List.getElem_set_self, key, List.drop_left' htl, <- hv, List.take_left]
       exact hx
     · have h1 := h.rep j hj'
       have h2 : i * T.k + T.k <= j * T.k := by
         have := Nat.mul_le_mul_right T.k (show i + 1 <= j by omega)
         rwa [Nat.add_mul, Nat.one_mul] at this
       rw [List.getElem_set_ne (by omega)]
       have e1 : (l.take (i * T.k) ++ vs ++ l.drop (i * T.k + vs.length)).drop (j * T.k) = l.drop (j * T.k) := by
         have e2 : j * T.k = (l.take (i * T.k) ++ vs).length + (j * T.k - (i * T.k + T.k)) := by rw [List.length_append, htl, hv]; omega
         rw [e2, List.drop_length_add_append, List.drop_drop]
         congr 1
         omega
       rw [e1]; exact h1
def At {α : Type} (T : Ty α) (w : World) (A : Bl) (b off : Nat) (xs : List α) : Prop :=
 ∃ l : List Value, gw T w A l xs /\ ∀ j, j < l.length -> w.cell? ⟨b, off + j, none⟩ = l[j]?
def Sl {α : Type} (T : Ty α) (w : World) (A : Bl) (a : Option Addr) (n c : Nat) (xs : List α) : Prop :=
 n = xs.length /\ n <= c /\ c <= maxLen /\ (xs = [] \/ ∃ b off, a = some ⟨b, off, none⟩ /\ b < w.heap.size /\ A b /\ At T w A b off xs)
theorem kp {w w' : World} {b : Nat} (h : w'.heap[b]? = w.heap[b]?) (o : Nat) : w'.cell? ⟨b, o, none⟩ = w.cell? ⟨b, o, none⟩ := by simp [World.cell?, h]
theorem At.keep {α : Type} {T : Ty α} {w w' : World} {A : Bl} {b off : Nat} {xs : List α} (h : At T w A b off xs) (hb : b < w.heap.size) (ha : A b) (hk : sg A w w') : At T w' A b off xs := by
 obtain ⟨l, h1, h2⟩ := h
 exact ⟨l, h1.keep hk, fun j hj => by rw [kp (hk.block b hb ha)]; exact h2 j hj⟩
theorem Sl.keep {α : Type} {T : Ty α} {w w' : World} {A : Bl} {a : Option Addr} {n c : Nat} {xs : List α} (h : Sl T w A a n c xs) (hk : sg A w w') : Sl T w' A a n c xs := by
 obtain ⟨h1, h2, h3, h4⟩ := h
 refine ⟨h1, h2, h3, ?_⟩
 rcases h4 with h4 | ⟨b, off, e, hb, ha, h4⟩
 · exact .inl h4
 · exact .inr ⟨b, off, e, Nat.lt_of_lt_of_le hb hk.size, ha, h4.keep hb ha hk⟩
theorem Sl.below {α : Type} {T : Ty α} {w w' : World} {A : Bl} {a : Option Addr} {n c : Nat} {xs : List α} (h : Sl T w A a n c xs) (hk : Below w.heap.size w w') : Sl T w' A a n c xs := h.keep (yl hk A)
theorem Sl.mono {α : Type} {T : Ty α} {w : World} {A A' : Bl} {a : Option Addr} {n c : Nat} {xs : List α} (h : Sl T w A a n c xs) (ha : ∀ b, b < w.heap.size -> A b -> A' b) : Sl T w A' a n c xs := by
 obtain ⟨h1, h2, h3, h4⟩ := h
 refine ⟨h1, h2, h3, ?_⟩
 rcases h4 with h4 | ⟨b, off, e, hb, hab, h4⟩
 · exact .inl h4
 · obtain ⟨l, h5, h6⟩ := h4
   exact .inr ⟨b, off, e, hb, ha b hb hab, l, h5.mono ha, h6⟩
theorem Sl.len {α : Type} {T : Ty α} {w : World} {A : Bl} {a : Option Addr} {n c : Nat} {xs : List α} (h : Sl T w A a n c xs) : n = xs.length := h.1
theorem Sl.le {α : Type} {T : Ty α} {w : World} {A : Bl} {a : Option Addr} {n c : Nat} {xs : List α} (h : Sl T w A a n c xs) : xs.length <= 9223372036854775807 := by
 have h1 := h.1; have h2 := h.2.1; have h3 := h.2.2.1; unfold maxLen at h3; omega
theorem Sl.nil {α : Type} (T : Ty α) (w : World) (A : Bl) (a : Option Addr) (c : Nat) (hc : c <= maxLen) : Sl T w A a 0 c ([] : List α) := ⟨rfl, Nat.zero_le _, hc, .inl rfl⟩
theorem Sl.isSome {α : Type} {T : Ty α} {w : World} {A : Bl} {a : Option Addr} {n c : Nat} {xs : List α} (h : Sl T w A a n c xs) {i : Nat} (hi : i < xs.length) : Option.isSome a = true := by
 rcases h.2.2.2 with h4 | ⟨b, off, e, _⟩
 · subst h4; cases hi
 · rw [e]; rfl
theorem dp (b o j : Nat) : (⟨b, o, none⟩ : Addr).add j = ⟨b, o + j, none⟩ := by
 unfold Addr.add; split <;> simp_all
theorem dJ {P : Program} {t : TypeId} {d : TypeDesc} (hu : P.underlying t = some d) (ha : Ar d = false) {w : World} {p : Addr} {v : Value} (hc : w.cell? p = some v) :
   (loadVar t p).run P w = .ok v w := by
 unfold loadVar
 rw [Sem.run_bind, qm hu, ha]
 simp [hc]
theorem Br {P : Program} {w : World} {b off : Nat} {vs : List Value} (h : ∀ j, j < vs.length -> w.cell? ⟨b, off + j, none⟩ = vs[j]?) : (loadCells ⟨b, off, none⟩ vs.length).run P w = .ok vs.toArray w :=
 run_loadCells_list (P := P) w ⟨b, off, none⟩ vs fun j v hv => by
   rw [dp, h j (by have := (List.getElem?_eq_some_iff.1 hv).1; exact this)]; exact hv
theorem wE {P : Program} {t : TypeId} {d : TypeDesc} {i : TypeInfo} (hu : P.underlying t = some d) (ha : Ar d = true) (hi : P.info? t = some i) {w : World} {b off : Nat} {vs : List Value} (hl : vs.length = i.size)
   (h : ∀ j, j < vs.length -> w.cell? ⟨b, off + j, none⟩ = vs[j]?) : (loadVar t ⟨b, off, none⟩).run P w = .ok (.agg vs.toArray) w := by
 unfold loadVar
 rw [Sem.run_bind, qm hu, ha]
 have := Br (P := P) h
 rw [hl] at this
 simp [eS hi, this]
theorem zi (b off : Nat) (i : Int) (k : Nat) : ao (some ⟨b, off, none⟩) i k = some ⟨b, off + i.toNat * k, none⟩ := by
 simp [ao, dp]
theorem At.elem {α : Type} {T : Ty α} {w : World} {A : Bl} {b off : Nat} {xs : List α} (h : At T w A b off xs) {i : Nat} (hi : i < xs.length) :
   ∃ vs, T.rep w A vs xs[i] /\ ∀ j, j < T.k -> w.cell? ⟨b, off + i * T.k + j, none⟩ = vs[j]? := by
 obtain ⟨l, h1, h2⟩ := h
 have hb : i * T.k + T.k <= l.length := by
   have := Nat.mul_le_mul_right T.k (show i + 1 <= xs.length from hi)
   rw [Nat.add_mul, Nat.one_mul] at this
   rw [h1.len]; exact this
 refine ⟨_, h1.rep i hi, fun j hj => ?_⟩
 rw [Nat.add_assoc, h2 _ (by omega), List.getElem?_take, if_pos hj, List.getElem?_drop]
theorem Sl.load1 {α : Type} {T : Ty α} {P : Program} {t : TypeId} {d : TypeDesc} (hu : P.underlying t = some d) (ha : Ar d = false) (hk : T.k = 1)
   {w : World} {A : Bl} {a : Option Addr} {n c : Nat} {xs : List α} (h : Sl T w A a n c xs) {i : Int} (hi : i.toNat < xs.length) :
   ∃ v, (Instr.loadAt t (.pointer (ao a i 1))).run P w = .ok v w /\ T.rep w A [v] xs[i.toNat] := by
 rcases h.2.2.2 with h4 | ⟨b, off, e, hb, hab, h4⟩
 · subst h4; cases hi
 · obtain ⟨vs, h5, h6⟩ := h4.elem hi
   have hl := T.len h5
   rw [hk] at hl
   match vs, hl with
   | [v], _ =>
     refine ⟨v, ?_, h5⟩
     have h7 := h6 0 (by rw [hk]; decide)
     rw [hk] at h7
     rw [e, zi]
     show (do loadVar t (<- Instr.sureAddr (.pointer (some _)))).run P w = _
     rw [Sem.run_bind, gM]
     exact dJ hu ha (by simpa using h7)
theorem Sl.loadA {α : Type} {T : Ty α} {P : Program} {t : TypeId} {d : TypeDesc} {ti : TypeInfo} (hu : P.underlying t = some d) (ha : Ar d = true) (hi' : P.info? t = some ti) {k : Nat} (hk : T.k = k) (hs : ti.size = k)
   {w : World} {A : Bl} {a : Option Addr} {n c : Nat} {xs : List α} (h : Sl T w A a n c xs) {i : Int} (hi : i.toNat < xs.length) :
   ∃ vs, (Instr.loadAt t (.pointer (ao a i k))).run P w = .ok (.agg vs.toArray) w /\ T.rep w A vs xs[i.toNat] := by
 subst hk
 rcases h.2.2.2 with h4 | ⟨b, off, e, hb, hab, h4⟩
 · subst h4; cases hi
 · obtain ⟨vs, h5, h6⟩ := h4.elem hi
   have hl := T.len h5
   refine ⟨vs, ?_, h5⟩
   rw [e, zi]
   show (do loadVar t (<- Instr.sureAddr (.pointer (some _)))).run P w = _
   rw [Sem.run_bind, gM]
   exact wE hu ha hi' (by omega) fun j hj => h6 j (by omega)
def bE (a : Option Addr) : Option Nat := a.map (·.block)
def Ow {α : Type} (T : Ty α) (t : TypeId) (w : World) (A : Bl) (a : Option Addr) (n c : Nat) (xs : List α) : Prop :=
 n = xs.length /\ n <= c /\ c <= maxLen /\ ((a = none /\ c = 0 /\ xs = []) \/
   ∃ g cur fr, a = some ⟨g, 0, none⟩ /\ w.heap[g]? = some (.cells cur t fr) /\ (∀ i, i < cur.size -> ¬ (fr.1 <= i /\ i < fr.2)) /\ cur.size = c * T.k /\ gw T w A (cur.toList.take (n * T.k)) xs)
theorem Ow.nil {α : Type} (T : Ty α) (t : TypeId) (w : World) (A : Bl) : Ow T t w A none 0 0 ([] : List α) := ⟨rfl, Nat.le_refl _, Nat.zero_le _, .inl ⟨rfl, rfl, rfl⟩⟩
theorem Ow.len {α : Type} {T : Ty α} {t : TypeId} {w : World} {A : Bl} {a : Option Addr} {n c : Nat} {xs : List α} (h : Ow T t w A a n c xs) : n = xs.length := h.1
theorem Ow.le {α : Type} {T : Ty α} {t : TypeId} {w : World} {A : Bl} {a : Option Addr} {n c : Nat} {xs : List α} (h : Ow T t w A a n c xs) : xs.length <= 9223372036854775807 := by
 have h1 := h.1; have h2 := h.2.1; have h3 := h.2.2.1; unfold maxLen at h3; omega
theorem Ow.lt {α : Type} {T : Ty α} {t : TypeId} {w : World} {A : Bl} {a : Option Addr} {n c : Nat} {xs : List α} (h : Ow T t w A a n c xs) : ∀ g, bE a = some g -> g < w.heap.size := by
 intro g hg
 rcases h.2.2.2 with ⟨e, _⟩ | ⟨g', cur, fr, e, hh, _⟩
 · rw [e] at hg; cases hg
 · rw [e] at hg; simp [bE] at hg; subst hg; exact (Array.getElem?_eq_some_iff.1 hh).1
theorem Ow.keep {α : Type} {T : Ty α} {t : TypeId} {w w' : World} {A : Bl} {a : Option Addr} {n c : Nat} {xs : List α} (h : Ow T t w A a n c xs) (hk : sg (fun b => A b \/ some b = bE a) w w') : Ow T t w' A a n c xs := by
 have hlt := h.lt
 obtain ⟨h1, h2, h3, h4⟩ := h
 refine ⟨h1, h2, h3, ?_⟩
 rcases h4 with h4 | ⟨g, cur, fr, e, hh, hf, hs, h4⟩
 · exact .inl h4
 · refine .inr ⟨g, cur, fr, e, ?_, hf, hs, h4.keep (hk.mono fun _ h => .inl h)⟩
   rw [hk.block g (hlt g (by rw [e]; rfl)) (.inr (by rw [e]; rfl))]; exact hh
theorem Ow.below {α : Type} {T : Ty α} {t : TypeId} {w w' : World} {A : Bl} {a : Option Addr} {n c : Nat} {xs : List α} (h : Ow T t w A a n c xs) (hk : Below w.heap.size w w') : Ow T t w' A a n c xs := h.keep (yl hk _)
theorem Ow.mono {α : Type} {T : Ty α} {t : TypeId} {w : World} {A A' : Bl} {a : Option Addr} {n c : Nat} {xs : List α} (h : Ow T t w A a n c xs) (ha : ∀ b, b < w.heap.size -> A b -> A' b) : Ow T t w A' a n c xs := by
 obtain ⟨h1, h2, h3, h4⟩ := h
 refine ⟨h1, h2, h3, ?_⟩
 rcases h4 with h4 | ⟨g, cur, fr, e, hh, hf, hs, h4⟩
 · exact .inl h4
 · exact .inr ⟨g, cur, fr, e, hh, hf, hs, h4.mono ha⟩
theorem Ow.sl {α : Type} {T : Ty α} {t : TypeId} {w : World} {A A' : Bl} {a : Option Addr} {n c : Nat} {xs : List α} (h : Ow T t w A a n c xs) (hA : ∀ b, b < w.heap.size -> A b -> A' b) (hg : ∀ g, bE a = some g -> A' g) :
   Sl T w A' a n c xs := by
 have hlt := h.lt
 obtain ⟨h1, h2, h3, h4⟩ := h
 refine ⟨h1, h2, h3, ?_⟩
 rcases h4 with ⟨_, _, h4⟩ | ⟨g, cur, fr, e, hh, hf, hs, h4⟩
 · exact .inl h4
 · refine .inr ⟨g, 0, e, hlt g (by rw [e]; rfl), hg g (by rw [e]; rfl), _, h4.mono hA, fun j hj => ?_⟩
   rw [List.length_take] at hj
   rw [cell_of_row w g _ cur t fr hh, Nat.zero_add, List.getElem?_take, if_pos (by omega)]
   simp
abbrev gT : Bl := fun _ => True
theorem Ow.all {α : Type} {T : Ty α} {t : TypeId} {w : World} {A : Bl} {a : Option Addr} {n c : Nat} {xs : List α} (h : Ow T t w A a n c xs) : Sl T w gT a n c xs := h.sl (fun _ _ _ => trivial) (fun _ _ => trivial)
def bD (B : Nat) (a : Option Addr) : Prop := ∀ g, bE a = some g -> B <= g
theorem bD.none (B : Nat) : bD B none := fun _ h => by cases h
theorem bD.mono {B B' : Nat} {a : Option Addr} (h : bD B a) (hb : B' <= B) : bD B' a := fun g hg => Nat.le_trans hb (h g hg)
theorem CF (w : World) (g : Nat) (cs : Array Value) : (w.setRow g cs).heap.size = w.heap.size := by simp [World.setRow]
theorem gN (w : World) (g : Nat) (cs : Array Value) : w.grownBy (w.setRow g cs) (some g) :=
 ⟨rfl, rfl, rfl, by rw [CF]; exact Nat.le_refl _, fun k _ hk => setRow_other w g k cs fun e => hk (by rw [e])⟩
theorem eQ {w : World} {g : Nat} {cur : Array Value} {t : TypeId} {fr : Nat × Nat} (hg : w.heap[g]? = some (.cells cur t fr)) (o : Nat) : w.cell? ⟨g, o, none⟩ = cur[o]? := cell_of_row w g o cur t fr hg
theorem yu {w : World} {g o : Nat} {cur : Array Value} {t : TypeId} {fr : Nat × Nat} (hg : w.heap[g]? = some (.cells cur t fr)) (hf : ¬ (fr.1 <= o /\ o < fr.2)) : w.frozen? ⟨g, o, none⟩ = false := by
 obtain ⟨lo, hi⟩ := fr
 simp only [World.frozen?, hg]
 simpa using hf
theorem zZ {P : Program} {w : World} {g o : Nat} {cur : Array Value} {t : TypeId} {fr : Nat × Nat} (hg : w.heap[g]? = some (.cells cur t fr)) (ho : o < cur.size) (hf : ¬ (fr.1 <= o /\ o < fr.2))
   {v : Value} (h1 : v.oneCell' = true) : (store ⟨g, o, none⟩ v).run P w = .ok () (w.setRow g (cur.setIfInBounds o v)) := by
 rw [run_store P w _ v .plain h1, eQ hg, yu hg hf, Array.getElem?_eq_getElem ho]
 simp only [Bool.false_eq_true, if_false]
 congr 1
 obtain ⟨heap, tape, drawn, os, output⟩ := w
 simp only [World.setCell, World.setRow]
 congr 1
 apply Array.ext_getElem?
 intro k
 rw [Array.getElem?_modify, Array.getElem?_modify]
 by_cases hk : g = k
 · subst hk
   simp only [if_true]
   have hg' : heap[g]? = some (.cells cur t fr) := hg
   rw [hg']
   rfl
 · simp only [if_neg hk]
theorem jy {P : Program} (g o : Nat) (t : TypeId) (fr : Nat × Nat) : ∀ (vs : List Value) (i : Nat) (cur : Array Value) (w : World), w.heap[g]? = some (.cells cur t fr) -> o + i + vs.length <= cur.size ->
   (∀ j, j < cur.size -> ¬ (fr.1 <= j /\ j < fr.2)) -> (∀ v ∈ vs, v.oneCell' = true) ->
   (storeCells ⟨g, o, none⟩ vs i).run P w = .ok () (w.setRow g (cur.toList.take (o + i) ++ vs ++ cur.toList.drop (o + i + vs.length)).toArray)
 | [], i, cur, w, hg, _, _, _ => by
   simp only [storeCells, List.append_nil, List.length_nil, Nat.add_zero, List.take_append_drop, Array.toArray_toList]
   rw [setRow_self w g cur t fr hg]
   rfl
 | v :: rest, i, cur, w, hg, hl, hf, h1 => by
   have hi : o + i < cur.size := by simp at hl; omega
   simp only [storeCells, Sem.run_bind, dp]
   rw [zZ hg hi (hf _ hi) (h1 v List.mem_cons_self), Result.andThen_ok]
   rw [jy g o t fr rest (i + 1) (cur.setIfInBounds (o + i) v) _ (setRow_heap w g cur _ t fr hg) (by simp at hl ⊢; omega)
     (fun j hj => hf j (by simpa using hj)) (fun u hu => h1 u (List.mem_cons_of_mem _ hu))]
   congr 1
   have e2 : ∀ (a b : Array Value), (w.setRow g a).setRow g b = w.setRow g b := by
     intro a b
     obtain ⟨heap, tape, drawn, os, output⟩ := w
     simp only [World.setRow]
     congr 1
     apply Array.ext_getElem?
     intro k
     rw [Array.getElem?_modify, Array.getElem?_modify, Array.getElem?_modify]
     by_cases hk : g = k
     · subst hk
       have hg' : heap[g]? = some (.cells cur t fr) := hg
       simp [hg']
     · simp only [if_neg hk]
   rw [e2]
   congr 1
   apply Array.ext'
   simp only [Array.toList_setIfInBounds, List.length_cons]
   apply List.ext_getElem?
   intro k
   have hlen : cur.toList.length = cur.size := by simp
   simp only [List.getElem?_append, List.length_append, List.length_take, List.length_set, List.getElem?_take, List.getElem?_drop, List.length_cons, hlen, List.getElem?_set]
   by_cases c1 : k < o + i
   · have : ¬ o + i = k := by omega
     simp [c1, this, show k < min (o + (i + 1)) cur.size by omega, show k < min (o + i) cur.size by omega, show k < o + (i + 1) by omega,
       show k < min (o + (i + 1)) cur.size + rest.length by omega, show k < min (o + i) cur.size + (rest.length + 1) by omega]
   · by_cases c2 : k = o + i
     · subst c2
       have e3 : min (o + i) cur.size = o + i := by omega
       have e4 : min (o + (i + 1)) cur.size = o + i + 1 := by omega
       simp [e3, e4, hi, show o + i < o + i + 1 + rest.length by omega, show o + i < o + (i + 1) by omega]
     · have e3 : min (o + i) cur.size = o + i := by omega
       have e4 : min (o + (i + 1)) cur.size = o + i + 1 := by omega
       by_cases c3 : k < o + i + 1 + rest.length
       · have e5 : k - (o + i) = (k - (o + i + 1)) + 1 := by omega
         simp [e3, e4, c3, show k < o + i + (rest.length + 1) by omega, show ¬ k < o + i + 1 by omega, show ¬ k < o + i by omega, e5]
       · have e6 : ¬ o + i = o + (i + 1) + rest.length + (k - (o + i + 1 + rest.length)) := by omega
         have e7 : o + (i + 1) + rest.length + (k - (o + i + 1 + rest.length)) = o + i + (rest.length + 1) + (k - (o + i + (rest.length + 1))) := by omega
         simp [e3, e4, c3, show ¬ k < o + i + (rest.length + 1) by omega, e7]
         intro h; omega
def Src {α : Type} (T : Ty α) (w : World) (A : Bl) (y : Option Addr) (m : Nat) (ys : List α) : Prop :=
 m = ys.length /\ (ys = [] \/ ∃ b off, y = some ⟨b, off, none⟩ /\ At T w A b off ys)
def BP {α : Type} (T : Ty α) : Prop := ∀ w A w' A' vs x, T.rep w A vs x -> T.rep w' A' vs x
theorem gw.flat {α : Type} {T : Ty α} (hf : BP T) {w w' : World} {A A' : Bl} {l : List Value} {xs : List α} (h : gw T w A l xs) : gw T w' A' l xs := ⟨h.len, fun i hi => hf _ _ _ _ _ _ (h.rep i hi)⟩
theorem Sl.flat {α : Type} {T : Ty α} (hf : BP T) {w : World} {A A' : Bl} {a : Option Addr} {n c : Nat} {xs : List α} (h : Sl T w A a n c xs) : Src T w A' a n xs := by
 obtain ⟨h1, h2, h3, h4⟩ := h
 refine ⟨h1, ?_⟩
 rcases h4 with h4 | ⟨b, off, e, hb, hab, l, h5, h6⟩
 · exact .inl h4
 · exact .inr ⟨b, off, e, l, h5.flat hf, h6⟩
theorem Src.new1F {α : Type} {T : Ty α} (hf : BP T) {w : World} {A : Bl} {vs : List Value} {x : α} {t : TypeId} {b : Nat} {w' : World} (hb : b = w.heap.size) (hw : w' = w.alloc (.cells vs.toArray t)) (h : T.rep w A vs x) :
   Src T w' A (some ⟨b, 0, none⟩) 1 [x] := by
 subst hb hw
 refine ⟨rfl, .inr ⟨_, 0, rfl, vs, gw.one (hf _ _ _ _ _ _ h), fun j hj => ?_⟩⟩
 rw [eQ (heap_alloc_new w _), Nat.zero_add]
 simp
theorem vC {w : World} {b off : Nat} {l : List Value} (h : ∀ j, j < l.length -> w.cell? ⟨b, off + j, none⟩ = l[j]?) : ∀ j v, l[j]? = some v -> w.cell? ((⟨b, off, none⟩ : Addr).add j) = some v := fun j v hv => by
 rw [dp, h j (List.getElem?_eq_some_iff.1 hv).1]; exact hv
theorem cJ {α : Type} {T : Ty α} {P : Program} {st t ty : TypeId} {bytes : Nat} {z : Value} (hu : P.underlying st = some (.slice t)) (tf : TF P t T.k bytes z) (hb0 : 0 < bytes)
   {w : World} {A : Bl} {a : Option Addr} {n c : Nat} {xs : List α} (ho : Ow T t w A a n c xs) (hA : ∀ g, bE a = some g -> ¬ A g)
   {y : Option Addr} {m cm : Nat} {ys : List α} (hs : Src T w A y m ys) (hbound : (xs.length + ys.length) * bytes <= 140737488355328) :
   ∃ (w' : World) (a' : Option Addr) (n' c' : Nat), (Builtin.append_ #[st, st] ty #[.slice a n c, .slice y m cm]).run P w = .ok (.slice a' n' c') w' /\ Ow T t w' A a' n' c' (xs ++ ys) /\ w.grownBy w' (bE a) /\
     (∀ g, bE a' = some g -> bE a = some g \/ w.heap.size <= g) := by
 obtain ⟨i, hi, hsz, hby, hz⟩ := tf.info
 have hzc := tf.cells
 have hpos := T.pos
 obtain ⟨hn, hnc, hcm, ho4⟩ := ho
 obtain ⟨hm, hs2⟩ := hs
 subst hn hm
 have hsum : xs.length + ys.length <= 140737488355328 := Nat.le_trans (Nat.le_mul_of_pos_right _ hb0) hbound
 have hml : xs.length + ys.length <= maxLen := by unfold maxLen; omega
 have hkeepA : ∀ {w'}, w.grownBy w' (bE a) -> sg A w w' := fun hg => hX hg fun b hb e => hA b e.symm hb
 rcases ho4 with ⟨rfl, rfl, rfl⟩ | ⟨g, cur, fr, rfl, hg, hf, hcs, hrep⟩
 · -- a nil slice
   rcases hs2 with rfl | ⟨b, off, rfl, l, hl, hcl⟩
   · refine ⟨w, none, 0, 0, ?_, Ow.nil T t w A, ⟨rfl, rfl, rfl, Nat.le_refl _, fun _ _ _ => rfl⟩, fun g h => by cases h⟩
     have hfc : (Builtin.firstCells i.size 0 (.slice y 0 cm)).run P w = .ok #[] w := by
       cases y with
       | none => rfl
       | some y => simp [Builtin.firstCells, loadCells, loadCellsFrom]
     simp [Builtin.append_, br hu, eS hi, Builtin.lenOf, hfc]
   · by_cases h0 : ys.length = 0
     · have : ys = [] := List.eq_nil_of_length_eq_zero h0
       subst this
       refine ⟨w, none, 0, 0, ?_, Ow.nil T t w A, ⟨rfl, rfl, rfl, Nat.le_refl _, fun _ _ _ => rfl⟩, fun g h => by cases h⟩
       simp [Builtin.append_, br hu, eS hi, Builtin.lenOf, Builtin.firstCells, loadCells, loadCellsFrom]
     · have hr := run_append_nil (P := P) w st ty t i z hu hi hz ⟨b, off, none⟩ ys.length cm l (by rw [hl.len, hsz]) (vC hcl) (by omega) (by simp at hsum; omega) (by rw [hby]; simp at hbound; omega)
       refine ⟨_, _, _, _, hr, ?_, ⟨rfl, rfl, rfl, by simp, fun k hk _ => heap_alloc_old w.drew _ hk⟩, fun g h => .inr (by simp [bE] at h; omega)⟩
       have hge := grownCap_ge w ys.length 0 t
       have hcm' : grownCap w ys.length 0 t <= maxLen := grownCap_le_maxLen w ys.length 0 t (by simp at hml; exact hml)
       refine ⟨by simp, hge, hcm', .inr ⟨_, _, (0, 0), rfl, heap_alloc_new w.drew _, fun i _ => by simp, ?_, ?_⟩⟩
       · simp only [Array.size_append, List.size_toArray, size_zeroCells, hzc, hl.len, <- Nat.add_mul]
         congr 1; omega
       · rw [List.nil_append]
         simp only [Array.toList_append]
         rw [<- hl.len, List.take_left]
         exact hl.keep ⟨by simp, fun k hk _ => heap_alloc_old w.drew _ hk⟩
 · have hlt : g < w.heap.size := (Array.getElem?_eq_some_iff.1 hg).1
   have hxl : (cur.toList.take (xs.length * T.k)).length = xs.length * T.k := hrep.len
   -- the appended cells
   obtain ⟨l, hl, hfirst⟩ : ∃ l, gw T w A l ys /\ (Builtin.firstCells i.size ys.length (.slice y ys.length cm)).run P w = .ok l.toArray w := by
     rcases hs2 with rfl | ⟨b, off, rfl, l, hl, hcl⟩
     · refine ⟨[], gw.nil T w A, ?_⟩
       cases y with
       | none => rfl
       | some y => simp [Builtin.firstCells, loadCells, loadCellsFrom]
     · exact ⟨l, hl, run_firstCells_some (P := P) w i.size ys.length ⟨b, off, none⟩ _ _ l (by rw [hl.len, hsz]) (vC hcl)⟩
   have hlapp : ((cur.toList.take (xs.length * T.k)) ++ l).length = (xs.length + ys.length) * T.k := by rw [List.length_append, hxl, hl.len, Nat.add_mul]
   by_cases hroom : xs.length + ys.length <= c
   · have hfit : xs.length * T.k + l.length <= cur.size := by rw [hl.len, hcs, <- Nat.add_mul]; exact Nat.mul_le_mul_right _ hroom
     have hst := jy (P := P) g (xs.length * T.k) t fr l 0 cur w hg (by simpa using hfit) hf hl.ones
     simp only [Nat.add_zero] at hst
     refine ⟨w.setRow g (cur.toList.take (xs.length * T.k) ++ l ++ cur.toList.drop (xs.length * T.k + l.length)).toArray, some ⟨g, 0, none⟩, xs.length + ys.length, c, ?_, ?_, gN w g _, fun g' h => .inl h⟩
     · have hadd : (⟨g, 0, none⟩ : Addr).add (xs.length * i.size) = ⟨g, xs.length * T.k, none⟩ := by rw [dp, hsz, Nat.zero_add]
       simp only [Builtin.append_, Sem.run_bind, br hu, eS hi, Builtin.lenOf, Sem.run_pure, Result.andThen_ok, hroom, List.getElem?_toArray, List.getElem?_cons_zero, List.getElem?_cons_succ, if_true, Bool.false_eq_true, if_false, Bool.not_false, hfirst, hadd, hst]
     · refine ⟨by simp, hroom, hcm, .inr ⟨g, _, fr, rfl, setRow_heap w g cur _ t fr hg, ?_, ?_, ?_⟩⟩
       · intro j hj
         refine hf j ?_
         simp at hj; omega
       · simp; omega
       · have e : ((cur.toList.take (xs.length * T.k) ++ l ++ cur.toList.drop (xs.length * T.k + l.length)).toArray).toList.take ((xs.length + ys.length) * T.k) = cur.toList.take (xs.length * T.k) ++ l := by
           rw [<- hlapp]; simp only []; exact List.take_left
         rw [e]
         exact (hrep.append hl).keep (hkeepA (gN w g _))
   · have holds : ∀ j v, (cur.toList.take (xs.length * T.k))[j]? = some v -> w.cell? ((⟨g, 0, none⟩ : Addr).add j) = some v := fun j v hv => by
       rw [dp, Nat.zero_add, eQ hg]
       rw [List.getElem?_take] at hv
       split at hv
       · simpa using hv
       · cases hv
     have hne : ys ≠ [] := by
       intro e; subst e; simp at hroom; omega
     rcases hs2 with rfl | ⟨b, off, rfl, l', hl', hcl⟩
     · exact absurd rfl hne
     · have hr := run_append_grow (P := P) w st ty t i z hu hi hz ⟨g, 0, none⟩ xs.length c (cur.toList.take (xs.length * T.k)) (by rw [hxl, hsz]) holds ⟨b, off, none⟩ ys.length cm l' (by rw [hl'.len, hsz]) (vC hcl)
         (by omega) (by omega) (growslice_fits (by omega) (by rw [hby]; exact hbound))
       refine ⟨_, _, _, _, hr, ?_, ⟨rfl, rfl, rfl, by simp, fun k hk _ => heap_alloc_old w.drew _ hk⟩, fun g' h => .inr (by simp [bE] at h; omega)⟩
       have hge := grownCap_ge w (xs.length + ys.length) c t
       have hcm' : grownCap w (xs.length + ys.length) c t <= maxLen := grownCap_le_maxLen w _ c t hml
       have hlapp' : ((cur.toList.take (xs.length * T.k)) ++ l').length = (xs.length + ys.length) * T.k := by rw [List.length_append, hxl, hl'.len, Nat.add_mul]
       refine ⟨by simp, hge, hcm', .inr ⟨_, _, (0, 0), rfl, heap_alloc_new w.drew _, fun i _ => by simp, ?_, ?_⟩⟩
       · simp only [Array.size_append, List.size_toArray, size_zeroCells, hzc, hxl, hl'.len, <- Nat.add_mul]
         congr 1; omega
       · simp only [Array.toList_append]
         rw [<- hlapp', List.take_left]
         exact (hrep.append hl').keep ⟨by simp, fun k hk _ => heap_alloc_old w.drew _ hk⟩
theorem pb {P : Program} {t u : TypeId} {ti : TypeInfo} (hi : P.info? t = some ti) {w : World} {g o : Nat} {cur : Array Value} {fr : Nat × Nat} (hg : w.heap[g]? = some (.cells cur u fr))
   (hf : ∀ i, i < cur.size -> ¬ (fr.1 <= i /\ i < fr.2)) {v : Value} (hs : v.cells.size = ti.size) (hfit : o + ti.size <= cur.size) (h1 : ∀ c ∈ v.cells.toList, c.oneCell' = true) :
   (Instr.storeAt t (.pointer (some ⟨g, o, none⟩)) v).run P w = .ok () (w.setRow g (cur.toList.take o ++ v.cells.toList ++ cur.toList.drop (o + v.cells.size)).toArray) := by
 show (do storeVar t (<- Instr.sureAddr (.pointer (some ⟨g, o, none⟩))) v).run P w = _
 rw [Sem.run_bind, gM, Result.andThen_ok]
 unfold storeVar
 rw [Sem.run_bind, eS hi, Result.andThen_ok, if_neg (by simp [hs])]
 have := jy (P := P) g o u fr v.cells.toList 0 cur w hg (by simp; omega) hf h1
 simpa using this
theorem Ow.store {α : Type} {T : Ty α} {P : Program} {t : TypeId} {bytes : Nat} {z : Value} (tf : TF P t T.k bytes z) {w : World} {A : Bl} {a : Option Addr} {n c : Nat} {xs : List α} (ho : Ow T t w A a n c xs) (hA : ∀ g, bE a = some g -> ¬ A g)
   {i : Int} (hi : i.toNat < xs.length) {k : Nat} (hk : T.k = k) {v : Value} {x : α} (hv : T.rep w A v.cells.toList x) :
   ∃ w', (Instr.storeAt t (.pointer (ao a i k)) v).run P w = .ok () w' /\ Ow T t w' A a n c (xs.set i.toNat x) /\ w.grownBy w' (bE a) := by
 subst hk
 obtain ⟨ti, hti, hsz, _, _⟩ := tf.info
 have hvl := T.len hv
 have hA' := hA
 obtain ⟨hn, hnc, hcm, ho4⟩ := ho
 rcases ho4 with ⟨_, _, rfl⟩ | ⟨g, cur, fr, rfl, hg, hf, hcs, hrep⟩
 · cases hi
 · subst hn
   have hb : i.toNat * T.k + T.k <= xs.length * T.k := by
     have := Nat.mul_le_mul_right T.k (show i.toNat + 1 <= xs.length from hi)
     rwa [Nat.add_mul, Nat.one_mul] at this
   have hb2 : xs.length * T.k <= cur.size := by rw [hcs]; exact Nat.mul_le_mul_right _ hnc
   have hvs : v.cells.size = T.k := by simpa using hvl
   rw [zi, Nat.zero_add]
   refine ⟨_, pb hti hg hf (by rw [hvs, hsz]) (by rw [hsz]; omega) (T.one hv), ?_, gN w g _⟩
   refine ⟨by simp, hnc, hcm, .inr ⟨g, _, fr, rfl, setRow_heap w g cur _ t fr hg, ?_, ?_, ?_⟩⟩
   · intro j hj
     refine hf j ?_
     simp at hj; omega
   · simp; omega
   · have h1 := (hrep.set hi hv).keep (hX (gN w g (cur.toList.take (i.toNat * T.k) ++ v.cells.toList ++ cur.toList.drop (i.toNat * T.k + v.cells.size)).toArray) fun b hb e => hA g rfl (by cases e; exact hb))
     have e : ((cur.toList.take (i.toNat * T.k) ++ v.cells.toList ++ cur.toList.drop (i.toNat * T.k + v.cells.size)).toArray).toList.take (xs.length * T.k) =
         (cur.toList.take (xs.length * T.k)).take (i.toNat * T.k) ++ v.cells.toList ++ (cur.toList.take (xs.length * T.k)).drop (i.toNat * T.k + v.cells.toList.length) := by
       simp only []
       have e1 : (cur.toList.take (xs.length * T.k)).take (i.toNat * T.k) = cur.toList.take (i.toNat * T.k) := by rw [List.take_take]; congr 1; omega
       rw [e1, List.take_append, List.drop_take]
       have e2 : (cur.toList.take (i.toNat * T.k) ++ v.cells.toList).length = i.toNat * T.k + T.k := by simp [hvs]; omega
       rw [e2, List.take_of_length_le (by rw [e2]; omega)]
       congr 2
       rw [hvl]
     rw [e]; exact h1
theorem qN {w w' : World} (hos : w'.os = w.os) (ht : w'.tape = w.tape) (ho : w'.output = w.output) (hs : w.heap.size <= w'.heap.size) (hb : ∀ k, k < w.heap.size -> w'.heap[k]? = w.heap[k]?) : Below w.heap.size w w' := ⟨hos, ht, ho, hs, hb⟩
theorem fv {α : Type} {e : α -> Value} {h1 : ∀ x, (e x).oneCell' = true} {p : α -> Prop} {w : World} {A : Bl} {xs : List α} (hp : ∀ x ∈ xs, p x) : gw (Ty.enc e h1 p) w A (xs.map e) xs := by
 refine ⟨by simp [Ty.enc], fun i hi => ?_⟩
 have : ((xs.map e).drop (i * 1)).take 1 = [e xs[i]] := by
   rw [Nat.mul_one, <- List.map_drop, List.drop_eq_getElem_cons hi]; rfl
 exact ⟨this, hp _ (List.getElem_mem hi)⟩
theorem ee {α : Type} {e : α -> Value} {h1 : ∀ x, (e x).oneCell' = true} {p : α -> Prop} {w : World} {A : Bl} : ∀ {l : List Value} {xs : List α}, gw (Ty.enc e h1 p) w A l xs -> l = xs.map e := by
 intro l xs h
 have hl : l.length = xs.length := by have := h.len; simpa [Ty.enc] using this
 apply List.ext_getElem (by simp [hl])
 intro i h1 h2
 have hi : i < xs.length := by omega
 have h3 : ((l.drop (i * 1)).take 1) = [e xs[i]] := (h.rep i hi).1
 have h4 : ((l.drop (i * 1)).take 1)[0]? = some (e xs[i]) := by rw [h3]; rfl
 rw [Nat.mul_one, List.getElem?_take, if_pos (by decide), List.getElem?_drop, Nat.add_zero, List.getElem?_eq_getElem h1] at h4
 rw [List.getElem_map]; exact Option.some.inj h4
theorem vj {P : Program} {s d t : TypeId} (hs : P.underlying s = some .string) (hd : P.underlying d = some (.slice t)) (ht : P.underlying t = some (.int .u8)) (w : World) (l : List UInt8) (hl : l.length <= 9223372036854775807) (A : Bl) :
   ∃ (w' : World) (a : Option Addr) (n c : Nat), (convert s d (.string (mkS l))).run P w = .ok (.slice a n c) w' /\ Ow tU8 t w' A a n c l /\ Below w.heap.size w w' /\ bD w.heap.size a := by
 have hcap : ∃ cap, l.length <= cap /\ cap <= maxLen /\ (choose (.appendCap l.length 0 t)).run P w = .ok cap w.drew := by
   refine ⟨_, grownCap_ge w l.length 0 t, grownCap_le_maxLen w l.length 0 t (by unfold maxLen; omega), ?_⟩
   rw [run_choose]; rfl
 obtain ⟨cap, h1, h2, hch⟩ := hcap
 have hsz : (mkS l).size = l.length := rfl
 generalize hcs : (mkS l).data.map (fun b => Value.int .u8 (b.toNat : Nat)) ++ Array.replicate (cap - l.length) (Value.int .u8 0) = cs
 have hcss : cs.size = cap := by rw [<- hcs]; simp [mkS]; omega
 have hmark : (markStringish ⟨w.heap.size, 0, none⟩).run P (w.drew.alloc (.cells cs t)) = .ok () ((w.drew.alloc (.cells cs t)).freeze ⟨w.heap.size, cs.size, none⟩ 1) := by
   unfold markStringish
   have : (w.drew.alloc (.cells cs t)).shape? w.heap.size = some (t, cs.size) := by
     unfold World.shape?
     have := heap_alloc_new w.drew (.cells cs t)
     rw [show w.drew.heap.size = w.heap.size from rfl] at this
     rw [this]
   simp [this]
 refine ⟨(w.drew.alloc (.cells cs t)).freeze ⟨w.heap.size, cs.size, none⟩ 1, some ⟨w.heap.size, 0, none⟩, l.length, cap, ?_, ?_, ?_, fun g hg => by simp [bE] at hg; omega⟩
 · simp only [convert, Sem.run_bind, br hs, br hd, Result.andThen_ok, br ht, Conv.stringToBytes, hsz, hch]
   show ((newRow t _).run P w.drew).andThen _ = _
   rw [hcs]
   simp only [newRow, Sem.run_bind, run_newObj, Result.andThen_ok, Sem.run_pure, World.alloc_eq]
   rw [show w.drew.heap.size = w.heap.size from rfl, hmark]
   rfl
 · have hheap : ((w.drew.alloc (.cells cs t)).freeze ⟨w.heap.size, cs.size, none⟩ 1).heap[w.heap.size]? = some (.cells cs t (cs.size, cs.size + 1)) := by
     have := heap_alloc_new w.drew (.cells cs t)
     rw [show w.drew.heap.size = w.heap.size from rfl] at this
     simp only [World.freeze, if_neg (show ¬ (1 : Nat) = 0 by decide), Array.getElem?_modify, if_true, this]
     rfl
   refine ⟨rfl, h1, h2, .inr ⟨_, _, _, rfl, hheap, fun i hi => by omega, by rw [hcss]; exact (Nat.mul_one cap).symm, ?_⟩⟩
   have e : cs.toList.take (l.length * tU8.k) = l.map fun c => Value.int .u8 (c.toNat : Nat) := by
     rw [<- hcs]
     simp [mkS, tU8, Ty.enc]
   rw [e]
   exact fv fun _ _ => trivial
 · refine qN rfl rfl rfl (by simp [World.freeze]) fun k hk => ?_
   simp only [World.freeze, if_neg (show ¬ (1 : Nat) = 0 by decide), Array.getElem?_modify]
   rw [if_neg (show ¬ w.heap.size = k by omega)]
   exact heap_alloc_old w.drew _ hk
theorem oU {P : Program} {s d t : TypeId} (hs : P.underlying s = some (.slice t)) (hd : P.underlying d = some .string) (ht : P.underlying t = some (.int .u8)) {w : World} {A : Bl} {a : Option Addr} {n c : Nat} {xs : List UInt8} (h : Sl tU8 w A a n c xs) :
   (convert s d (.slice a n c)).run P w = .ok (.string (mkS xs)) w := by
 have conv : (convert s d (.slice a n c)).run P w = (Conv.bytesToString (.slice a n c)).run P w := by
   cases a <;> simp [convert, br hs, br hd, br ht]
 rw [conv]
 obtain ⟨hn, _, _, h4⟩ := h
 have loop : ∀ (msg : String) (l : List UInt8) (acc : List UInt8), (do
     let r <- forIn (l.map fun c => Value.int .u8 (c.toNat : Nat)) (mkS acc) fun c r => do
       let .int .u8 n := c | stuck msg
       pure (ForInStep.yield (r.push (UInt8.ofNat n.toNat)))
     pure (Value.string r) : Sem Value).run P w = .ok (.string (mkS (acc ++ l))) w := by
   intro msg l
   induction l with
   | nil => intro acc; simp
   | cons x l ih =>
     intro acc
     have e1 : (mkS acc).push x = mkS (acc ++ [x]) := by simp [mkS, ByteArray.push]
     have := ih (acc ++ [x])
     simp only [List.map_cons, List.forIn_cons, bind_assoc, pure_bind, Int.toNat_natCast, UInt8.ofNat_toNat, e1]
     rw [this]; simp
 cases a with
 | none =>
   have : xs = [] := by
     rcases h4 with h4 | ⟨b, off, e, _⟩
     · exact h4
     · cases e
   subst this
   simp [Conv.bytesToString]; rfl
 | some p =>
   have hcells : (loadCells p n).run P w = .ok (xs.map fun c => Value.int .u8 (c.toNat : Nat)).toArray w := by
     rcases h4 with h4 | ⟨b, off, e, hb, hab, l, h5, h6⟩
     · subst h4; subst hn; simp [loadCells, loadCellsFrom]
     · cases e
       have := Br (P := P) h6
       rw [h5.len] at this
       rw [ee h5] at this
       rw [hn]
       simpa [tU8, Ty.enc] using this
   have key : ∃ msg : String, (Conv.bytesToString (.slice (some p) n c)).run P w = ((loadCells p n).run P w).andThen fun cs w' => (do
     let r <- forIn cs (mkS []) fun c r => do
       let .int .u8 n := c | stuck msg
       pure (ForInStep.yield (r.push (UInt8.ofNat n.toNat)))
     pure (Value.string r) : Sem Value).run P w' := by
     constructor
     unfold Conv.bytesToString
     simp only [Sem.run_bind]
     rfl
   obtain ⟨msg, key⟩ := key
   rw [key, hcells, Result.andThen_ok]
   have := loop msg xs []
   rw [List.nil_append] at this
   rw [<- this]
   simp only [List.forIn_toArray]
theorem ak {n : Int} (h1 : -9223372036854775808 <= n) (h2 : n <= 9223372036854775807) : i64.wrap n = n := IntWalk.i64_in n ⟨h1, h2⟩
theorem jL {n : Int} (h1 : 0 <= n) (h2 : n <= 255) : IntKind.u8.wrap n = n := IntWalk.u8_in n ⟨h1, h2⟩
theorem jP (c : UInt8) : (0 : Int) <= (c.toNat : Nat) /\ ((c.toNat : Nat) : Int) <= 255 := by
 have := c.toNat_lt; omega
theorem eX {s : List UInt8} {i : Int} (h : i.toNat < s.length) : aP s i = ((s[i.toNat]).toNat : Nat) := by
 simp [aP, h]
theorem FU {a b : UInt8} (h : ((a.toNat : Nat) : Int) = ((b.toNat : Nat) : Int)) : a = b := UInt8.toNat_inj.1 (by omega)
theorem r9 {n : Nat} (h : n <= 255) : (UInt8.ofNat n).toNat = n := by rw [UInt8.toNat_ofNat']; omega
theorem sK {w : World} {A : Bl} {n : Int} {c : UInt8} (h : n = ((c.toNat : Nat) : Int)) : tU8.rep w A [.int .u8 n] c := ⟨by rw [h], trivial⟩
theorem iY {w : World} {A : Bl} {n : Int} : i7.rep w A [.int .i64 n] n := ⟨rfl, trivial⟩
theorem zT {w : World} {A : Bl} {b : Bool} : ul.rep w A [.bool b] b := ⟨rfl, trivial⟩
theorem nn {w : World} {A : Bl} {p : List UInt8 -> Prop} {s : List UInt8} (h : p s) : (G8 p).rep w A [.string (mkS s)] s := ⟨rfl, h⟩
theorem yO {w : World} {A : Bl} {v : Value} {c : UInt8} (h : tU8.rep w A [v] c) : v = .int .u8 (c.toNat : Nat) := by have := h.1; simpa using this
theorem Cp {w : World} {A : Bl} {v : Value} {n : Int} (h : i7.rep w A [v] n) : v = .int .i64 n := by have := h.1; simpa using this
theorem zb {w : World} {A : Bl} {v : Value} {n : Bool} (h : ul.rep w A [v] n) : v = .bool n := by have := h.1; simpa using this
theorem i6 {w : World} {A : Bl} {p : List UInt8 -> Prop} {v : Value} {s : List UInt8} (h : (G8 p).rep w A [v] s) : v = .string (mkS s) /\ p s := ⟨by have := h.1; simpa using this, h.2⟩
theorem bD.app {B : Nat} {w : World} {a a' : Option Addr} (hf : bD B a) (hB : B <= w.heap.size) (h : ∀ g, bE a' = some g -> bE a = some g \/ w.heap.size <= g) : bD B a' := fun g hg => by
 rcases h g hg with h | h
 · exact hf g h
 · exact Nat.le_trans hB h
theorem jr : BP i7 := fun _ _ _ _ _ _ h => h
theorem rN : BP tU8 := fun _ _ _ _ _ _ h => h
theorem wg : BP ul := fun _ _ _ _ _ _ h => h
theorem dP (p : List UInt8 -> Prop) : BP (G8 p) := fun _ _ _ _ _ _ h => h
theorem Ow.newF {α : Type} {T : Ty α} (hf : BP T) {w w' : World} {A : Bl} {t : TypeId} {l : List Value} {xs : List α} {b : Nat} (hb : b = w.heap.size) (hw : w' = w.alloc (.cells l.toArray t)) (h : gw T w A l xs) (hm : xs.length <= maxLen) :
   Ow T t w' A (some ⟨b, 0, none⟩) xs.length xs.length xs := by
 subst hb hw
 refine ⟨rfl, Nat.le_refl _, hm, .inr ⟨_, l.toArray, (0, 0), rfl, heap_alloc_new w _, ?_, by simpa using h.len, ?_⟩⟩
 · intro i hi; simp
 · rw [<- h.len]; simp; exact h.flat hf
theorem fZ {w : World} {b : Nat} (hb : b = w.heap.size) : bD w.heap.size (some ⟨b, 0, none⟩) := fun g hg => by simp [bE] at hg; omega
end Go.Pk
namespace Go.Pk
theorem jJ {H : Type} {enc : TypeId × Value -> H} {C : Checked} {os : Os} {f : FuncId} {fn : Func} {s : OpenSpec} {conds : List PathCond} {apart : Bool} {laid : List (String × DataW Unit)} (modest : Bool) (w0 : World) (args : Array Value) (hos : w0.os = os)
   (hsh : (w0.forCall (fun _ _ => 0) ⟨#[], args, []⟩).Shaped C.prog)
   (hok : Input.okWideB C.prog (w0.forCall (fun _ _ => 0) ⟨#[], args, []⟩) f ⟨#[], args, []⟩ = true)
   (hrow : s.preRow enc C.prog fn conds apart laid (w0.forCall (fun _ _ => 0) ⟨#[], args, []⟩).memory args) :
   ∃ (w : World) (tape : Tape) (i : Input), w.os = os /\ (w.forCall tape i).Shaped C.prog /\ i.vars = [] /\ Input.okWide C.prog (w.forCall tape i) .any w.heap.size f i /\
     s.preRow enc C.prog fn conds apart laid (w.forCall tape i).memory i.args /\ ({ modest := modest } : Assume).holds C.prog (lone (Frame.enter C.prog f i.args .normal) [] (w.forCall tape i)) :=
 ⟨w0, fun _ _ => 0, ⟨#[], args, []⟩, hos, hsh, (Input.okWide_of_okWideB (base := 0) hok).1, (Input.okWide_of_okWideB hok).2, hrow, by
   simp only [Assume.holds]
   exact ⟨by simp, by simp, fun _ => Modest.zero, by simp, by simp⟩⟩
end Go.Pk
namespace Go.Proofs.YtpafoodmpjlkhaaGreatDoor
open Go.Pk
abbrev gG : Nat := 11
abbrev jm : Nat := 12
abbrev jb : Nat := 13
abbrev fX : Nat := 14
abbrev dI : Nat := 15
abbrev gA : Nat := 16
abbrev dj : Nat := 17
abbrev gB : Nat := 20
abbrev mY : Nat := 28
abbrev j9 : Nat := 29
abbrev cC : Nat := 30
abbrev qK : Nat := 31
abbrev fm : Nat := 45
abbrev gm : Nat := 46
abbrev df : Nat := 47
abbrev jo : Nat := 48
abbrev qL : Nat := 49
abbrev aR : Nat := 50
abbrev jn : Nat := 51
abbrev dO : Nat := 52
abbrev oE : Nat := 53
abbrev jV : Nat := 54
abbrev jp : Nat := 55
abbrev ir : Nat := 56
abbrev pP : Nat := 57
abbrev m6 : Nat := 62
abbrev bf : Nat := 63
abbrev bP : Nat := 64
abbrev kq : Nat := 65
abbrev ke : Nat := 66
abbrev pN : Nat := 67
abbrev oA : Nat := 68
abbrev oB : Nat := 69
abbrev j1 : Nat := 70
abbrev kT : Nat := 71
abbrev lp : Nat := 72
abbrev oz : Nat := 73
abbrev fB : Nat := 74
abbrev fc : Nat := 90
abbrev fO : Nat := 94
abbrev gF : Nat := 95
abbrev bp : Nat := 96
abbrev eE : Nat := 97
abbrev oy : Nat := 98
abbrev tM : Nat := 99
abbrev pM : Nat := 100
abbrev cB : Nat := 101
abbrev lF : Nat := 102
abbrev pS : Nat := 103
abbrev pT : Nat := 104
abbrev xH : Nat := 105
abbrev lk : Nat := 114
abbrev bI : Nat := 115
abbrev lI : Nat := 116
abbrev rL : Nat := 117
abbrev vV : Nat := 118
abbrev iq : Nat := 119
abbrev gY : Nat := 120
abbrev lj : Nat := 121
abbrev vU : Nat := 122
abbrev cA : Nat := 123
abbrev pO : Nat := 124
abbrev pI : Nat := 128
abbrev pJ : Nat := 129
abbrev jg : Nat := 130
abbrev dU : Nat := 131
abbrev cK : Nat := 132
abbrev rM : Nat := 139
abbrev eI : Nat := 148
abbrev jR : Nat := 151
abbrev aN : Nat := 152
abbrev cv : Nat := 153
abbrev lH : Nat := 154
abbrev cu : Nat := 155
abbrev bY : Nat := 156
abbrev dX : Nat := 157
abbrev pR : Nat := 158
abbrev ij : Nat := 159
abbrev zj : Nat := 171
abbrev qJ : Nat := 172
abbrev rJ : Nat := 173
abbrev vW : Nat := 174
abbrev mZ : Nat := 175
abbrev eZ : Nat := 176
abbrev cV : Nat := 177
abbrev oC : Nat := 178
abbrev re : Nat := 181
abbrev ow : Nat := 182
abbrev pL : Nat := 183
abbrev ip : Nat := 184
abbrev bA : Nat := 202
abbrev nJ : Nat := 204
abbrev iW : Nat := 205
abbrev gz : Nat := 206
abbrev pK : Nat := 214
abbrev gr : Nat := 216
abbrev ik : Nat := 220
abbrev fY : Nat := 238
abbrev nI : Nat := 249
abbrev li : Nat := 250
abbrev jW : Nat := 251
abbrev cZ : Nat := 252
abbrev eY : Nat := 256
abbrev eq : Nat := 257
abbrev gC : Nat := 259
abbrev jZ : Nat := 278
abbrev d5 : Nat := 279
abbrev d6 : Nat := 280
abbrev j0 : Nat := 281
abbrev jq : Nat := 282
abbrev az : Nat := 3
abbrev eV : Nat := 4
abbrev aF : Nat := 5
abbrev ar : Nat := 9
abbrev rF : Nat := 20
abbrev aY : Nat := 22
abbrev aA : Nat := 24
abbrev aS : Nat := 25
abbrev aj : Nat := 27
abbrev ai : Nat := 32
abbrev ae : Nat := 34
abbrev aw : Nat := 38
abbrev aV : Nat := 39
abbrev bt : Nat := 93
abbrev eW : Nat := 95
abbrev jT : Nat := 174
abbrev aO : Nat := 176
abbrev dW : Nat := 177
abbrev jk : Nat := 178
abbrev aK : Nat := 198
abbrev aW : Nat := 200
abbrev aH : Nat := 202
abbrev jU : Nat := 203
abbrev bv : Nat := 206
abbrev ep : Nat := 208
abbrev dG : Nat := 220
abbrev fz : Nat := 223
abbrev aJ : Nat := 224
abbrev yT : Nat := 299
abbrev lg : Nat := 305
theorem aI : prog.underlying az = some (.int .i64) := by kernel_rfl
theorem jA : TF prog az 1 8 (.int .i64 (0 : Int)) := TF.of (by kernel_rfl) (by kernel_rfl) false (by kernel_rfl) (.inr rfl)
theorem qw : prog.underlying eV = some (.bool) := by kernel_rfl
theorem uo : TF prog eV 1 1 (.bool false) := TF.of (by kernel_rfl) (by kernel_rfl) false (by kernel_rfl) (.inr rfl)
theorem bF : prog.underlying aF = some (.int .u8) := by kernel_rfl
theorem gu : TF prog aF 1 1 (.int .u8 (0 : Int)) := TF.of (by kernel_rfl) (by kernel_rfl) false (by kernel_rfl) (.inr rfl)
theorem aC : prog.underlying ar = some (.string) := by kernel_rfl
theorem iD : TF prog ar 1 16 (.string (mkS [])) := TF.of (by kernel_rfl) (by kernel_rfl) false (by kernel_rfl) (.inr rfl)
theorem io : prog.underlying aY = some (.pointer eW) := by kernel_rfl
theorem bi : prog.underlying aA = some (.slice az) := by kernel_rfl
theorem xk : TF prog aA 1 24 (.slice none 0 0) := TF.of (by kernel_rfl) (by kernel_rfl) false (by kernel_rfl) (.inr rfl)
theorem bg : prog.underlying aS = some (.slice eV) := by kernel_rfl
theorem yN : TF prog aS 1 24 (.slice none 0 0) := TF.of (by kernel_rfl) (by kernel_rfl) false (by kernel_rfl) (.inr rfl)
theorem En : TF prog aj 4 64 (.agg #[.int .i64 (0 : Int), .int .i64 (0 : Int), .slice none 0 0, .slice none 0 0]) := TF.of (by kernel_rfl) (by kernel_rfl) true (by kernel_rfl) (.inl rfl)
abbrev aG : Array Value := #[.int .u8 (0 : Int), .int .u8 (0 : Int), .int .u8 (0 : Int), .int .u8 (0 : Int), .int .u8 (0 : Int), .int .u8 (0 : Int), .int .u8 (0 : Int), .int .u8 (0 : Int), .int .u8 (0 : Int), .int .u8 (0 : Int), .int .u8 (0 : Int), .int .u8 (0 : Int), .int .u8 (0 : Int), .int .u8 (0 : Int), .int .u8 (0 : Int), .int .u8 (0 : Int)]
theorem CJ : TF prog ai 16 16 (.agg #[.int .u8 (0 : Int), .int .u8 (0 : Int), .int .u8 (0 : Int), .int .u8 (0 : Int), .int .u8 (0 : Int), .int .u8 (0 : Int), .int .u8 (0 : Int), .int .u8 (0 : Int), .int .u8 (0 : Int), .int .u8 (0 : Int), .int .u8 (0 : Int), .int .u8 (0 : Int), .int .u8 (0 : Int), .int .u8 (0 : Int), .int .u8 (0 : Int), .int .u8 (0 : Int)]) := TF.of (by kernel_rfl) (by kernel_rfl) true (by kernel_rfl) (.inl rfl)
abbrev aL : Array Value := #[.int .i64 (0 : Int), .string (mkS []), .int .u8 (0 : Int), .int .u8 (0 : Int), .int .u8 (0 : Int), .int .u8 (0 : Int), .int .u8 (0 : Int), .int .u8 (0 : Int), .int .u8 (0 : Int), .int .u8 (0 : Int), .int .u8 (0 : Int), .int .u8 (0 : Int), .int .u8 (0 : Int), .int .u8 (0 : Int), .int .u8 (0 : Int), .int .u8 (0 : Int), .int .u8 (0 : Int), .int .u8 (0 : Int)]
theorem CK : TF prog ae 18 40 (.agg #[.int .i64 (0 : Int), .string (mkS []), .int .u8 (0 : Int), .int .u8 (0 : Int), .int .u8 (0 : Int), .int .u8 (0 : Int), .int .u8 (0 : Int), .int .u8 (0 : Int), .int .u8 (0 : Int), .int .u8 (0 : Int), .int .u8 (0 : Int), .int .u8 (0 : Int), .int .u8 (0 : Int), .int .u8 (0 : Int), .int .u8 (0 : Int), .int .u8 (0 : Int), .int .u8 (0 : Int), .int .u8 (0 : Int)]) := TF.of (by kernel_rfl) (by kernel_rfl) true (by kernel_rfl) (.inl rfl)
theorem bh : prog.underlying aw = some (.slice ar) := by kernel_rfl
theorem BE : TF prog aw 1 24 (.slice none 0 0) := TF.of (by kernel_rfl) (by kernel_rfl) false (by kernel_rfl) (.inr rfl)
theorem cD : prog.underlying aV = some (.slice aF) := by kernel_rfl
theorem cN : prog.underlying bt = some (.map ar az) := by kernel_rfl
theorem xj : TF prog aO 2 16 (.agg #[.int .i64 (0 : Int), .int .i64 (0 : Int)]) := TF.of (by kernel_rfl) (by kernel_rfl) true (by kernel_rfl) (.inl rfl)
theorem ja : prog.underlying dW = some (.map aO az) := by kernel_rfl
theorem yg : prog.underlying jk = some (.slice aO) := by kernel_rfl
theorem bo : prog.underlying aK = some (.slice aH) := by kernel_rfl
theorem ro : TF prog aK 1 24 (.slice none 0 0) := TF.of (by kernel_rfl) (by kernel_rfl) false (by kernel_rfl) (.inr rfl)
theorem ly : TF prog aH 2 16 (.agg #[.int .i64 (0 : Int), .int .i64 (0 : Int)]) := TF.of (by kernel_rfl) (by kernel_rfl) true (by kernel_rfl) (.inl rfl)
theorem sU : prog.underlying jU = some (.slice bv) := by kernel_rfl
theorem my : prog.underlying bv = some (.slice ep) := by kernel_rfl
theorem qu : TF prog bv 1 24 (.slice none 0 0) := TF.of (by kernel_rfl) (by kernel_rfl) false (by kernel_rfl) (.inr rfl)
theorem uJ : TF prog ep 2 16 (.agg #[.int .i64 (0 : Int), .int .i64 (0 : Int)]) := TF.of (by kernel_rfl) (by kernel_rfl) true (by kernel_rfl) (.inl rfl)
theorem qx : prog.underlying dG = some (.slice fz) := by kernel_rfl
theorem xm : prog.underlying fz = some (.int .u16) := by kernel_rfl
theorem BF : TF prog fz 1 2 (.int .u16 (0 : Int)) := TF.of (by kernel_rfl) (by kernel_rfl) false (by kernel_rfl) (.inr rfl)
theorem yf : TF prog aJ 8 16 (.agg #[.int .u16 (0 : Int), .int .u16 (0 : Int), .int .u16 (0 : Int), .int .u16 (0 : Int), .int .u16 (0 : Int), .int .u16 (0 : Int), .int .u16 (0 : Int), .int .u16 (0 : Int)]) := TF.of (by kernel_rfl) (by kernel_rfl) true (by kernel_rfl) (.inl rfl)
abbrev yV : Array Value := #[.int .u8 (0 : Int), .int .u8 (0 : Int), .int .u8 (0 : Int), .int .u8 (0 : Int), .int .u8 (0 : Int), .int .u8 (0 : Int), .int .u8 (0 : Int), .int .u8 (0 : Int), .int .u8 (0 : Int), .int .u8 (0 : Int), .int .u8 (0 : Int), .int .u8 (0 : Int), .int .u8 (0 : Int), .int .u8 (0 : Int), .int .u8 (0 : Int), .int .u8 (0 : Int), .int .u8 (0 : Int), .int .u8 (0 : Int), .int .u8 (0 : Int), .int .u8 (0 : Int), .int .u8 (0 : Int), .int .u8 (0 : Int), .int .u8 (0 : Int), .int .u8 (0 : Int)]
abbrev yW : Array Value := #[.int .u8 (0 : Int), .int .u8 (0 : Int), .int .u8 (0 : Int), .int .u8 (0 : Int), .int .u8 (0 : Int), .int .u8 (0 : Int), .int .u8 (0 : Int), .int .u8 (0 : Int), .int .u8 (0 : Int), .int .u8 (0 : Int), .int .u8 (0 : Int), .int .u8 (0 : Int), .int .u8 (0 : Int), .int .u8 (0 : Int), .int .u8 (0 : Int), .int .u8 (0 : Int), .int .u8 (0 : Int), .int .u8 (0 : Int), .int .u8 (0 : Int), .int .u8 (0 : Int), .int .u8 (0 : Int), .int .u8 (0 : Int), .int .u8 (0 : Int), .int .u8 (0 : Int), .int .u8 (0 : Int), .int .u8 (0 : Int), .int .u8 (0 : Int), .int .u8 (0 : Int), .int .u8 (0 : Int), .int .u8 (0 : Int), .int .u8 (0 : Int), .int .u8 (0 : Int), .int .u8 (0 : Int), .int .u8 (0 : Int), .int .u8 (0 : Int), .int .u8 (0 : Int), .int .u8 (0 : Int), .int .u8 (0 : Int), .int .u8 (0 : Int), .int .u8 (0 : Int), .int .u8 (0 : Int), .int .u8 (0 : Int), .int .u8 (0 : Int), .int .u8 (0 : Int), .int .u8 (0 : Int), .int .u8 (0 : Int), .int .u8 (0 : Int), .int .u8 (0 : Int), .int .u8 (0 : Int), .int .u8 (0 : Int), .int .u8 (0 : Int), .int .u8 (0 : Int), .int .u8 (0 : Int), .int .u8 (0 : Int), .int .u8 (0 : Int), .int .u8 (0 : Int), .int .u8 (0 : Int), .int .u8 (0 : Int), .int .u8 (0 : Int), .int .u8 (0 : Int), .int .u8 (0 : Int), .int .u8 (0 : Int), .int .u8 (0 : Int), .int .u8 (0 : Int), .int .u8 (0 : Int)]
end Go.Proofs.YtpafoodmpjlkhaaGreatDoor
set_option maxRecDepth 100000
namespace Go.Proofs.YtpafoodmpjlkhaaGreatDoor
open Go.Pk
open Go.RowKit (Below)
--  cracknel/cracknelref15.Right
abbrev Ld (t : TypeId) (p : Option Addr) (w : World) (v : Value) : Prop := (Instr.loadAt t (.pointer p)).run prog w = .ok v w
abbrev Sv (t : TypeId) (p : Option Addr) (v : Value) (w x : World) : Prop := (Instr.storeAt t (.pointer p) v).run prog w = .ok () x
abbrev hV (a b c d : List UInt8) (e : Bool) (f : Int) (g : Bool) (h : Int) (i j : Bool) (k : Int) : Value := .agg #[.string (mkS a), .string (mkS b), .string (mkS c), .string (mkS d), .bool e, .int .i64 f, .bool g, .int .i64 h, .bool i, .bool j, .int .i64 k]
def pi (p0 : Option Addr) (v1 : Value) (w : World) (K : Value -> World -> Prop) : Prop :=
 ∀ k3 w3, k3 = w.heap.size -> w3 = w.alloc (.cells (Value.cells v1) ae) ->
 ∃ v8, Ld ae (some ⟨k3, 0, none⟩) w3 v8 /\
 Calls prog j9 #[.pointer p0, v8] w3 fun e9 w9 => ∃ a9 l9 c9, e9 = .returned (.slice a9 l9 c9) /\
 af (((l9 : Nat) : Int) == (0 : Int))
 (K (.tuple #[.slice none 0 0, .int .i64 (181 : Int)]) w9)
 (Calls prog aR #[.pointer p0] w9 fun e16 w16 => ∃ n16, e16 = .returned (.int .i64 n16) /\
 Calls prog eE #[.slice a9 l9 c9, .int .i64 (i64.wrap (n16 - (1 : Int)))] w16 fun e18 w18 => ∃ b18, e18 = .returned (.bool b18) /\
 af b18
 (K (.tuple #[.slice none 0 0, .int .i64 (181 : Int)]) w18)
 (K (.tuple #[.slice a9 l9 c9, .int .i64 (0 : Int)]) w18))
theorem ue (p0 : Option Addr) (v1 : Value) {w : World} {K : Value -> World -> Prop} (h : pi p0 v1 w K) : Calls prog jo #[.pointer p0, v1] w (Ret K) :=
 au (c := ay Tryz.f48) (by kernel_rfl) Tryz.func48 (by kernel_rfl) [] [.pointer p0, v1] (of_decide_eq_true (by kernel_rfl)) _ (by kernel_rfl) h

--  cracknel/hostset.One
def rv (p0 : Option Addr) (v1 : Value) (w : World) (K : Value -> World -> Prop) : Prop :=
 ∀ k3 w3, k3 = w.heap.size -> w3 = w.alloc (.cells (Value.cells v1) ae) ->
 ∀ k4 w4, k4 = w3.heap.size -> w4 = w3.alloc (.cells #[.int .i64 (0 : Int), .int .i64 (0 : Int), .slice none 0 0, .slice none 0 0] aj) ->
 ∃ v10, Ld ae (some ⟨k3, 0, none⟩) w4 v10 /\
 Calls prog jo #[.pointer p0, v10] w4 fun e11 w11 => ∃ a11_0 l11_0 c11_0 n11_1, e11 = .returned (.tuple #[.slice a11_0 l11_0 c11_0, .int .i64 n11_1]) /\
 af (n11_1 != (0 : Int))
 (∃ wx, Sv aj (some ⟨k4, 0, none⟩) (.agg #[.int .i64 (0 : Int), .int .i64 (0 : Int), .slice none 0 0, .slice none 0 0]) w11 wx /\
 ∃ nr0_0 nr0_1 ar0_2 lr0_2 cr0_2 ar0_3 lr0_3 cr0_3, (bm aj (.pointer (some ⟨k4, 0, none⟩))).run prog wx = .ok (.agg #[.int .i64 nr0_0, .int .i64 nr0_1, .slice ar0_2 lr0_2 cr0_2, .slice ar0_3 lr0_3 cr0_3]) wx /\
 K (.tuple #[.agg #[.int .i64 nr0_0, .int .i64 nr0_1, .slice ar0_2 lr0_2 cr0_2, .slice ar0_3 lr0_3 cr0_3], .int .i64 n11_1]) wx)
 (Calls prog aR #[.pointer p0] w11 fun e19 w19 => ∃ n19, e19 = .returned (.int .i64 n19) /\
 Calls prog qL #[.int .i64 n19, .slice a11_0 l11_0 c11_0] w19 fun e21 w21 => ∃ n21_0_0 n21_0_1 a21_0_2 l21_0_2 c21_0_2 a21_0_3 l21_0_3 c21_0_3 n21_1, e21 = .returned (.tuple #[.agg #[.int .i64 n21_0_0, .int .i64 n21_0_1, .slice a21_0_2 l21_0_2 c21_0_2, .slice a21_0_3 l21_0_3 c21_0_3], .int .i64 n21_1]) /\
 ∃ wx_1, Sv aj (some ⟨k4, 0, none⟩) (.agg #[.int .i64 n21_0_0, .int .i64 n21_0_1, .slice a21_0_2 l21_0_2 c21_0_2, .slice a21_0_3 l21_0_3 c21_0_3]) w21 wx_1 /\
 ∃ nr0_0_1 nr0_1_1 ar0_2_1 lr0_2_1 cr0_2_1 ar0_3_1 lr0_3_1 cr0_3_1, (bm aj (.pointer (some ⟨k4, 0, none⟩))).run prog wx_1 = .ok (.agg #[.int .i64 nr0_0_1, .int .i64 nr0_1_1, .slice ar0_2_1 lr0_2_1 cr0_2_1, .slice ar0_3_1 lr0_3_1 cr0_3_1]) wx_1 /\
 K (.tuple #[.agg #[.int .i64 nr0_0_1, .int .i64 nr0_1_1, .slice ar0_2_1 lr0_2_1 cr0_2_1, .slice ar0_3_1 lr0_3_1 cr0_3_1], .int .i64 n21_1]) wx_1)
theorem wT (p0 : Option Addr) (v1 : Value) {w : World} {K : Value -> World -> Prop} (h : rv p0 v1 w K) : Calls prog jm #[.pointer p0, v1] w (Ret K) :=
 au (c := ay Tryz.f12) (by kernel_rfl) Tryz.func12 (by kernel_rfl) [] [.pointer p0, v1] (of_decide_eq_true (by kernel_rfl)) _ (by kernel_rfl) h

--  cracknel/hostset.Under
def pg (p0 : Option Addr) (v1 : Value) (w : World) (K : Value -> World -> Prop) : Prop :=
 ∀ k3 w3, k3 = w.heap.size -> w3 = w.alloc (.cells (Value.cells v1) ae) ->
 ∀ k4 w4, k4 = w3.heap.size -> w4 = w3.alloc (.cells #[.int .i64 (0 : Int), .int .i64 (0 : Int), .slice none 0 0, .slice none 0 0] aj) ->
 ∃ v7, Ld ae (some ⟨k3, 0, none⟩) w4 v7 /\
 Calls prog jn #[.pointer p0, v7, .bool false] w4 fun e8 w8 => ∃ n8_0_0 n8_0_1 a8_0_2 l8_0_2 c8_0_2 a8_0_3 l8_0_3 c8_0_3 n8_1, e8 = .returned (.tuple #[.agg #[.int .i64 n8_0_0, .int .i64 n8_0_1, .slice a8_0_2 l8_0_2 c8_0_2, .slice a8_0_3 l8_0_3 c8_0_3], .int .i64 n8_1]) /\
 ∃ wx, Sv aj (some ⟨k4, 0, none⟩) (.agg #[.int .i64 n8_0_0, .int .i64 n8_0_1, .slice a8_0_2 l8_0_2 c8_0_2, .slice a8_0_3 l8_0_3 c8_0_3]) w8 wx /\
 ∃ nr0_0 nr0_1 ar0_2 lr0_2 cr0_2 ar0_3 lr0_3 cr0_3, (bm aj (.pointer (some ⟨k4, 0, none⟩))).run prog wx = .ok (.agg #[.int .i64 nr0_0, .int .i64 nr0_1, .slice ar0_2 lr0_2 cr0_2, .slice ar0_3 lr0_3 cr0_3]) wx /\
 K (.tuple #[.agg #[.int .i64 nr0_0, .int .i64 nr0_1, .slice ar0_2 lr0_2 cr0_2, .slice ar0_3 lr0_3 cr0_3], .int .i64 n8_1]) wx
theorem uc (p0 : Option Addr) (v1 : Value) {w : World} {K : Value -> World -> Prop} (h : pg p0 v1 w K) : Calls prog gB #[.pointer p0, v1] w (Ret K) :=
 au (c := ay Tryz.f20) (by kernel_rfl) Tryz.func20 (by kernel_rfl) [] [.pointer p0, v1] (of_decide_eq_true (by kernel_rfl)) _ (by kernel_rfl) h

--  cracknel/hostset.Domain
def nX (p0 : Option Addr) (v1 : Value) (w : World) (K : Value -> World -> Prop) : Prop :=
 ∀ k3 w3, k3 = w.heap.size -> w3 = w.alloc (.cells (Value.cells v1) ae) ->
 ∀ k4 w4, k4 = w3.heap.size -> w4 = w3.alloc (.cells #[.int .i64 (0 : Int), .int .i64 (0 : Int), .slice none 0 0, .slice none 0 0] aj) ->
 ∃ v7, Ld ae (some ⟨k3, 0, none⟩) w4 v7 /\
 Calls prog jn #[.pointer p0, v7, .bool true] w4 fun e8 w8 => ∃ n8_0_0 n8_0_1 a8_0_2 l8_0_2 c8_0_2 a8_0_3 l8_0_3 c8_0_3 n8_1, e8 = .returned (.tuple #[.agg #[.int .i64 n8_0_0, .int .i64 n8_0_1, .slice a8_0_2 l8_0_2 c8_0_2, .slice a8_0_3 l8_0_3 c8_0_3], .int .i64 n8_1]) /\
 ∃ wx, Sv aj (some ⟨k4, 0, none⟩) (.agg #[.int .i64 n8_0_0, .int .i64 n8_0_1, .slice a8_0_2 l8_0_2 c8_0_2, .slice a8_0_3 l8_0_3 c8_0_3]) w8 wx /\
 ∃ nr0_0 nr0_1 ar0_2 lr0_2 cr0_2 ar0_3 lr0_3 cr0_3, (bm aj (.pointer (some ⟨k4, 0, none⟩))).run prog wx = .ok (.agg #[.int .i64 nr0_0, .int .i64 nr0_1, .slice ar0_2 lr0_2 cr0_2, .slice ar0_3 lr0_3 cr0_3]) wx /\
 K (.tuple #[.agg #[.int .i64 nr0_0, .int .i64 nr0_1, .slice ar0_2 lr0_2 cr0_2, .slice ar0_3 lr0_3 cr0_3], .int .i64 n8_1]) wx
theorem sM (p0 : Option Addr) (v1 : Value) {w : World} {K : Value -> World -> Prop} (h : nX p0 v1 w K) : Calls prog fX #[.pointer p0, v1] w (Ret K) :=
 au (c := ay Tryz.f14) (by kernel_rfl) Tryz.func14 (by kernel_rfl) [] [.pointer p0, v1] (of_decide_eq_true (by kernel_rfl)) _ (by kernel_rfl) h

--  cracknel/hostset.address
def mS (s0 : List UInt8) (w : World) (K : Value -> World -> Prop) : Prop :=
 Calls prog kq #[.string (mkS s0)] w fun e7 w7 => ∃ v7_0 n7_1, e7 = .returned (.tuple #[v7_0, .int .i64 n7_1]) /\
 ∀ k3 w3, k3 = w7.heap.size -> w3 = w7.alloc (.cells aL ae) ->
 ∃ wx, Sv ae (some ⟨k3, 0, none⟩) v7_0 w3 wx /\
 af (n7_1 == (0 : Int))
 ((true = true) /\
 ∃ n14, Ld az (some ⟨k3, 0, none⟩) wx (.int .i64 n14) /\
 af (n14 != (1 : Int))
 (∃ v18, Ld ae (some ⟨k3, 0, none⟩) wx v18 /\
 Calls prog oB #[v18] wx fun e19 w19 => ∃ s19, e19 = .returned (.string (mkS s19)) /\
 K (.bool (s19 == s0)) w19)
 (K (.bool false) wx))
 (K (.bool false) wx)
theorem rW (s0 : List UInt8) {w : World} {K : Value -> World -> Prop} (h : mS s0 w K) : Calls prog jV #[.string (mkS s0)] w (Ret K) :=
 au (c := ay Tryz.f54) (by kernel_rfl) Tryz.func54 (by kernel_rfl) [] [.string (mkS s0)] (of_decide_eq_true (by kernel_rfl)) _ (by kernel_rfl) h

--  cracknel/hostset.label
def pj (s0 : List UInt8) (w : World) (K : Value -> World -> Prop) : Prop :=
 ((((List.length s0 + List.length [46, 120] : Nat) : Int) <= i64.max)) /\
 ∀ s7, s7 = (s0 ++ [46, 120]) ->
 Calls prog kq #[.string (mkS s7)] w fun e8 w8 => ∃ v8_0 n8_1, e8 = .returned (.tuple #[v8_0, .int .i64 n8_1]) /\
 ∀ k3 w3, k3 = w8.heap.size -> w3 = w8.alloc (.cells aL ae) ->
 ∃ wx, Sv ae (some ⟨k3, 0, none⟩) v8_0 w3 wx /\
 af (n8_1 == (0 : Int))
 ((true = true) /\
 ∃ s15, Ld ar (some ⟨k3, 1, none⟩) wx (.string (mkS s15)) /\
 ((((List.length s0 + List.length [46, 120] : Nat) : Int) <= i64.max)) /\
 ∀ s17, s17 = (s0 ++ [46, 120]) ->
 af (s15 == s17)
 (∃ v21, Ld ae (some ⟨k3, 0, none⟩) wx v21 /\
 Calls prog oA #[v21] wx fun e22 w22 => ∃ a22 l22 c22, e22 = .returned (.slice a22 l22 c22) /\
 K (.bool (((l22 : Nat) : Int) == (2 : Int))) w22)
 (K (.bool false) wx))
 (K (.bool false) wx)
theorem uf (s0 : List UInt8) {w : World} {K : Value -> World -> Prop} (h : pj s0 w K) : Calls prog jp #[.string (mkS s0)] w (Ret K) :=
 au (c := ay Tryz.f55) (by kernel_rfl) Tryz.func55 (by kernel_rfl) [] [.string (mkS s0)] (of_decide_eq_true (by kernel_rfl)) _ (by kernel_rfl) h

--  cracknel/hostset.Hosts
def kP (p0 : Option Addr) (w : World) (K : Value -> World -> Prop) : Prop :=
 ∀ k2 w2, k2 = w.heap.size -> w2 = w.alloc (.cells #[.int .i64 (0 : Int), .int .i64 (0 : Int), .slice none 0 0, .slice none 0 0] aj) ->
 Calls prog aR #[.pointer p0] w2 fun e9 w9 => ∃ n9, e9 = .returned (.int .i64 n9) /\
 af (decide (n9 > (512 : Int)))
 (∃ wx, Sv aj (some ⟨k2, 0, none⟩) (.agg #[.int .i64 (0 : Int), .int .i64 (0 : Int), .slice none 0 0, .slice none 0 0]) w9 wx /\
 ∃ nr0_0 nr0_1 ar0_2 lr0_2 cr0_2 ar0_3 lr0_3 cr0_3, (bm aj (.pointer (some ⟨k2, 0, none⟩))).run prog wx = .ok (.agg #[.int .i64 nr0_0, .int .i64 nr0_1, .slice ar0_2 lr0_2 cr0_2, .slice ar0_3 lr0_3 cr0_3]) wx /\
 K (.tuple #[.agg #[.int .i64 nr0_0, .int .i64 nr0_1, .slice ar0_2 lr0_2 cr0_2, .slice ar0_3 lr0_3 cr0_3], .int .i64 (151 : Int)]) wx)
 (∃ w16 a16 l16 c16, (Instr.makeSlice aA (.int .i64 (i64.wrap ((4 : Int) * n9))) (.int .i64 (i64.wrap ((4 : Int) * n9)))).run prog w9 = .ok (.slice a16 l16 c16) w16 /\
 ∀ k17 w17, k17 = w16.heap.size -> w17 = w16.alloc (.cells #[.bool false, .bool false, .bool true, .bool true] eV) ->
 ∀ k5 w5, k5 = w17.heap.size -> w5 = w17.alloc (.cells #[.int .i64 (0 : Int), .int .i64 (0 : Int), .slice none 0 0, .slice none 0 0] aj) ->
 ∃ wx_1, Sv aj (some ⟨k5, 0, none⟩) (.agg #[.int .i64 n9, .int .i64 (1 : Int), .slice a16 l16 c16, .slice (some ⟨k17, 0, none⟩) 4 4]) w5 wx_1 /\
 ∃ I : Nat -> FP [.one (.int .i64)],
 (∃ m, I m (0 : Int) wx_1) /\
 ∀ m n20, aE 38 (∀ wl, I m n20 wl ->
 af (decide (n20 < n9))
 (Calls prog dO #[.pointer p0, .int .i64 n20] wl fun e25 w25 => ∃ s25, e25 = .returned (.string (mkS s25)) /\
 Calls prog jV #[.string (mkS s25)] w25 fun e28 w28 => ∃ b28, e28 = .returned (.bool b28) /\
 af b28
 ((true = true) /\
 ∃ a30 l30 c30, Ld aA (some ⟨k5, 2, none⟩) w28 (.slice a30 l30 c30) /\
 ((0 <= (i64.wrap ((i64.wrap ((1 : Int) * n9)) + n20)) /\ (i64.wrap ((i64.wrap ((1 : Int) * n9)) + n20)) < ((l30 : Nat) : Int)) /\ Option.isSome a30 = true) /\
 ∃ wx_2, Sv az (ao a30 (i64.wrap ((i64.wrap ((1 : Int) * n9)) + n20)) 1) (.int .i64 (3 : Int)) w28 wx_2 /\
 ∃ m' : Nat, m' < m /\ I m' (i64.wrap (n20 + (1 : Int))) wx_2)
 (Calls prog jp #[.string (mkS s25)] w28 fun e38 w38 => ∃ b38, e38 = .returned (.bool b38) /\
 af b38
 ((true = true) /\
 ∃ a40 l40 c40, Ld aA (some ⟨k5, 2, none⟩) w38 (.slice a40 l40 c40) /\
 ((0 <= (i64.wrap ((i64.wrap ((2 : Int) * n9)) + n20)) /\ (i64.wrap ((i64.wrap ((2 : Int) * n9)) + n20)) < ((l40 : Nat) : Int)) /\ Option.isSome a40 = true) /\
 ∃ wx_3, Sv az (ao a40 (i64.wrap ((i64.wrap ((2 : Int) * n9)) + n20)) 1) (.int .i64 (2 : Int)) w38 wx_3 /\
 Calls prog ir #[.string (mkS s25)] wx_3 fun e47 w47 => ∃ b47, e47 = .returned (.bool b47) /\
 af (!b47)
 ((true = true) /\
 ∃ a50 l50 c50, Ld aA (some ⟨k5, 2, none⟩) w47 (.slice a50 l50 c50) /\
 ((0 <= (i64.wrap ((i64.wrap ((1 : Int) * n9)) + n20)) /\ (i64.wrap ((i64.wrap ((1 : Int) * n9)) + n20)) < ((l50 : Nat) : Int)) /\ Option.isSome a50 = true) /\
 ∃ wx_4, Sv az (ao a50 (i64.wrap ((i64.wrap ((1 : Int) * n9)) + n20)) 1) (.int .i64 (2 : Int)) w47 wx_4 /\
 ∃ m' : Nat, m' < m /\ I m' (i64.wrap (n20 + (1 : Int))) wx_4)
 (∃ m' : Nat, m' < m /\ I m' (i64.wrap (n20 + (1 : Int))) w47))
 (∃ m' : Nat, m' < m /\ I m' (i64.wrap (n20 + (1 : Int))) w38)))
 (∃ n57_0 n57_1 a57_2 l57_2 c57_2 a57_3 l57_3 c57_3, Ld aj (some ⟨k5, 0, none⟩) wl (.agg #[.int .i64 n57_0, .int .i64 n57_1, .slice a57_2 l57_2 c57_2, .slice a57_3 l57_3 c57_3]) /\
 ∃ wx_5, Sv aj (some ⟨k2, 0, none⟩) (.agg #[.int .i64 n57_0, .int .i64 n57_1, .slice a57_2 l57_2 c57_2, .slice a57_3 l57_3 c57_3]) wl wx_5 /\
 ∃ nr0_0_1 nr0_1_1 ar0_2_1 lr0_2_1 cr0_2_1 ar0_3_1 lr0_3_1 cr0_3_1, (bm aj (.pointer (some ⟨k2, 0, none⟩))).run prog wx_5 = .ok (.agg #[.int .i64 nr0_0_1, .int .i64 nr0_1_1, .slice ar0_2_1 lr0_2_1 cr0_2_1, .slice ar0_3_1 lr0_3_1 cr0_3_1]) wx_5 /\
 K (.tuple #[.agg #[.int .i64 nr0_0_1, .int .i64 nr0_1_1, .slice ar0_2_1 lr0_2_1 cr0_2_1, .slice ar0_3_1 lr0_3_1 cr0_3_1], .int .i64 (0 : Int)]) wx_5)))
theorem nO (p0 : Option Addr) {w : World} {K : Value -> World -> Prop} (h : kP p0 w K) : Calls prog gA #[.pointer p0] w (Ret K) :=
 au (c := ay Tryz.f16) (by kernel_rfl) Tryz.func16 (by kernel_rfl) [(18, [(20, .one (.int .i64))])] [.pointer p0] (of_decide_eq_true (by kernel_rfl)) _ (by kernel_rfl) h

--  cracknel/hostset.Least
def pf (p0 : Option Addr) (n1_0 : Int) (n1_1 : Int) (a1_2 : Option Addr) (l1_2 c1_2 : Nat) (a1_3 : Option Addr) (l1_3 c1_3 : Nat) (w : World) (K : Value -> World -> Prop) : Prop :=
 ∀ k3 w3, k3 = w.heap.size -> w3 = w.alloc (.cells #[.int .i64 n1_0, .int .i64 n1_1, .slice a1_2 l1_2 c1_2, .slice a1_3 l1_3 c1_3] aj) ->
 ∀ k4 w4, k4 = w3.heap.size -> w4 = w3.alloc (.cells aL ae) ->
 Calls prog gA #[.pointer p0] w4 fun e17 w17 => ∃ n17_0_0 n17_0_1 a17_0_2 l17_0_2 c17_0_2 a17_0_3 l17_0_3 c17_0_3 n17_1, e17 = .returned (.tuple #[.agg #[.int .i64 n17_0_0, .int .i64 n17_0_1, .slice a17_0_2 l17_0_2 c17_0_2, .slice a17_0_3 l17_0_3 c17_0_3], .int .i64 n17_1]) /\
 ∀ k7 w7, k7 = w17.heap.size -> w7 = w17.alloc (.cells #[.int .i64 (0 : Int), .int .i64 (0 : Int), .slice none 0 0, .slice none 0 0] aj) ->
 ∃ wx, Sv aj (some ⟨k7, 0, none⟩) (.agg #[.int .i64 n17_0_0, .int .i64 n17_0_1, .slice a17_0_2 l17_0_2 c17_0_2, .slice a17_0_3 l17_0_3 c17_0_3]) w7 wx /\
 af (n17_1 != (0 : Int))
 (∃ wx_1, Sv ae (some ⟨k4, 0, none⟩) (.agg aL) wx wx_1 /\
 ∃ vr0, (bm ae (.pointer (some ⟨k4, 0, none⟩))).run prog wx_1 = .ok vr0 wx_1 /\
 K (.tuple #[vr0, .bool false, .int .i64 n17_1]) wx_1)
 (∃ n25_0 n25_1 a25_2 l25_2 c25_2 a25_3 l25_3 c25_3, Ld aj (some ⟨k3, 0, none⟩) wx (.agg #[.int .i64 n25_0, .int .i64 n25_1, .slice a25_2 l25_2 c25_2, .slice a25_3 l25_3 c25_3]) /\
 ∃ n26_0 n26_1 a26_2 l26_2 c26_2 a26_3 l26_3 c26_3, Ld aj (some ⟨k7, 0, none⟩) wx (.agg #[.int .i64 n26_0, .int .i64 n26_1, .slice a26_2 l26_2 c26_2, .slice a26_3 l26_3 c26_3]) /\
 Calls prog qK #[.agg #[.int .i64 n25_0, .int .i64 n25_1, .slice a25_2 l25_2 c25_2, .slice a25_3 l25_3 c25_3], .agg #[.int .i64 n26_0, .int .i64 n26_1, .slice a26_2 l26_2 c26_2, .slice a26_3 l26_3 c26_3]] wx fun e27 w27 => ∃ n27_0_0 n27_0_1 a27_0_2 l27_0_2 c27_0_2 a27_0_3 l27_0_3 c27_0_3 n27_1, e27 = .returned (.tuple #[.agg #[.int .i64 n27_0_0, .int .i64 n27_0_1, .slice a27_0_2 l27_0_2 c27_0_2, .slice a27_0_3 l27_0_3 c27_0_3], .int .i64 n27_1]) /\
 ∀ k9 w9, k9 = w27.heap.size -> w9 = w27.alloc (.cells #[.int .i64 (0 : Int), .int .i64 (0 : Int), .slice none 0 0, .slice none 0 0] aj) ->
 ∃ wx_2, Sv aj (some ⟨k9, 0, none⟩) (.agg #[.int .i64 n27_0_0, .int .i64 n27_0_1, .slice a27_0_2 l27_0_2 c27_0_2, .slice a27_0_3 l27_0_3 c27_0_3]) w9 wx_2 /\
 af (n27_1 != (0 : Int))
 (∃ wx_3, Sv ae (some ⟨k4, 0, none⟩) (.agg aL) wx_2 wx_3 /\
 ∃ vr0_1, (bm ae (.pointer (some ⟨k4, 0, none⟩))).run prog wx_3 = .ok vr0_1 wx_3 /\
 K (.tuple #[vr0_1, .bool false, .int .i64 n27_1]) wx_3)
 (Calls prog aR #[.pointer p0] wx_2 fun e35 w35 => ∃ n35, e35 = .returned (.int .i64 n35) /\
 ∃ I : Nat -> FP [.one (.slice), .one (.int .i64)],
 (∃ m, I m none 0 0 (0 : Int) w35) /\
 ∀ m a10 l10 c10 n36, aE 12 (∀ wl, I m a10 l10 c10 n36 wl ->
 af (decide (n36 < n35))
 (Calls prog dO #[.pointer p0, .int .i64 n36] wl fun e42 w42 => ∃ s42, e42 = .returned (.string (mkS s42)) /\
 ∀ k45 w45, k45 = w42.heap.size -> w45 = w42.alloc (.cells #[.int .i64 (i64.wrap (((List.length s42 : Nat) : Int) + (1 : Int)))] az) ->
 ∃ w46 a46 l46 c46, (Builtin.append_ #[aA, aA] aA #[.slice a10 l10 c10, .slice (some ⟨k45, 0, none⟩) 1 1]).run prog w45 = .ok (.slice a46 l46 c46) w46 /\
 ∃ m' : Nat, m' < m /\ I m' a46 l46 c46 (i64.wrap (n36 + (1 : Int))) w46)
 (∃ n49_0 n49_1 a49_2 l49_2 c49_2 a49_3 l49_3 c49_3, Ld aj (some ⟨k9, 0, none⟩) wl (.agg #[.int .i64 n49_0, .int .i64 n49_1, .slice a49_2 l49_2 c49_2, .slice a49_3 l49_3 c49_3]) /\
 Calls prog oE #[.agg #[.int .i64 n49_0, .int .i64 n49_1, .slice a49_2 l49_2 c49_2, .slice a49_3 l49_3 c49_3], .slice a10 l10 c10, .int .i64 (254 : Int)] wl fun e51 w51 => ∃ a51_0 l51_0 c51_0 b51_1 n51_2, e51 = .returned (.tuple #[.slice a51_0 l51_0 c51_0, .bool b51_1, .int .i64 n51_2]) /\
 ∃ J : FP [],
 (∃ J_1 : FP [.one (.bool)],
 (af (!b51_1)
 (J_1 true w51)
 (J_1 (n51_2 != (0 : Int)) w51)) /\
 ∀ b60, aE 5 (∀ wj, J_1 b60 wj ->
 af b60
 (∃ wx_4, Sv ae (some ⟨k4, 0, none⟩) (.agg aL) wj wx_4 /\
 ∃ vr0_2, (bm ae (.pointer (some ⟨k4, 0, none⟩))).run prog wx_4 = .ok vr0_2 wx_4 /\
 K (.tuple #[vr0_2, .bool false, .int .i64 n51_2]) wx_4)
 (J wj))) /\
 aE 10 (∀ wj_1, J wj_1 ->
 Calls prog mY #[.pointer p0, .slice a51_0 l51_0 c51_0] wj_1 fun e66 w66 => ∃ v66_0 b66_1, e66 = .returned (.tuple #[v66_0, .bool b66_1]) /\
 ∀ k14 w14, k14 = w66.heap.size -> w14 = w66.alloc (.cells aL ae) ->
 ∃ wx_5, Sv ae (some ⟨k14, 0, none⟩) v66_0 w14 wx_5 /\
 ∃ v69, Ld ae (some ⟨k14, 0, none⟩) wx_5 v69 /\
 ∃ wx_6, Sv ae (some ⟨k4, 0, none⟩) v69 wx_5 wx_6 /\
 ∃ vr0_3, (bm ae (.pointer (some ⟨k4, 0, none⟩))).run prog wx_6 = .ok vr0_3 wx_6 /\
 K (.tuple #[vr0_3, .bool b66_1, .int .i64 (0 : Int)]) wx_6)))))
theorem ub (p0 : Option Addr) (n1_0 : Int) (n1_1 : Int) (a1_2 : Option Addr) (l1_2 c1_2 : Nat) (a1_3 : Option Addr) (l1_3 c1_3 : Nat) {w : World} {K : Value -> World -> Prop} (h : pf p0 n1_0 n1_1 a1_2 l1_2 c1_2 a1_3 l1_3 c1_3 w K) : Calls prog dI #[.pointer p0, .agg #[.int .i64 n1_0, .int .i64 n1_1, .slice a1_2 l1_2 c1_2, .slice a1_3 l1_3 c1_3]] w (Ret K) :=
 au (c := ay Tryz.f15) (by kernel_rfl) Tryz.func15 (by kernel_rfl) [(28, [(10, .one (.slice)), (36, .one (.int .i64))]), (43, []), (44, [(60, .one (.bool))])] [.pointer p0, .agg #[.int .i64 n1_0, .int .i64 n1_1, .slice a1_2 l1_2 c1_2, .slice a1_3 l1_3 c1_3]] (of_decide_eq_true (by kernel_rfl)) _ (by kernel_rfl) h

--  cracknel/hostset.Host$1
def mR (s0 : List UInt8) (w : World) (K : Value -> World -> Prop) : Prop :=
 Calls prog jp #[.string (mkS s0)] w fun e4 w4 => ∃ b4, e4 = .returned (.bool b4) /\
 K (.bool (!b4)) w4
theorem rV (s0 : List UInt8) {w : World} {K : Value -> World -> Prop} (h : mR s0 w K) : Calls prog bP #[.string (mkS s0)] w (Ret K) :=
 au (c := ay Tryz.f64) (by kernel_rfl) Tryz.func64 (by kernel_rfl) [] [.string (mkS s0)] (of_decide_eq_true (by kernel_rfl)) _ (by kernel_rfl) h

--  slices.IndexFunc[[]string,string]
def bR (a0 : Option Addr) (l0 c0 : Nat) (w : World) (K : Value -> World -> Prop) : Prop :=
 ∃ I : Nat -> FP [.one (.int .i64)],
 (∃ m, I m (0 : Int) w) /\
 ∀ m n8, aE 12 (∀ wl, I m n8 wl ->
 af (decide (n8 < ((l0 : Nat) : Int)))
 (((0 <= n8 /\ n8 < ((l0 : Nat) : Int)) /\ Option.isSome a0 = true) /\
 ∃ s15, Ld ar (ao a0 n8 1) wl (.string (mkS s15)) /\
 Calls prog bP #[.string (mkS s15)] wl fun e16 w16 => ∃ b16, e16 = .returned (.bool b16) /\
 af b16
 (K (.int .i64 n8) w16)
 (∃ m' : Nat, m' < m /\ I m' (i64.wrap (n8 + (1 : Int))) w16))
 (K (.int .i64 (-1 : Int)) wl))
theorem dQ (a0 : Option Addr) (l0 c0 : Nat) {w : World} {K : Value -> World -> Prop} (h : bR a0 l0 c0 w K) : Calls prog bI #[.slice a0 l0 c0, .func (.func bP) #[] #[]] w (Ret K) :=
 au (c := ay Tryz.f115) (by kernel_rfl) Tryz.func115 (by kernel_rfl) [(6, [(8, .one (.int .i64))])] [.slice a0 l0 c0, .func (.func bP) #[] #[]] (of_decide_eq_true (by kernel_rfl)) _ (by kernel_rfl) h

--  slices.ContainsFunc[[]string,string]
def bH (a0 : Option Addr) (l0 c0 : Nat) (w : World) (K : Value -> World -> Prop) : Prop :=
 Calls prog bI #[.slice a0 l0 c0, .func (.func bP) #[] #[]] w fun e7 w7 => ∃ n7, e7 = .returned (.int .i64 n7) /\
 K (.bool (decide (n7 >= (0 : Int)))) w7
theorem dw (a0 : Option Addr) (l0 c0 : Nat) {w : World} {K : Value -> World -> Prop} (h : bH a0 l0 c0 w K) : Calls prog bf #[.slice a0 l0 c0, .func (.func bP) #[] #[]] w (Ret K) :=
 au (c := ay Tryz.f63) (by kernel_rfl) Tryz.func63 (by kernel_rfl) [] [.slice a0 l0 c0, .func (.func bP) #[] #[]] (of_decide_eq_true (by kernel_rfl)) _ (by kernel_rfl) h

--  cracknel/cracknelref18.Word
end Go.Proofs.YtpafoodmpjlkhaaGreatDoor
namespace Go.Pk
open Go.RowKit (Below)
def am (w : World) (k : Nat) (t : TypeId) (vs : List Value) : Prop := w.heap[k]? = some (.cells vs.toArray t (0, 0))
theorem am.new {w w' : World} {k : Nat} {t : TypeId} {vs : List Value} (hk : k = w.heap.size) (hw : w' = w.alloc (.cells vs.toArray t)) : am w' k t vs := by
 subst hk hw; exact heap_alloc_new w _
theorem am.lt {w : World} {k : Nat} {t : TypeId} {vs : List Value} (h : am w k t vs) : k < w.heap.size := (Array.getElem?_eq_some_iff.1 (show w.heap[k]? = _ from h)).1
theorem am.block {w w' : World} {k : Nat} {t : TypeId} {vs : List Value} (h : am w k t vs) (e : w'.heap[k]? = w.heap[k]?) : am w' k t vs := e.trans h
theorem am.below {w w' : World} {k : Nat} {t : TypeId} {vs : List Value} (h : am w k t vs) (hb : Below w.heap.size w w') : am w' k t vs := h.block (hb.block k h.lt)
theorem am.grown {w w' : World} {k : Nat} {t : TypeId} {vs : List Value} {row : Option Nat} (h : am w k t vs) (hg : w.grownBy w' row) (hne : some k ≠ row) : am w' k t vs := h.block (hg.block k h.lt hne)
theorem am.cell {w : World} {k : Nat} {t : TypeId} {vs : List Value} (h : am w k t vs) (i : Nat) : w.cell? ⟨k, i, none⟩ = vs[i]? := by rw [eQ h]; simp
theorem am.load1 {P : Program} {u : TypeId} {d : TypeDesc} (hu : P.underlying u = some d) (ha : Ar d = false) {w : World} {k : Nat} {t : TypeId} {vs : List Value} (h : am w k t vs) {i : Nat} {v : Value} (hv : vs[i]? = some v) :
   (Instr.loadAt u (.pointer (some ⟨k, i, none⟩))).run P w = .ok v w := dJ hu ha (by rw [h.cell]; exact hv)
theorem am.loadA {P : Program} {u : TypeId} {d : TypeDesc} {ti : TypeInfo} (hu : P.underlying u = some d) (ha : Ar d = true) (hi : P.info? u = some ti) {w : World} {k : Nat} {t : TypeId} {vs us : List Value} (h : am w k t vs) {i : Nat} (hl : us.length = ti.size)
   (hv : ∀ j, j < us.length -> vs[i + j]? = us[j]?) : (Instr.loadAt u (.pointer (some ⟨k, i, none⟩))).run P w = .ok (.agg us.toArray) w :=
 wE hu ha hi hl fun j hj => by rw [h.cell]; exact hv j hj
theorem am.res {P : Program} {u : TypeId} {p : Addr} {w w' : World} {v : Value} (h : (Instr.loadAt u (.pointer (some p))).run P w = .ok v w') : (bm u (.pointer (some p))).run P w = .ok v w' := h
theorem am.store {P : Program} {u : TypeId} {bytes n : Nat} {z : Value} (tf : TF P u n bytes z) {w : World} {k : Nat} {t : TypeId} {vs : List Value} (h : am w k t vs) {i : Nat} {v : Value} (hs : v.cells.size = n) (hfit : i + n <= vs.length) (h1 : ∀ c ∈ v.cells.toList, c.oneCell' = true) :
   ∃ w', (Instr.storeAt u (.pointer (some ⟨k, i, none⟩)) v).run P w = .ok () w' /\ am w' k t (vs.take i ++ v.cells.toList ++ vs.drop (i + n)) /\ w.grownBy w' (some k) := by
 obtain ⟨ti, hti, hsz, _, _⟩ := tf.info
 refine ⟨_, pb hti (o := i) h (fun i _ => by simp) (by rw [hs, hsz]) (by rw [hsz]; simpa using hfit) h1, ?_, gN w k _⟩
 have := setRow_heap w k vs.toArray (vs.take i ++ v.cells.toList ++ vs.drop (i + n)).toArray t (0, 0) h
 rw [<- hs] at this ⊢
 exact this
end Go.Pk
namespace Go.Pk
open Go.RowKit (Below)
theorem EN {n : Nat} {w : World} {R : Bool -> World -> Prop} {B : (Bool -> World -> Prop) -> Prop} (f : Bool) (hB : B (fun b w' => w' = w /\ b = f)) (h : R f w) :
   ∃ J : FP [.one (.bool)], B J /\ ∀ b : Bool, aE n (∀ wj : World, J b wj -> R b wj) := by
 refine ⟨fun b w' => w' = w /\ b = f, hB, fun b => aE.of ?_ _⟩
 rintro wj ⟨rfl, rfl⟩; exact h
theorem IC {n : Nat} {k : IntKind} {w : World} {R : Int -> World -> Prop} {B : (Int -> World -> Prop) -> Prop} (f : Int) (hB : B (fun b w' => w' = w /\ b = f)) (h : R f w) :
   ∃ J : FP [.one (.int k)], B J /\ ∀ b : Int, aE n (∀ wj : World, J b wj -> R b wj) := by
 refine ⟨fun b w' => w' = w /\ b = f, hB, fun b => aE.of ?_ _⟩
 rintro wj ⟨rfl, rfl⟩; exact h
theorem tN {n : Nat} {w : World} {R : World -> Prop} {B : (World -> Prop) -> Prop} (Q : Prop) (hB : B (fun w' => w' = w /\ Q)) (h : Q -> R w) :
   ∃ J : FP [], B J /\ aE n (∀ wj : World, J wj -> R wj) := by
 refine ⟨fun w' => w' = w /\ Q, hB, aE.of ?_ _⟩
 rintro wj ⟨rfl, hq⟩; exact h hq
theorem jK {n : Nat} {R : World -> Prop} {B : (World -> Prop) -> Prop} (Q : World -> Prop) (hB : B Q) (h : ∀ w, Q w -> R w) :
   ∃ J : FP [], B J /\ aE n (∀ wj : World, J wj -> R wj) := ⟨Q, hB, aE.of h _⟩
theorem Im {n : Nat} {R : Bool -> World -> Prop} {B : (Bool -> World -> Prop) -> Prop} (Q : Bool -> World -> Prop) (hB : B Q) (h : ∀ b w, Q b w -> R b w) :
   ∃ J : FP [.one (.bool)], B J /\ ∀ b : Bool, aE n (∀ wj : World, J b wj -> R b wj) := ⟨Q, hB, fun b => aE.of (h b) _⟩
theorem xL {α : Type} {T : Ty α} (hfl : BP T) {P : Program} {st t ty : TypeId} {bytes : Nat} {z : Value} (hu : P.underlying st = some (.slice t)) (tf : TF P t T.k bytes z) (hb0 : 0 < bytes)
   {w0 w w1 : World} {a : Option Addr} {n c : Nat} {xs : List α} (ho : Ow T t w NoB a n c xs) (hf : bD w0.heap.size a) (hb : Below w0.heap.size w0 w) {k1 : Nat} {vs : List Value} {x : α} (hk : k1 = w.heap.size)
   (hw : w1 = w.alloc (.cells vs.toArray t)) (hx : T.rep w NoB vs x) {cm : Nat} (hbound : (xs.length + 1) * bytes <= 140737488355328) :
   ∃ (w2 : World) (a' : Option Addr) (n' c' : Nat), (Builtin.append_ #[st, st] ty #[.slice a n c, .slice (some ⟨k1, 0, none⟩) 1 cm]).run P w1 = .ok (.slice a' n' c') w2 /\ Ow T t w2 NoB a' n' c' (xs ++ [x]) /\ bD w0.heap.size a' /\ Below w0.heap.size w0 w2 := by
 have hB1 : Below w.heap.size w w1 := hw ▸ ah w _
 have ho3 := ho.below hB1
 have hsrc : Src T w1 NoB (some ⟨k1, 0, none⟩) 1 [x] := Src.new1F hfl hk hw hx
 obtain ⟨w4, a4, n4, c4, hr, ho4, hgr, hfr⟩ := cJ (ty := ty) hu tf hb0 ho3 (fun _ _ h => h) (cm := cm) hsrc (by simpa using hbound)
 have hB := ab hb hB1 hb.size
 exact ⟨w4, a4, n4, c4, hr, ho4, hf.app hB.size hfr, hB.grown hgr hB.size hf⟩
theorem iv {P : Program} {f : FuncId} {args : Array Value} {w u : World} {v : Value} (h : Calls P f args u (Ret fun v' w' => v' = v /\ Below u.heap.size u w')) (hu : Below w.heap.size w u) :
   Calls P f args u fun e w' => e = .returned v /\ Below w.heap.size u w' := by
 refine h.mono ?_
 rintro _ w' ⟨_, rfl, rfl, hb⟩
 exact ⟨rfl, hb.mono hu.size⟩
theorem lB {a b : Nat} (h : a + b <= 9223372036854775807) : ((a + b : Nat) : Int) <= i64.max := by simp [IntKind.max, IntKind.bits]; omega
end Go.Pk
namespace Go.Pk
open Go.RowKit (Below)
structure Whl (P : Program) (t : TypeId) (n : Nat) : Prop where
 tf : ∃ bytes z, TF P t n bytes z
 ag : (P.underlying t).map Ar = some true
def BQ (cs : List Value) : Prop := ∀ c ∈ cs, c.oneCell' = true
theorem bS {x : Value} {b : List Value} (h : x.oneCell' = true) (k : BQ b) : BQ (x :: b) := fun c hc => (List.mem_cons.1 hc).elim (fun e => e ▸ h) (k c)
theorem nf : BQ [] := fun _ h => by cases h
theorem IE (a : List UInt8) : BQ (a.map fun c => Value.int .u8 ((c.toNat : Nat) : Int)) := fun c hc => by
 obtain ⟨x, _, rfl⟩ := List.mem_map.1 hc; rfl
theorem Whl.store {P : Program} {t : TypeId} {n : Nat} (h : Whl P t n) {cs : List Value} (hl : cs.length = n) (h1 : BQ cs) {w : World} {k : Nat} {T : TypeId} {vs : List Value} (ha : am w k T vs) {i : Nat} (hfit : i + n <= vs.length) :
   ∃ wx, (Instr.storeAt t (.pointer (some ⟨k, i, none⟩)) (.agg cs.toArray)).run P w = .ok () wx /\ am wx k T (vs.take i ++ cs ++ vs.drop (i + n)) /\ w.grownBy wx (some k) := by
 obtain ⟨bytes, z, tf⟩ := h.tf
 exact ha.store tf (i := i) (v := .agg cs.toArray) (by simpa [Value.cells] using hl) hfit (fun c hc => h1 c (by simpa [Value.cells] using hc))
theorem Whl.store0 {P : Program} {t : TypeId} {n : Nat} (h : Whl P t n) {cs : List Value} (hl : cs.length = n) (h1 : BQ cs) {w : World} {k : Nat} {T : TypeId} {vs : List Value} (ha : am w k T vs) (hv : vs.length = n) :
   ∃ wx, (Instr.storeAt t (.pointer (some ⟨k, 0, none⟩)) (.agg cs.toArray)).run P w = .ok () wx /\ am wx k T cs /\ w.grownBy wx (some k) := by
 obtain ⟨wx, hs, h2, hg⟩ := h.store hl h1 ha (i := 0) (by omega)
 refine ⟨wx, hs, ?_, hg⟩
 rw [List.take_zero, List.nil_append, List.drop_eq_nil_of_le (by omega), List.append_nil] at h2
 exact h2
theorem Whl.load {P : Program} {t : TypeId} {n : Nat} (h : Whl P t n) {w : World} {k : Nat} {T : TypeId} {vs us : List Value} (ha : am w k T vs) {i : Nat} (hl : us.length = n) (hv : ∀ j, j < n -> vs[i + j]? = us[j]?) :
   (Instr.loadAt t (.pointer (some ⟨k, i, none⟩))).run P w = .ok (.agg us.toArray) w := by
 obtain ⟨bytes, z, tf⟩ := h.tf
 obtain ⟨ti, hti, hsz, _, _⟩ := tf.info
 have hag := h.ag
 cases hu : P.underlying t with
 | none => rw [hu] at hag; cases hag
 | some d =>
   rw [hu] at hag
   simp only [Option.map_some, Option.some.injEq] at hag
   exact ha.loadA hu hag hti (us := us) (i := i) (by rw [hsz]; exact hl) (fun j hj => hv j (by omega))
theorem Whl.load0 {P : Program} {t : TypeId} {n : Nat} (h : Whl P t n) {w : World} {k : Nat} {T : TypeId} {cs : List Value} (ha : am w k T cs) (hl : cs.length = n) :
   (Instr.loadAt t (.pointer (some ⟨k, 0, none⟩))).run P w = .ok (.agg cs.toArray) w := h.load ha hl fun j _ => by rw [Nat.zero_add]
theorem Whl.new {P : Program} {t : TypeId} {n : Nat} (h : Whl P t n) {zs cs : List Value} (hz : zs.length = n) (hl : cs.length = n) (h1 : BQ cs) (w : World) {R : Nat -> World -> Prop}
   (H : ∀ k wx, k = w.heap.size -> am wx k t cs -> Below w.heap.size w wx -> R k wx) :
   ∀ (k : Nat) (w1 : World), k = w.heap.size -> w1 = w.alloc (.cells zs.toArray t) -> ∃ (wx : World), (Instr.storeAt t (.pointer (some ⟨k, 0, none⟩)) (.agg cs.toArray)).run P w1 = .ok () wx /\ R k wx := by
 intro k w1 hk hw
 have hB := (hw ▸ ah w _ : Below w.heap.size w w1)
 obtain ⟨wx, hs, h3, hg⟩ := h.store0 hl h1 (am.new hk hw : am w1 k t zs) hz
 exact ⟨wx, hs, H k wx hk h3 (hB.grown hg hB.size fun x e => by cases e; omega)⟩
theorem Whl.fin {P : Program} {t : TypeId} {n : Nat} (h : Whl P t n) {cs : List Value} (hl : cs.length = n) (h1 : BQ cs) {w w' : World} {k2 : Nat} {vs : List Value} (h2 : am w' k2 t vs) (hv : vs.length = n) (hb : Below w.heap.size w w') (hk : w.heap.size <= k2)
   {K : Value -> World -> Prop} (hK : ∀ wx, Below w.heap.size w wx -> K (.agg cs.toArray) wx) :
   ∃ (wx : World), (Instr.storeAt t (.pointer (some ⟨k2, 0, none⟩)) (.agg cs.toArray)).run P w' = .ok () wx /\ ∃ vr : Value, (bm t (.pointer (some ⟨k2, 0, none⟩))).run P wx = .ok vr wx /\ K vr wx := by
 obtain ⟨wx, hs, h3, hg⟩ := h.store0 hl h1 h2 hv
 exact ⟨wx, hs, _, am.res (h.load0 h3 hl), hK wx (hb.grown hg hb.size fun x e => by cases e; exact hk)⟩
theorem Below.put {w0 w w' : World} {k : Nat} (h : Below w0.heap.size w0 w) (hg : w.grownBy w' (some k)) (hk : w0.heap.size <= k) : Below w0.heap.size w0 w' := h.grown hg h.size fun x e => by cases e; exact hk
theorem gt {x y : Nat} (h : x ≠ y) : some x ≠ some y := fun e => h (Option.some.inj e)
theorem dH (k o i : Nat) : ao (some ⟨k, o, none⟩) (i : Int) 1 = some ⟨k, o + i, none⟩ := by
 unfold ao
 simp only [Option.map_some, Int.toNat_natCast, Nat.mul_one, Option.some.injEq]
 unfold Addr.add; split <;> simp_all
theorem Ow.put {α : Type} {T : Ty α} {t : TypeId} {w w' : World} {a : Option Addr} {n c k : Nat} {xs : List α} (h : Ow T t w NoB a n c xs) (hog : ∀ g, bE a = some g -> g ≠ k) (hg : w.grownBy w' (some k)) : Ow T t w' NoB a n c xs :=
 h.keep (hX hg fun b hb e => by
   rcases hb with hb | hb
   · exact hb
   · exact hog b hb.symm (Option.some.inj e))
theorem Sl.text {P : Program} {u : TypeId} (hu : P.underlying u = some .string) {w : World} {A : Bl} {a : Option Addr} {n c : Nat} {xs : List (List UInt8)} (h : Sl tS w A a n c xs) {i : Nat} (hi : i < xs.length) : (Instr.loadAt u (.pointer (ao a (i : Int) 1))).run P w = .ok (.string (mkS xs[i])) w := by
 obtain ⟨v, hv, hrep⟩ := h.load1 (i := (i : Int)) hu rfl rfl (by simpa using hi)
 obtain ⟨rfl, -⟩ := i6 hrep
 simpa using hv
end Go.Pk
namespace Go.Pk
open Go.RowKit (Below)
structure Chg (S : List Nat) (w w' : World) : Prop where
 os : w'.os = w.os
 tape : w'.tape = w.tape
 output : w'.output = w.output
 size : w.heap.size <= w'.heap.size
 block : ∀ k, k < w.heap.size -> k ∉ S -> w'.heap[k]? = w.heap[k]?
theorem Chg.refl (S : List Nat) (w : World) : Chg S w w := ⟨rfl, rfl, rfl, Nat.le_refl _, fun _ _ _ => rfl⟩
theorem Chg.trans {S : List Nat} {a b c : World} (h : Chg S a b) (k : Chg S b c) : Chg S a c :=
 ⟨k.os.trans h.os, k.tape.trans h.tape, k.output.trans h.output, Nat.le_trans h.size k.size, fun i hi hs => (k.block i (Nat.lt_of_lt_of_le hi h.size) hs).trans (h.block i hi hs)⟩
theorem Chg.of {S : List Nat} {w w' : World} (h : Below w.heap.size w w') : Chg S w w' := ⟨h.os, h.tape, h.output, h.size, fun k hk _ => h.block k hk⟩
theorem Chg.grown {S : List Nat} {w w' : World} {r : Nat} (h : w.grownBy w' (some r)) (hr : r ∈ S) : Chg S w w' :=
 ⟨h.os, h.tape, h.output, h.size, fun k hk hs => h.block k hk fun e => hs (by cases e; exact hr)⟩
theorem Chg.mono {S S' : List Nat} {w w' : World} (h : Chg S w w') (hs : ∀ k ∈ S, k ∈ S') : Chg S' w w' := ⟨h.os, h.tape, h.output, h.size, fun k hk hn => h.block k hk fun hm => hn (hs k hm)⟩
theorem Chg.below {S : List Nat} {B : Nat} {w w' : World} (h : Chg S w w') (hB : B <= w.heap.size) (hs : ∀ k ∈ S, B <= k) : Below B w w' :=
 ⟨h.os, h.tape, h.output, h.size, fun k hk => h.block k (by omega) fun hm => by have := hs k hm; omega⟩
theorem Chg.none {w w' : World} (h : Chg [] w w') : Below w.heap.size w w' := h.below (Nat.le_refl _) fun k hk => by cases hk
theorem Chg.keep {S : List Nat} {w w' : World} (h : Chg S w w') : sg (fun b => b ∉ S) w w' := ⟨h.size, fun b hb ha => h.block b hb ha⟩
theorem Chg.arr {S : List Nat} {w w' : World} (h : Chg S w w') {k : Nat} {t : TypeId} {vs : List Value} (ha : am w k t vs) (hk : k ∉ S) : am w' k t vs := ha.block (h.block k ha.lt hk)
theorem Chg.step {S : List Nat} {a b c : World} (h : Chg S a b) (k : Below b.heap.size b c) : Chg S a c := h.trans (Chg.of k)
theorem Chg.put {S : List Nat} {a b c : World} {r : Nat} (h : Chg S a b) (k : b.grownBy c (some r)) (hr : a.heap.size <= r) : Chg S a c :=
   ⟨k.os.trans h.os, k.tape.trans h.tape, k.output.trans h.output, Nat.le_trans h.size k.size, fun i hi hs => (k.block i (Nat.lt_of_lt_of_le hi h.size) (fun e => by cases e; omega)).trans (h.block i hi hs)⟩
end Go.Pk
namespace Go.Pk
open Go.RowKit (Below)
theorem Ow.cells {α : Type} {T : Ty α} {t : TypeId} {w : World} {A : Bl} {a : Option Addr} {n c : Nat} {xs : List α} (h : Ow T t w A a n c xs) {g : Nat} (hg : bE a = some g) : ∃ o : Obj, w.heap[g]? = some o /\ o.isCells = true := by
 rcases h.2.2.2 with ⟨e, _⟩ | ⟨g', cur, fr, e, hh, _⟩
 · rw [e] at hg; cases hg
 · rw [e] at hg
   have : g' = g := by simpa [bE] using hg
   subst this
   exact ⟨_, hh, rfl⟩
def yS (w : World) (row : Option Nat) : Prop := ∀ r, row = some r -> ∃ o : Obj, w.heap[r]? = some o /\ o.isCells = false
theorem am.turned {w w' : World} {k : Nat} {t : TypeId} {vs : List Value} {row : Option Nat} (h : am w k t vs) (hg : w.grownBy w' row) (hr : yS w row) : am w' k t vs :=
 h.grown hg fun e => by
   obtain ⟨o, ho, hc⟩ := hr k e.symm
   rw [show w.heap[k]? = _ from h] at ho; cases ho; cases hc
theorem Ow.turned {α : Type} {T : Ty α} {t : TypeId} {w w' : World} {a : Option Addr} {n c : Nat} {xs : List α} {row : Option Nat} (h : Ow T t w NoB a n c xs) (hg : w.grownBy w' row) (hr : yS w row) : Ow T t w' NoB a n c xs := by
 cases row with
 | none => exact h.keep (hX hg fun b hb e => by cases e)
 | some r =>
   refine h.put (fun g hg' e => ?_) hg
   subst e
   obtain ⟨o, ho, hc⟩ := h.cells hg'
   obtain ⟨o', ho', hc'⟩ := hr g rfl
   rw [ho] at ho'; cases ho'; rw [hc] at hc'; cases hc'
theorem ux {n₀ : Nat} {w0 w w' : World} {row : Option Nat} (h : Below n₀ w0 w) (hn : n₀ <= w.heap.size) (hg : w.grownBy w' row) (hr : ∀ r, row = some r -> n₀ <= r) : Below n₀ w0 w' := h.grown hg hn hr
def rQ (md : Region.Mode) (ops : Array Oper) : Nat -> Array Bool -> List (List Nat)
 | 0, _ => [[]]
 | f + 1, listed => match Region.ready md ops listed with
   | [] => [[]]
   | i :: is => (i :: is).flatMap fun j => (rQ md ops f (listed.setIfInBounds j true)).map (j :: ·)
theorem sE {md : Region.Mode} {ops : Array Oper} : ∀ (fuel t : Nat) (listed : Array Bool), Region.linearise.go md ops fuel t listed [] ∈ rQ md ops fuel listed
 | 0, t, listed => by simp [Region.linearise.go, rQ]
 | fuel + 1, t, listed => by
   simp only [Region.linearise.go]
   change (match (Region.ready md ops listed)[t % (Region.ready md ops listed).length]? with
     | some i => Region.linearise.go md ops fuel (t / (Region.ready md ops listed).length) (listed.setIfInBounds i true) [i]
     | none => [].reverse) ∈ _
   cases hr : Region.ready md ops listed with
   | nil => simp [rQ, hr]
   | cons x xs =>
     have hlt : t % (x :: xs).length < (x :: xs).length := Nat.mod_lt _ (by simp)
     rw [List.getElem?_eq_getElem hlt]
     simp only [rQ, hr]
     rw [linearise_go_acc, List.reverse_singleton, List.singleton_append]
     exact List.mem_flatMap.2 ⟨_, List.getElem_mem hlt, List.mem_map.2 ⟨_, sE fuel _ _, rfl⟩⟩
section
variable {F : Fence} {n : Nat} {P : Program} {ops : Array Oper} {Q : Exit -> Act -> World -> Prop} {a : Act} {w : World}
theorem uW : ∀ (l : List Nat) (a : Act) (w : World), wpListIn F n P ops Q (l.filterMap fun i => ops[i]?) a w -> wpOpsIn F n P ops Q l a w
 | [], a, w, h => h
 | i :: l, a, w, h => by
   have ih := uW l
   cases ho : ops[i]? with
   | none =>
     rw [List.filterMap_cons_none ho] at h
     simp only [wpOpsIn, ho]
     exact ih _ _ h
   | some o =>
     rw [List.filterMap_cons_some ho] at h
     simp only [wpOpsIn, ho]
     unfold wpListIn at h
     have e : wpListIn F n P ops Q (l.filterMap fun i => ops[i]?) = wpListIn F n P ops Q (l.filterMap fun i => ops[i]?) := rfl
     split at h
     · rename_i hw
       rw [if_pos hw]
       exact Oper.wpIn_mono (fun a w => ih a w) h
     · rename_i hw
       rw [if_neg hw]
       exact ⟨h.1, ih _ _ h.2⟩
theorem CU {id : Nat} {os : List (List Oper)} (hm : P.follows .mixedOrders = true) (ho : (rQ .any ops ops.size (Array.replicate ops.size false)).map (fun l => l.filterMap fun i => ops[i]?) = os)
   (h : ∀ l ∈ os, wpListIn F n P ops Q l a w.drew) : (Code.region id ops true).wpIn F n P Q a w :=
 wpIn_region_draw fun t => by
   simp only [Region.schedule, hm, Bool.true_or, if_true]
   refine uW _ _ _ (h _ ?_)
   rw [<- ho]
   exact List.mem_map.2 ⟨_, sE _ _ _, rfl⟩
end
section
variable {F : Fence} {n : Nat} {P : Program} {ops : Array Oper} {Q : Exit -> Act -> World -> Prop} {a : Act} {w : World} {rest : List Oper} {o : Oper}
theorem HH (hw : Region.wanted o (yielded ops a.tmps) = true) (h : ∀ K : Act -> World -> Prop, (∀ a w, wpListIn F n P ops Q rest a w -> K a w) -> o.wpIn F n P a w K Q) : wpListIn F n P ops Q (o :: rest) a w :=
 wpListIn_step fun K hK => by rw [if_pos hw]; exact h K hK
theorem wo (hw : Region.wanted o (yielded ops a.tmps) = true) (hd : ∀ c, o.op ≠ .defer c) (ha : o.about P w a.eval = none) {v : Value} {w' : World} (hrun : (execOp a.eval o).run P w = .ok (.value v) w') (hK : wpListIn F n P ops Q rest (a.put o.dst v) w') : wpListIn F n P ops Q (o :: rest) a w := by
 refine HH hw fun K hK' => ⟨fun f hf => ?_, ?_⟩
 · rw [ha] at hf; cases hf
 · rw [Oper.semAt_plain F _ _ hd, hrun]
   exact hK' _ _ hK
theorem Je (hw : Region.wanted o (yielded ops a.tmps) = true) (hd : ∀ c, o.op ≠ .defer c) (ha : o.about P w a.eval = none) {w' : World} (hrun : (execOp a.eval o).run P w = .ok .skip w') (hK : wpListIn F n P ops Q rest (a.put o.dst undef) w') : wpListIn F n P ops Q (o :: rest) a w := by
 refine HH hw fun K hK' => ⟨fun f hf => ?_, ?_⟩
 · rw [ha] at hf; cases hf
 · rw [Oper.semAt_plain F _ _ hd, hrun]
   exact hK' _ _ hK
theorem cS (hw : Region.wanted o (yielded ops a.tmps) = true) {t : TypeId} {x : Operand} (hop : o.op = .load t x) {p : Value} (hx : a.eval x = p) {v : Value} (hrun : (Instr.loadAt t p).run P w = .ok v w) (hK : wpListIn F n P ops Q rest (a.put o.dst v) w) : wpListIn F n P ops Q (o :: rest) a w :=
 wo hw (by rw [hop]; intro c hc; cases hc) (by simp [Oper.about, hop]) (by simp [execOp, hop, hx, hrun, Result.andThen]) hK
theorem cO (hw : Region.wanted o (yielded ops a.tmps) = true) {t : TypeId} {x y : Operand} (hop : o.op = .store t x y) {p u : Value} (hx : a.eval x = p) (hy : a.eval y = u) {w' : World} (hrun : (Instr.storeAt t p u).run P w = .ok () w') (hK : wpListIn F n P ops Q rest (a.put o.dst undef) w') : wpListIn F n P ops Q (o :: rest) a w :=
 Je hw (by rw [hop]; intro c hc; cases hc) (by simp [Oper.about, hop]) (by simp [execOp, hop, hx, hy, hrun, Result.andThen]) hK
theorem yw (hw : Region.wanted o (yielded ops a.tmps) = true) {t : TypeId} (hop : o.op = .alloc t) {v : Value} {w' : World} (hrun : (Instr.alloc t true (.tuple #[])).run P w = .ok v w') (hK : wpListIn F n P ops Q rest (a.put o.dst v) w') : wpListIn F n P ops Q (o :: rest) a w :=
 wo hw (by rw [hop]; intro c hc; cases hc) (by simp [Oper.about, hop]) (by simp [execOp, hop, hrun, Result.andThen]) hK
theorem Jd (hw : Region.wanted o (yielded ops a.tmps) = true) {t : TypeId} {x : Operand} (hop : o.op = .box t x) {u : Value} (hx : a.eval x = u) {k : Nat} {w' : World} (hk : k = w.heap.size) (hw' : w' = w.alloc (.cells u.cells t)) (hK : wpListIn F n P ops Q rest (a.put o.dst (.pointer (some ⟨k, 0, none⟩))) w') : wpListIn F n P ops Q (o :: rest) a w := by
 subst hk hw'
 exact wo hw (by rw [hop]; intro c hc; cases hc) (by simp [Oper.about, hop]) (by
   have hb : (Instr.box t u).run P w = .ok (.pointer (some ⟨w.heap.size, 0, none⟩)) (w.alloc (.cells u.cells t)) := rfl
   simp [execOp, hop, hx, hb, Result.andThen]) hK
theorem dh (hw : Region.wanted o (yielded ops a.tmps) = true) {x : Operand} (hop : o.op = .move x \/ o.op = .assign x) {u : Value} (hx : a.eval x = u) (hK : wpListIn F n P ops Q rest (a.put o.dst u) w) : wpListIn F n P ops Q (o :: rest) a w :=
 wo hw (by rcases hop with hop | hop <;> (rw [hop]; intro c hc; cases hc)) (by rcases hop with hop | hop <;> simp [Oper.about, hop]) (by rcases hop with hop | hop <;> simp [execOp, hop, hx]) hK
theorem eF (hw : Region.wanted o (yielded ops a.tmps) = true) {t : TypeId} {x : Operand} (hop : o.op = .buildSlice t 1 #[(0, x)]) {u : Value} (hx : a.eval x = u) {v : Value} {w' : World} (hrun : (Instr.buildSlice t 1 #[(0, u)]).run P w = .ok v w') (hK : wpListIn F n P ops Q rest (a.put o.dst v) w') : wpListIn F n P ops Q (o :: rest) a w :=
 wo hw (by rw [hop]; intro c hc; cases hc) (by simp [Oper.about, hop]) (by simp [execOp, hop, hx, hrun, Result.andThen]) hK
theorem fe (hw : Region.wanted o (yielded ops a.tmps) = true) {t : TypeId} {x y : Operand} (hop : o.op = .call { callee := .builtin .append, args := #[x, y], argTypes := #[t, t] }) {p q : Value} (hx : a.eval x = p) (hy : a.eval y = q) {v : Value} {w' : World} (hrun : (Builtin.append_ #[t, t] o.type #[p, q]).run P w = .ok v w') (hK : wpListIn F n P ops Q rest (a.put o.dst v) w') : wpListIn F n P ops Q (o :: rest) a w :=
 wo hw (by rw [hop]; intro c hc; cases hc) (by simp [Oper.about, hop, resolve, Target.leads, Sem.run_pure]) (by simp [execOp, hop, resolve, invoke, builtin, hx, hy, hrun, Result.andThen]) hK
theorem Iy (hw : Region.wanted o (yielded ops a.tmps) = true) {f : FuncId} {xs : Array Operand} {ts : Array TypeId} (hop : o.op = .call { callee := .value (.func f), args := xs, argTypes := ts }) {us : Array Value} (hx : xs.map a.eval = us) (hn : 1 <= n) (hF : ∀ g, F.fn g) (ef : ∀ (args : Array Value) (w : World), (callFunc f args).run P w = .ok (.enter f args) w)
   (h : CallsIn F (n - 1) P f us w fun e w' => ∃ v, e = .returned v /\ wpListIn F n P ops Q rest (a.put o.dst v) w') : wpListIn F n P ops Q (o :: rest) a w := by
 refine HH hw fun K hK' => ⟨fun g hg => hF g, ?_⟩
 rw [Oper.semAt_plain F _ _ (by rw [hop]; intro c hc; cases hc)]
 have hr : (execOp a.eval o).run P w = .ok (.enter f us) w := by
   subst hx
   simp [execOp, hop, resolve, invoke, Deferred.ofValue, Act.eval, Result.andThen]
   exact ef _ _
 rw [hr, Oper.uponIn_enter]
 refine ⟨fun _ => hn, h.mono ?_⟩
 rintro e w' ⟨v, rfl, hv⟩
 exact hK' _ _ hv
theorem uA (hw : Region.wanted o (yielded ops a.tmps) = true) {f : FuncId} {x : Operand} {ts : Array TypeId} (hop : o.op = .call { callee := .value (.func f), args := #[x], argTypes := ts }) {u : Value} (hx : a.eval x = u) (hn : 1 <= n) (hF : ∀ g, F.fn g) (ef : ∀ (args : Array Value) (w : World), (callFunc f args).run P w = .ok (.enter f args) w)
   (h : CallsIn F (n - 1) P f #[u] w fun e w' => ∃ v, e = .returned v /\ wpListIn F n P ops Q rest (a.put o.dst v) w') : wpListIn F n P ops Q (o :: rest) a w :=
 Iy hw hop (us := #[u]) (by simp [hx]) hn hF ef h
theorem hZ (hw : Region.wanted o (yielded ops a.tmps) = true) {f : FuncId} {x y : Operand} {ts : Array TypeId} (hop : o.op = .call { callee := .value (.func f), args := #[x, y], argTypes := ts }) {u v : Value} (hx : a.eval x = u) (hy : a.eval y = v) (hn : 1 <= n) (hF : ∀ g, F.fn g) (ef : ∀ (args : Array Value) (w : World), (callFunc f args).run P w = .ok (.enter f args) w)
   (h : CallsIn F (n - 1) P f #[u, v] w fun e w' => ∃ v, e = .returned v /\ wpListIn F n P ops Q rest (a.put o.dst v) w') : wpListIn F n P ops Q (o :: rest) a w :=
 Iy hw hop (us := #[u, v]) (by simp [hx, hy]) hn hF ef h
theorem sp {x y : Code} (h : x.wpIn F n P (Exit.then (y.wpIn F n P Q) Q) a w) : (Code.seq x y).wpIn F n P Q a w := wpIn_seq h
theorem sf {y : Code} {R : Exit -> Act -> World -> Prop} (h : y.wpIn F n P Q a w) : wpListIn F n P ops (Exit.then (y.wpIn F n P Q) R) [] a w := h
theorem HG {x y : Code} (K : Act -> World -> Prop) (h : x.wpIn F n P (Exit.then K Q) a w) (hK : ∀ a w, K a w -> y.wpIn F n P Q a w) : (Code.seq x y).wpIn F n P Q a w :=
 wpIn_seq (Code.wpIn_mono (fun e a w q => by cases e <;> first | exact hK _ _ q | exact q) h)
theorem Iz {K : Act -> World -> Prop} {R : Exit -> Act -> World -> Prop} (h : K a w) : wpListIn F n P ops (Exit.then K R) [] a w := h
theorem E6 {id : Nat} {ops : Array Oper} (hm : P.follows .mixedOrders = true) (L : List (List Nat)) (hL : rQ .any ops ops.size (Array.replicate ops.size false) = L)
   (h : ∀ l ∈ L, wpListIn F n P ops Q (l.filterMap fun i => ops[i]?) a w.drew) : (Code.region id ops true).wpIn F n P Q a w :=
 CU hm rfl fun l hl => by
   rw [hL] at hl
   obtain ⟨x, hx, rfl⟩ := List.mem_map.1 hl
   exact h x hx
end
end Go.Pk
namespace Go.Pk
def BG {α : Type} (f : Nat -> α) (k : Nat) : List α := (List.range k).map f
theorem sY {α : Type} (f : Nat -> α) (k : Nat) : BG f (k + 1) = BG f k ++ [f k] := by simp [BG, List.range_succ]
theorem xr {α : Type} (f : Nat -> α) (k : Nat) : (BG f k).length = k := by simp [BG]
def bkF {α : Type} (d : α) (len : Nat) (zs : List α) (k : Nat) : Int × α := ((len : Int) - 1 - (k : Int), zs[len - 1 - k]?.getD d)
theorem EL {α : Type} (d : α) (zs : List α) : (BG (bkF d zs.length zs) zs.length).map Prod.snd = zs.reverse := by
 apply List.ext_getElem
 · simp [BG]
 · intro i h1 h2
   have hi : i < zs.length := by simpa [BG] using h1
   have : zs.length - 1 - i < zs.length := by omega
   simp [BG, bkF, List.getElem_reverse, this]
theorem EM {α : Type} (d : α) (zs : List α) {k : Nat} (hk : k <= zs.length) {p : Int × α} (hp : p ∈ BG (bkF d zs.length zs) k) : p.2 ∈ zs := by
 unfold BG at hp
 obtain ⟨i, hi, rfl⟩ := List.mem_map.1 hp
 rw [List.mem_range] at hi
 have : zs.length - 1 - i < zs.length := by omega
 show zs[zs.length - 1 - i]?.getD d ∈ zs
 rw [List.getElem?_eq_getElem this]
 exact List.getElem_mem this
end Go.Pk
namespace Go.Proofs.YtpafoodmpjlkhaaGreatDoor
open Go.RowKit Go.Shelf Go.Pk
attribute [local go_sem] Oper.semAt_some
set_option maxRecDepth 100000 in
set_option maxHeartbeats 2000000 in
theorem Hx (F : Fence) (n : Nat) (h7 : F.fn 130) (hro : F.round = none) (hn : 1 <= n) (l Bs b off len cap : Nat) (zs : List (List UInt8)) (hreach : len <= 140737488351232) (A : Bl) (hAb : A b) (hAB : A Bs) (J Jx : List (Int × (List UInt8)) -> World -> Prop)
   (hY : ∀ pre x W, J pre W -> pre.length < len -> YieldAt F (n - 1) prog l #[.int .i64 x.1, .string (mkS x.2)] W fun e W' =>
     (e = .returned (.bool true) /\ J (pre ++ [x]) W' /\ sg A W W') \/ (e = .returned (.bool false) /\ Jx (pre ++ [x]) W'))
   (W : World) (hBs : W.cell? ⟨Bs, 0, none⟩ = some (.slice (some ⟨b, off, none⟩) len cap)) (hBn : Bs < W.heap.size) (hbn : b < W.heap.size) (hc : ∀ j, j < len -> W.cell? ⟨b, off + j, none⟩ = some (.string (mkS (zs[j]?.getD [])))) (h0 : J [] W) :
   CallsIn F n prog 130 #[.func (.yield l) #[] #[], .pointer (some ⟨Bs, 0, none⟩)] W fun e W' => (∃ v, e = .returned v) /\
     ((∃ ys, ys = BG (bkF [] len zs) len /\ J ys W') \/ (∃ pre, (∃ k, k <= len /\ pre = BG (bkF [] len zs) k) /\ Jx pre W')) := by
 refine callsIn_of_wp Tryz.func130 rfl h7 ?_ hro
 simp only [Tryz.ntmps130, List.size_toArray, List.length_cons, List.length_nil, Nat.reduceAdd, Nat.reduceSub, Array.replicate_succ, Array.replicate_zero, List.push_toArray, List.append_toArray, List.nil_append, List.cons_append]
 gi_wp2
 gi_loopw [3] (fun i wr => ∃ k : Nat, k <= len /\ i = .int .i64 ((len : Int) - 1 - (k : Int)) /\ J (BG (bkF [] len zs) k) wr /\ sg A W wr)
   (fun i _ => (RowKit.intOf i + 1).toNat)
 case atStart => exact ⟨0, Nat.zero_le _, by simp, h0, sg.refl _ _⟩
 case round =>
   obtain ⟨k, hk, rfl, hJs, hnx⟩ := hrel
   by_cases hlt : k < len
   · have hcx : wr.cell? ⟨b, off + (len - 1 - k), none⟩ = some (.string (mkS (zs[len - 1 - k]?.getD []))) := (kp (hnx.block b hbn hAb) _).trans (hc _ (by omega))
     have hBs' : wr.cell? ⟨Bs, 0, none⟩ = some (.slice (some ⟨b, off, none⟩) len cap) := (kp (hnx.block Bs hBn hAB) _).trans hBs
     have hi : (len : Int) - 1 - (k : Int) = ((len - 1 - k : Nat) : Int) := by omega
     obtain ⟨fn, tmps, assign, body, hy, hR⟩ := hY _ (bkF [] len zs k) wr hJs (by rw [xr]; exact hlt)
     dsimp only [bkF] at hy
     rw [hi] at hy ⊢
     gi_wp2
     refine hR.mono ?_
     rintro e W3 (⟨rfl, hJ3, hk3⟩ | ⟨rfl, hJx3⟩)
     · gi_wp2
       go_roundw
       case rel => exact ⟨k + 1, by omega, by simp <;> omega, by rw [sY]; exact hJ3, hnx.trans hk3⟩
       case measure => simp [RowKit.intOf] <;> omega
     · gi_wp2
       refine bodyPost_ret (results_none rfl _ _ _) rfl ?_
       exact ⟨⟨_, rfl⟩, .inr ⟨_, ⟨k + 1, by omega, (sY _ _).symm⟩, hJx3⟩⟩
   · obtain rfl : k = len := by omega
     gi_wp2
     go_end0
     exact ⟨⟨_, rfl⟩, .inl ⟨_, rfl, hJs⟩⟩
set_option maxRecDepth 100000 in
set_option maxHeartbeats 1000000 in
theorem Ca (F : Fence) (n : Nat) (h7 : F.fn 130) (hro : F.round = none) (l Bs : Nat) (J : List (Int × (List UInt8)) -> World -> Prop) (a : Option Addr) (c : Nat) (W : World) (hBs : W.cell? ⟨Bs, 0, none⟩ = some (.slice a 0 c)) (h0 : J [] W) :
   CallsIn F n prog 130 #[.func (.yield l) #[] #[], .pointer (some ⟨Bs, 0, none⟩)] W fun e W' => (∃ v, e = .returned v) /\ J [] W' := by
 refine callsIn_of_wp Tryz.func130 rfl h7 ?_ hro
 simp only [Tryz.ntmps130, List.size_toArray, List.length_cons, List.length_nil, Nat.reduceAdd, Nat.reduceSub, Array.replicate_succ, Array.replicate_zero, List.push_toArray, List.append_toArray, List.nil_append, List.cons_append]
 gi_wp2
 gi_loopw [3] (fun i wr => i = .int .i64 (-1) /\ J [] wr) (fun _ _ => 0)
 case atStart => exact ⟨rfl, h0⟩
 case round =>
   obtain ⟨rfl, hJs⟩ := hrel
   gi_wp2
   go_end0
   exact ⟨⟨_, rfl⟩, hJs⟩
theorem DL (F : Fence) (n : Nat) (h7 : F.fn 130) (hro : F.round = none) (hn : 1 <= n) (Bs : Nat) {a : Option Addr} {len cap : Nat} (zs : List (List UInt8)) (hreach : zs.length <= 140737488351232) {w : World} {t : TypeId} (hBs : am w Bs t [.slice a len cap]) (hs : Sl tS w gT a len cap zs) :
   SeqStopsK F n prog 130 #[.pointer (some ⟨Bs, 0, none⟩)] (fun x : Int × List UInt8 => #[.int .i64 x.1, .string (mkS x.2)]) (sg (fun b => b = Bs \/ ∃ o, a = some ⟨b, o, none⟩)) (fun ys => ys.map Prod.snd = zs.reverse) (fun pre => ∀ p ∈ pre, p.2 ∈ zs) zs.length w := fun l J Jx W hW _ _ hY h0 => by
 have hBW := hBs.below hW
 have hlt := hBW.lt
 have hsW := hs.below hW
 obtain ⟨rfl, h2, h3, h4⟩ := hsW
 rcases h4 with rfl | ⟨b, off, rfl, hb, _, cl, hl, hc⟩
 · exact (Ca F n h7 hro l Bs J a cap W (hBW.cell 0) h0).mono fun e W' ⟨he, hj⟩ => ⟨he, .inl ⟨_, rfl, hj⟩⟩
 · refine (Hx F n h7 hro hn l Bs b off zs.length cap zs hreach _ (.inr ⟨off, rfl⟩) (.inl rfl) J Jx hY W (hBW.cell 0) hlt hb (fun j hj => ?_) h0).mono ?_
   · have he := ee hl
     rw [hc j (by rw [he]; simpa using hj), he]
     simp [hj]
   · rintro e W' ⟨he, ⟨ys, rfl, hj⟩ | ⟨pre, ⟨k, hk, rfl⟩, hj⟩⟩
     · exact ⟨he, .inl ⟨_, EL _ _, hj⟩⟩
     · exact ⟨he, .inr ⟨_, fun p hp => EM _ _ hk hp, hj⟩⟩
set_option maxRecDepth 100000 in
set_option maxHeartbeats 2000000 in
theorem Hv (F : Fence) (n : Nat) (h7 : F.fn 114) (hro : F.round = none) (hn : 1 <= n) (l Bs b off len cap : Nat) (zs : List Int) (hreach : len <= 140737488351232) (A : Bl) (hAb : A b) (hAB : A Bs) (J Jx : List (Int × Int) -> World -> Prop)
   (hY : ∀ pre x W, J pre W -> pre.length < len -> YieldAt F (n - 1) prog l #[.int .i64 x.1, .int .i64 x.2] W fun e W' =>
     (e = .returned (.bool true) /\ J (pre ++ [x]) W' /\ sg A W W') \/ (e = .returned (.bool false) /\ Jx (pre ++ [x]) W'))
   (W : World) (hBs : W.cell? ⟨Bs, 0, none⟩ = some (.slice (some ⟨b, off, none⟩) len cap)) (hBn : Bs < W.heap.size) (hbn : b < W.heap.size) (hc : ∀ j, j < len -> W.cell? ⟨b, off + j, none⟩ = some (.int .i64 (zs[j]?.getD 0))) (h0 : J [] W) :
   CallsIn F n prog 114 #[.func (.yield l) #[] #[], .pointer (some ⟨Bs, 0, none⟩)] W fun e W' => (∃ v, e = .returned v) /\
     ((∃ ys, ys = BG (bkF 0 len zs) len /\ J ys W') \/ (∃ pre, (∃ k, k <= len /\ pre = BG (bkF 0 len zs) k) /\ Jx pre W')) := by
 refine callsIn_of_wp Tryz.func114 rfl h7 ?_ hro
 simp only [Tryz.ntmps114, List.size_toArray, List.length_cons, List.length_nil, Nat.reduceAdd, Nat.reduceSub, Array.replicate_succ, Array.replicate_zero, List.push_toArray, List.append_toArray, List.nil_append, List.cons_append]
 gi_wp2
 gi_loopw [3] (fun i wr => ∃ k : Nat, k <= len /\ i = .int .i64 ((len : Int) - 1 - (k : Int)) /\ J (BG (bkF 0 len zs) k) wr /\ sg A W wr)
   (fun i _ => (RowKit.intOf i + 1).toNat)
 case atStart => exact ⟨0, Nat.zero_le _, by simp, h0, sg.refl _ _⟩
 case round =>
   obtain ⟨k, hk, rfl, hJs, hnx⟩ := hrel
   by_cases hlt : k < len
   · have hcx : wr.cell? ⟨b, off + (len - 1 - k), none⟩ = some (.int .i64 (zs[len - 1 - k]?.getD 0)) := (kp (hnx.block b hbn hAb) _).trans (hc _ (by omega))
     have hBs' : wr.cell? ⟨Bs, 0, none⟩ = some (.slice (some ⟨b, off, none⟩) len cap) := (kp (hnx.block Bs hBn hAB) _).trans hBs
     have hi : (len : Int) - 1 - (k : Int) = ((len - 1 - k : Nat) : Int) := by omega
     obtain ⟨fn, tmps, assign, body, hy, hR⟩ := hY _ (bkF 0 len zs k) wr hJs (by rw [xr]; exact hlt)
     dsimp only [bkF] at hy
     rw [hi] at hy ⊢
     gi_wp2
     refine hR.mono ?_
     rintro e W3 (⟨rfl, hJ3, hk3⟩ | ⟨rfl, hJx3⟩)
     · gi_wp2
       go_roundw
       case rel => exact ⟨k + 1, by omega, by simp <;> omega, by rw [sY]; exact hJ3, hnx.trans hk3⟩
       case measure => simp [RowKit.intOf] <;> omega
     · gi_wp2
       refine bodyPost_ret (results_none rfl _ _ _) rfl ?_
       exact ⟨⟨_, rfl⟩, .inr ⟨_, ⟨k + 1, by omega, (sY _ _).symm⟩, hJx3⟩⟩
   · obtain rfl : k = len := by omega
     gi_wp2
     go_end0
     exact ⟨⟨_, rfl⟩, .inl ⟨_, rfl, hJs⟩⟩
set_option maxRecDepth 100000 in
set_option maxHeartbeats 1000000 in
theorem B0 (F : Fence) (n : Nat) (h7 : F.fn 114) (hro : F.round = none) (l Bs : Nat) (J : List (Int × Int) -> World -> Prop) (a : Option Addr) (c : Nat) (W : World) (hBs : W.cell? ⟨Bs, 0, none⟩ = some (.slice a 0 c)) (h0 : J [] W) :
   CallsIn F n prog 114 #[.func (.yield l) #[] #[], .pointer (some ⟨Bs, 0, none⟩)] W fun e W' => (∃ v, e = .returned v) /\ J [] W' := by
 refine callsIn_of_wp Tryz.func114 rfl h7 ?_ hro
 simp only [Tryz.ntmps114, List.size_toArray, List.length_cons, List.length_nil, Nat.reduceAdd, Nat.reduceSub, Array.replicate_succ, Array.replicate_zero, List.push_toArray, List.append_toArray, List.nil_append, List.cons_append]
 gi_wp2
 gi_loopw [3] (fun i wr => i = .int .i64 (-1) /\ J [] wr) (fun _ _ => 0)
 case atStart => exact ⟨rfl, h0⟩
 case round =>
   obtain ⟨rfl, hJs⟩ := hrel
   gi_wp2
   go_end0
   exact ⟨⟨_, rfl⟩, hJs⟩
theorem DK (F : Fence) (n : Nat) (h7 : F.fn 114) (hro : F.round = none) (hn : 1 <= n) (Bs : Nat) {a : Option Addr} {len cap : Nat} (zs : List Int) (hreach : zs.length <= 140737488351232) {w : World} {t : TypeId} (hBs : am w Bs t [.slice a len cap]) (hs : Sl i7 w gT a len cap zs) :
   SeqStopsK F n prog 114 #[.pointer (some ⟨Bs, 0, none⟩)] (fun x : Int × Int => #[.int .i64 x.1, .int .i64 x.2]) (sg (fun b => b = Bs \/ ∃ o, a = some ⟨b, o, none⟩)) (fun ys => ys.map Prod.snd = zs.reverse) (fun pre => ∀ p ∈ pre, p.2 ∈ zs) zs.length w := fun l J Jx W hW _ _ hY h0 => by
 have hBW := hBs.below hW
 have hlt := hBW.lt
 have hsW := hs.below hW
 obtain ⟨rfl, h2, h3, h4⟩ := hsW
 rcases h4 with rfl | ⟨b, off, rfl, hb, _, cl, hl, hc⟩
 · exact (B0 F n h7 hro l Bs J a cap W (hBW.cell 0) h0).mono fun e W' ⟨he, hj⟩ => ⟨he, .inl ⟨_, rfl, hj⟩⟩
 · refine (Hv F n h7 hro hn l Bs b off zs.length cap zs hreach _ (.inr ⟨off, rfl⟩) (.inl rfl) J Jx hY W (hBW.cell 0) hlt hb (fun j hj => ?_) h0).mono ?_
   · have he := ee (e := fun n => Value.int .i64 n) (h1 := fun _ => rfl) (p := fun _ => True) hl
     rw [hc j (by rw [he]; simpa using hj), he]
     simp [hj]
   · rintro e W' ⟨he, ⟨ys, rfl, hj⟩ | ⟨pre, ⟨k, hk, rfl⟩, hj⟩⟩
     · exact ⟨he, .inl ⟨_, EL _ _, hj⟩⟩
     · exact ⟨he, .inr ⟨_, fun p hp => EM _ _ hk hp, hj⟩⟩
end Go.Proofs.YtpafoodmpjlkhaaGreatDoor
namespace Go.Pk
open Go.RowKit (Below)
def Es {α : Type} (T : Ty α) (ta tv : TypeId) (kv B : Nat) (w0 : World) (xs : List α) (W : World) : Prop :=
 ∃ (a : Option Addr) (n c : Nat), am W kv tv [.slice a n c] /\ Ow T ta W NoB a n c xs /\ (∀ g, bE a = some g -> B <= g) /\ Below kv w0 W
theorem Db {α β : Type} {T : Ty α} {ta tv : TypeId} {kv B : Nat} {w0 : World} {f : β -> List α} (hkv : kv < B) : OwnFrom B (fun pre W => Es T ta tv kv B w0 (f pre) W) := by
 rintro pre W W' row ⟨a, n, c, hB, ho, hf, hb⟩ hg hr
 have hr' : yS W row := fun r e => (hr r e).2
 refine ⟨a, n, c, hB.turned hg hr', ho.turned hg hr', hf, ux hb (Nat.le_of_lt hB.lt) hg fun r e => ?_⟩
 have := (hr r e).1
 omega
theorem Es.drew {α : Type} {T : Ty α} {ta tv : TypeId} {kv B : Nat} {w0 W : World} {xs : List α} (h : Es T ta tv kv B w0 xs W) : Es T ta tv kv B w0 xs W.drew := by
 obtain ⟨a, n, c, h1, h2, h3, h4⟩ := h
 exact ⟨a, n, c, h1.below (gV W), h2.below (gV W), h3, h4.trans ((gV W).mono (Nat.le_of_lt h1.lt))⟩
theorem Az {α : Type} {T : Ty α} (hfl : BP T) {P : Program} {ta tv : TypeId} {bytes bytesv : Nat} {z zv : Value} (hu : P.underlying tv = some (.slice ta)) (tf : TF P ta T.k bytes z) (hb0 : 0 < bytes) (tfv : TF P tv 1 bytesv zv)
   {kv B : Nat} {w0 W W1 : World} {xs : List α} {a : Option Addr} {n c : Nat} (hB : am W kv tv [.slice a n c]) (ho : Ow T ta W NoB a n c xs) (hf : ∀ g, bE a = some g -> B <= g) (hb : Below kv w0 W) (hkv : kv < B) (hBW : B <= W.heap.size)
   {k1 : Nat} {vs : List Value} {x : α} (hk : k1 = W.heap.size) (hw : W1 = W.alloc (.cells vs.toArray ta)) (hx : T.rep W NoB vs x) (hbound : (xs.length + 1) * bytes <= 140737488355328) :
   ∃ (W2 : World) (a' : Option Addr) (n' c' : Nat), (Builtin.append_ #[tv, tv] tv #[.slice a n c, .slice (some ⟨k1, 0, none⟩) 1 1]).run P W1 = .ok (.slice a' n' c') W2 /\
     ∃ W3 : World, (Instr.storeAt tv (.pointer (some ⟨kv, 0, none⟩)) (.slice a' n' c')).run P W2 = .ok () W3 /\ Es T ta tv kv B w0 (xs ++ [x]) W3 /\ KeepsFrom B W W3 /\ ∀ b, b < B -> b ≠ kv -> W3.heap[b]? = W.heap[b]? := by
 have hB1 : Below W.heap.size W W1 := hw ▸ ah W _
 have ho3 := ho.below hB1
 have hsrc : Src T W1 NoB (some ⟨k1, 0, none⟩) 1 [x] := Src.new1F hfl hk hw hx
 obtain ⟨W2, a4, n4, c4, hr, ho4, hgr, hfr⟩ := cJ (ty := tv) hu tf hb0 ho3 (fun _ _ h => h) (cm := 1) hsrc (by simpa using hbound)
 have hkv2 : some kv ≠ bE a := fun e => by have := hf kv e.symm; omega
 have hA2 : am W2 kv tv [.slice a n c] := (hB.below hB1).grown hgr hkv2
 obtain ⟨W3, hst, hA3, hg3⟩ := hA2.store tfv (i := 0) (v := .slice a4 n4 c4) rfl (by simp) (by intro c hcc; simp [Value.cells] at hcc; subst hcc; rfl)
 have hf4 : ∀ g, bE a4 = some g -> B <= g := fun g hg => by
   rcases hfr g hg with h | h
   · exact hf g h
   · exact Nat.le_trans hBW (Nat.le_trans hB1.size h)
 have hs3 : W.heap.size <= W3.heap.size := Nat.le_trans hB1.size (Nat.le_trans hgr.size hg3.size)
 have same : ∀ b, b < W.heap.size -> b ≠ kv -> some b ≠ bE a -> W3.heap[b]? = W.heap[b]? := fun b hb1 hb2 hb3 => by
   have l1 := Nat.lt_of_lt_of_le hb1 hB1.size
   rw [hg3.block b (Nat.lt_of_lt_of_le l1 hgr.size) (fun e => hb2 (by cases e; rfl)), hgr.block b l1 hb3, hB1.block b hb1]
 refine ⟨W2, a4, n4, c4, hr, W3, hst, ⟨a4, n4, c4, hA3, ho4.put (fun g hg e => by have := hf4 g hg; omega) hg3, hf4, ?_⟩, ⟨hs3, fun k o hk1 hk2 hk3 => ?_⟩, fun b hb1 hb2 => ?_⟩
 · refine ⟨?_, ?_, ?_, Nat.le_trans hb.size hs3, fun b hb1 => ?_⟩
   · rw [hg3.os, hgr.os, hB1.os, hb.os]
   · rw [hg3.tape, hgr.tape, hB1.tape, hb.tape]
   · rw [hg3.output, hgr.output, hB1.output, hb.output]
   · rw [same b (Nat.lt_trans hb1 hB.lt) (by omega) (fun e => by have := hf b e.symm; omega), hb.block b hb1]
 · refine (same k (Array.getElem?_eq_some_iff.1 hk2).1 (by omega) (fun e => ?_)).trans hk2
   obtain ⟨o2, h2, c2⟩ := ho.cells e.symm
   rw [hk2] at h2; cases h2; rw [hk3] at c2; cases c2
 · exact same b (by omega) hb2 fun e => by have := hf b e.symm; omega
theorem wC {A : Bl} {W : World} {l : Nat} {o' : Obj} (h : ∀ b, A b -> b ≠ l) : sg A W (W.putObj l o') := ⟨by simp [World.putObj], fun b hb ha => (grownBy_putObj' W l o').block b hb fun e => h b ha (by cases e; rfl)⟩
end Go.Pk
namespace Go.Proofs.YtpafoodmpjlkhaaGreatDoor
open Go.Pk
open Go.RowKit (Below)
--  slices.Backward[[]string,string]
def jQ (a0 : Option Addr) (l0 c0 : Nat) (w : World) (K : Value -> World -> Prop) : Prop :=
 ∀ k1 w1, k1 = w.heap.size -> w1 = w.alloc (.cells #[.slice a0 l0 c0] aw) ->
 K (.func (.func jg) #[] #[.pointer (some ⟨k1, 0, none⟩)]) w1
theorem jx (a0 : Option Addr) (l0 c0 : Nat) {w : World} {K : Value -> World -> Prop} (h : jQ a0 l0 c0 w K) : Calls prog j1 #[.slice a0 l0 c0] w (Ret K) :=
 au (c := ay Tryz.f70) (by kernel_rfl) Tryz.func70 (by kernel_rfl) [] [.slice a0 l0 c0] (of_decide_eq_true (by kernel_rfl)) _ (by kernel_rfl) h

--  slices.Backward[[]int,int]
def mK (a0 : Option Addr) (l0 c0 : Nat) (w : World) (K : Value -> World -> Prop) : Prop :=
 ∀ k1 w1, k1 = w.heap.size -> w1 = w.alloc (.cells #[.slice a0 l0 c0] aA) ->
 K (.func (.func lk) #[] #[.pointer (some ⟨k1, 0, none⟩)]) w1
theorem mr (a0 : Option Addr) (l0 c0 : Nat) {w : World} {K : Value -> World -> Prop} (h : mK a0 l0 c0 w K) : Calls prog m6 #[.slice a0 l0 c0] w (Ret K) :=
 au (c := ay Tryz.f62) (by kernel_rfl) Tryz.func62 (by kernel_rfl) [] [.slice a0 l0 c0] (of_decide_eq_true (by kernel_rfl)) _ (by kernel_rfl) h
end Go.Proofs.YtpafoodmpjlkhaaGreatDoor
