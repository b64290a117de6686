/- What the laws lean on: W; what is used. Its conditions: none. -/
import Derived.Calls
import Derived.Scope
import Derived.Below
import Derived.Deep.Quiet
import Derived.StillTail
import Derived.Laws.Strings
import Derived.KernelRfl
import Derived.Test.YtlfolncaghkmcaaGreatDoorProg
open Go.IntKind (i64)
open Go.Proofs.Tryz (prog)
set_option linter.unusedVariables false
set_option linter.unusedSimpArgs false
namespace Go.Pk
theorem dFx {p : Prop} {_ : Decidable p} : decide p = false <-> Not p := decide_eq_false_iff_not
theorem dTx {p : Prop} [Decidable p] : (decide p = true) = p := decide_eq_true_eq
open Go.RowKit (Below)
def mkS (l : List UInt8) : ByteArray := ⟨l.toArray⟩
def toL (b : ByteArray) : List UInt8 := b.data.toList
@[simp] theorem toL_mkS (l : List UInt8) : toL (mkS l) = l := rfl
inductive S0 where
 | int (k : IntKind) | bool | str | slice | ptr | map | any
inductive Sh where
 | one (s : S0)
 | agg (l : List S0)
def ex0 : S0 -> (Value -> Prop) -> Prop
 | .int k, K => ∃ n : Int, K (.int k n)
 | .bool, K => ∃ b : Bool, K (.bool b)
 | .str, K => ∃ l : List UInt8, K (.string (mkS l))
 | .slice, K => ∃ (a : Option Addr) (n c : Nat), K (.slice a n c)
 | .ptr, K => ∃ a : Option Addr, K (.pointer a)
 | .map, K => ∃ r : Option Nat, K (.map r)
 | .any, K => ∃ v : Value, K v
def exL0 : List S0 -> (List Value -> Prop) -> Prop
 | [], K => K []
 | s :: l, K => ex0 s fun v => exL0 l fun vs => K (v :: vs)
def exS : Sh -> (Value -> Prop) -> Prop
 | .one s, K => ex0 s K
 | .agg l, K => exL0 l fun vs => K (.agg vs.toArray)
def exL : List Sh -> (List Value -> Prop) -> Prop
 | [], K => K []
 | s :: l, K => exS s fun v => exL l fun vs => K (v :: vs)
def exR : List Sh -> (Value -> Prop) -> Prop
 | [s], K => exS s K
 | l, K => exL l fun vs => K (.tuple vs.toArray)
theorem qAb {s : S0} {K : Value -> Prop} (h : ex0 s K) : ∃ v, K v := by
 cases s <;> simp only [ex0] at h <;> (first | (obtain ⟨_, h⟩ := h; exact ⟨_, h⟩) | (obtain ⟨_, _, _, h⟩ := h; exact ⟨_, h⟩))
theorem qyt : ∀ {l : List S0} {K : List Value -> Prop}, exL0 l K -> ∃ v, K v
 | [], _, h => ⟨_, h⟩
 | _ :: _, _, h => let ⟨_, h1⟩ := qAb h; let ⟨_, h2⟩ := qyt h1; ⟨_, h2⟩
theorem qxB {s : Sh} {K : Value -> Prop} (h : exS s K) : ∃ v, K v := by
 cases s with
 | one s => exact qAb h
 | agg l => obtain ⟨v, h⟩ := qyt h; exact ⟨_, h⟩
theorem qAc : ∀ {l : List Sh} {K : List Value -> Prop}, exL l K -> ∃ v, K v
 | [], _, h => ⟨_, h⟩
 | _ :: _, _, h => let ⟨_, h1⟩ := qxB h; let ⟨_, h2⟩ := qAc h1; ⟨_, h2⟩
theorem qpq {l : List Sh} {K : Value -> Prop} (h : exR l K) : ∃ v, K v := by
 unfold exR at h
 split at h
 · exact qxB h
 · obtain ⟨v, h⟩ := qAc h; exact ⟨_, h⟩
def all0 : S0 -> (Value -> Prop) -> Prop
 | .int k, K => ∀ n : Int, K (.int k n)
 | .bool, K => ∀ b : Bool, K (.bool b)
 | .str, K => ∀ l : List UInt8, K (.string (mkS l))
 | .slice, K => ∀ (a : Option Addr) (n c : Nat), K (.slice a n c)
 | .ptr, K => ∀ a : Option Addr, K (.pointer a)
 | .map, K => ∀ r : Option Nat, K (.map r)
 | .any, K => ∀ v : Value, K v
def qzF : List S0 -> (List Value -> Prop) -> Prop
 | [], K => K []
 | s :: l, K => all0 s fun v => qzF l fun vs => K (v :: vs)
def allS : Sh -> (Value -> Prop) -> Prop
 | .one s, K => all0 s K
 | .agg l, K => qzF l fun vs => K (.agg vs.toArray)
def allL : List Sh -> (List Value -> Prop) -> Prop
 | [], K => K []
 | s :: l, K => allS s fun v => allL l fun vs => K (v :: vs)
def F0 (s : S0) (T : Type) : Type := match s with
 | .int _ => Int -> T
 | .bool => Bool -> T
 | .str => List UInt8 -> T
 | .slice => Option Addr -> Nat -> Nat -> T
 | .ptr => Option Addr -> T
 | .map => Option Nat -> T
 | .any => Value -> T
def FL0 : List S0 -> Type -> Type
 | [], T => T
 | s :: l, T => F0 s (FL0 l T)
def FSh : Sh -> Type -> Type
 | .one s, T => F0 s T
 | .agg l, T => FL0 l T
def FL : List Sh -> Type -> Type
 | [], T => T
 | s :: l, T => FSh s (FL l T)
abbrev FP (l : List Sh) : Type := FL l (World -> Prop)
def dF0 {T : Type} (d : T) : (s : S0) -> F0 s T
 | .int _ => fun _ => d
 | .bool => fun _ => d
 | .str => fun _ => d
 | .slice => fun _ _ _ => d
 | .ptr => fun _ => d
 | .map => fun _ => d
 | .any => fun _ => d
def dL0 {T : Type} (d : T) : (l : List S0) -> FL0 l T
 | [] => d
 | s :: l => dF0 (dL0 d l) s
def dS {T : Type} (d : T) : (s : Sh) -> FSh s T
 | .one s => dF0 d s
 | .agg l => dL0 d l
def dL {T : Type} (d : T) : (l : List Sh) -> FL l T
 | [] => d
 | s :: l => dS (dL d l) s
def ap0 {T : Type} (d : T) : (s : S0) -> F0 s T -> Value -> T
 | .int k, f, .int k' n => if k = k' then f n else d
 | .bool, f, .bool b => f b
 | .str, f, .string b => f (toL b)
 | .slice, f, .slice a n c => f a n c
 | .ptr, f, .pointer a => f a
 | .map, f, .map r => f r
 | .any, f, v => f v
 | _, _, _ => d
def apL0 {T : Type} (d : T) : (l : List S0) -> FL0 l T -> List Value -> T
 | [], f, [] => f
 | s :: l, f, v :: vs => apL0 d l (ap0 (dL0 d l) s f v) vs
 | _, _, _ => d
def apS {T : Type} (d : T) : (s : Sh) -> FSh s T -> Value -> T
 | .one s, f, v => ap0 d s f v
 | .agg l, f, .agg cs => apL0 d l f cs.toList
 | _, _, _ => d
def apL {T : Type} (d : T) : (l : List Sh) -> FL l T -> List Value -> T
 | [], f, [] => f
 | s :: l, f, v :: vs => apL d l (apS (dL d l) s f v) vs
 | _, _, _ => d
abbrev ap (l : List Sh) (f : FP l) (vs : List Value) : World -> Prop := apL (fun _ => False) l f vs
theorem qzE {T : Type} {d : T} {s : S0} {f : F0 s T} {K : T -> Value -> Prop} (h : all0 s fun v => K (ap0 d s f v) v) (hd : ∀ v, K d v) : ∀ v, K (ap0 d s f v) v := by
 intro v
 cases s <;> cases v <;> (first | exact hd _ | exact h _ | exact h _ _ _ | skip)
 case int.int k k' n =>
   by_cases e : k = k'
   · subst e; exact h n
   · simp only [ap0, if_neg e]; exact hd _
theorem qDm {T : Type} {d : T} (s : S0) (v : Value) : ap0 d s (dF0 d s) v = d := by
 cases s
 case int k =>
   cases v
   case int k' n =>
     by_cases e : k = k'
     · subst e; simp only [ap0, if_true]; rfl
     · simp only [ap0, if_neg e]
   all_goals rfl
 all_goals (cases v <;> rfl)
theorem qzH {T : Type} {d : T} : ∀ (l : List S0) (vs : List Value), apL0 d l (dL0 d l) vs = d
 | [], [] => rfl
 | [], _ :: _ => rfl
 | _ :: _, [] => rfl
 | s :: l, v :: vs => by
   have h : apL0 d (s :: l) (dL0 d (s :: l)) (v :: vs) = apL0 d l (ap0 (dL0 d l) s (dF0 (dL0 d l) s) v) vs := rfl
   rw [h, qDm]; exact qzH l vs
theorem qDL {T : Type} {d : T} (s : Sh) (v : Value) : apS d s (dS d s) v = d := by
 cases s with
 | one s => exact qDm s v
 | agg l =>
   cases v
   case agg cs => exact qzH _ _
   all_goals rfl
theorem qDn {T : Type} {d : T} : ∀ (l : List Sh) (vs : List Value), apL d l (dL d l) vs = d
 | [], [] => rfl
 | [], _ :: _ => rfl
 | _ :: _, [] => rfl
 | s :: l, v :: vs => by
   have h : apL d (s :: l) (dL d (s :: l)) (v :: vs) = apL d l (apS (dL d l) s (dS (dL d l) s) v) vs := rfl
   rw [h, qDL]; exact qDn l vs
theorem qyj {K : List Value -> Prop} : ∀ (l : List S0), (∀ vs, K vs) -> qzF l K := by
 intro l
 induction l generalizing K with
 | nil => intro h; exact h _
 | cons s l ih => intro h; cases s <;> (first | exact fun _ => ih fun _ => h _ | exact fun _ _ _ => ih fun _ => h _)
theorem qCt {K : List Value -> Prop} : ∀ (l : List Sh), (∀ vs, K vs) -> allL l K := by
 intro l
 induction l generalizing K with
 | nil => intro h; exact h _
 | cons s l ih =>
   intro h
   cases s with
   | one s => cases s <;> (first | exact fun _ => ih fun _ => h _ | exact fun _ _ _ => ih fun _ => h _)
   | agg s => exact qyj s fun _ => ih fun _ => h _
theorem qyi {T : Type} {d : T} : ∀ {l : List S0} {f : FL0 l T} {K : T -> List Value -> Prop}, (qzF l fun vs => K (apL0 d l f vs) vs) -> (∀ vs, K d vs) -> ∀ vs, K (apL0 d l f vs) vs
 | [], f, K, h, hd, vs => by cases vs with
   | nil => exact h
   | cons => exact hd _
 | s :: l, f, K, h, hd, vs => by
   cases vs with
   | nil => exact hd _
   | cons v vs =>
     have h1 := qzE (d := dL0 d l) (s := s) (f := f) (K := fun g v => qzF l fun vs => K (apL0 d l g vs) (v :: vs)) h
       (fun v => by simp only [qzH]; exact qyj l fun _ => hd _) v
     exact qyi (f := ap0 (dL0 d l) s f v) (K := fun t vs => K t (v :: vs)) h1 (fun _ => hd _) vs
theorem qCu {T : Type} {d : T} {s : Sh} {f : FSh s T} {K : T -> Value -> Prop} (h : allS s fun v => K (apS d s f v) v) (hd : ∀ v, K d v) : ∀ v, K (apS d s f v) v := by
 intro v
 cases s with
 | one s => exact qzE (K := K) h hd v
 | agg l =>
   cases v <;> (first | exact hd _ | skip)
   case agg cs =>
     have := qyi (d := d) (l := l) (f := f) (K := fun t vs => K t (.agg vs.toArray)) h (fun _ => hd _) cs.toList
     simpa [apS] using this
theorem qzG {T : Type} {d : T} : ∀ {l : List Sh} {f : FL l T} {K : T -> List Value -> Prop}, (allL l fun vs => K (apL d l f vs) vs) -> (∀ vs, K d vs) -> ∀ vs, K (apL d l f vs) vs
 | [], f, K, h, hd, vs => by cases vs with
   | nil => exact h
   | cons => exact hd _
 | s :: l, f, K, h, hd, vs => by
   cases vs with
   | nil => exact hd _
   | cons v vs =>
     have h1 := qCu (d := dL d l) (s := s) (f := f) (K := fun g v => allL l fun vs => K (apL d l g vs) (v :: vs)) h
       (fun v => by simp only [qDn]; exact qCt l fun _ => hd _) v
     exact qzG (f := apS (dL d l) s f v) (K := fun t vs => K t (v :: vs)) h1 (fun _ => hd _) vs
inductive PV where
 | val (v : Value)
 | part (c : Prop) (v : Value)
def qCR (op : BinOp) (k : IntKind) (a b : Int) : Option PV :=
 match op with
 | .add => some (.val (.int k (k.wrap (a + b))))
 | .sub => some (.val (.int k (k.wrap (a - b))))
 | .mul => some (.val (.int k (k.wrap (a * b))))
 | .quo => some (.part (b ≠ 0) (.int k (k.wrap (a.tdiv b))))
 | .rem => some (.part (b ≠ 0) (.int k (a.tmod b)))
 | .and => some (.val (.int k (k.wrap ((BitVec.ofInt k.bits a &&& BitVec.ofInt k.bits b).toNat : Nat))))
 | .or => some (.val (.int k (k.wrap ((BitVec.ofInt k.bits a ||| BitVec.ofInt k.bits b).toNat : Nat))))
 | .xor => some (.val (.int k (k.wrap ((BitVec.ofInt k.bits a ^^^ BitVec.ofInt k.bits b).toNat : Nat))))
 | .eql => some (.val (.bool (a == b)))
 | .neq => some (.val (.bool (a != b)))
 | .lss => some (.val (.bool (decide (a < b))))
 | .leq => some (.val (.bool (decide (a <= b))))
 | .gtr => some (.val (.bool (decide (a > b))))
 | .geq => some (.val (.bool (decide (a >= b))))
 | _ => none
def qC4 (op : BinOp) (x y : List UInt8) : Option PV :=
 match op with
 | .add => some (.part (((x.length + y.length : Nat) : Int) <= i64.max) (.string (mkS (x ++ y))))
 | .eql => some (.val (.bool (x == y)))
 | .neq => some (.val (.bool (!(x == y))))
 | .lss => some (.val (.bool (Op.bytesLess x y)))
 | .leq => some (.val (.bool (Op.bytesLess x y || x == y)))
 | .gtr => some (.val (.bool (!(Op.bytesLess x y || x == y))))
 | .geq => some (.val (.bool (!Op.bytesLess x y)))
 | _ => none
def binV (P : Program) (op : BinOp) (t : TypeId) (x y : Value) : Option PV :=
 match x, y with
 | .int k a, .int k' b =>
   match op with
   | .shl => some (.part (0 <= b) (.int k (k.wrap (a * 2 ^ (min b.toNat k.bits)))))
   | .shr => some (.part (0 <= b) (.int k (a.fdiv (2 ^ (min b.toNat k.bits)))))
   | op => if k = k' then qCR op k a b else none
 | .string a, .string b => qC4 op (toL a) (toL b)
 | .bool a, .bool b =>
   match P.underlying t, op with
   | some .bool, .eql => some (.val (.bool (a == b)))
   | some .bool, .neq => some (.val (.bool (!(a == b))))
   | _, _ => none
 | .pointer a, .pointer none =>
   match P.underlying t, op with
   | some (.pointer _), .eql => some (.val (.bool a.isNone))
   | some (.pointer _), .neq => some (.val (.bool (!a.isNone)))
   | _, _ => none
 | _, _ => none
def unV (op : UnOp) (x : Value) : Option PV :=
 match op, x with
 | .neg, .int k n => some (.val (.int k (k.wrap (0 - n))))
 | .not, .bool b => some (.val (.bool (!b)))
 | _, _ => none
def qwT (P : Program) (t : TypeId) (cs : Array Value) (off : Nat) : Option Value :=
 match P.underlying t with
 | some (.struct _) | some (.array _ _) => (P.info? t).map fun i => .agg (cs.extract off (off + i.size))
 | some _ => cs[off]?
 | none => none
def qoD (d : Nat) : Option Value -> Option Nat
 | none => some d
 | some (.int _ n) => some n.toNat
 | _ => none
def qnV (lo hi : Option Value) (y : Nat) (d : Nat) : Prop :=
 match lo, hi with
 | none, none => True
 | some (.int _ l), none => 0 <= l /\ l <= (d : Int)
 | none, some (.int _ h) => 0 <= h /\ h <= (y : Int)
 | some (.int _ l), some (.int _ h) => (0 <= h /\ h <= (y : Int)) /\ 0 <= l /\ l <= (h.toNat : Int)
 | _, _ => False
def cutS (l : List UInt8) (lo hi : Option Value) : List UInt8 :=
 match lo, hi with
 | some (.int _ a), none => l.drop a.toNat
 | none, some (.int _ b) => l.take b.toNat
 | some (.int _ a), some (.int _ b) => (l.take b.toNat).drop a.toNat
 | _, _ => l
def qAS (P : Program) (t : TypeId) (x : Value) (lo hi : Option Value) : Option PV :=
 match P.underlying t, x with
 | some .string, .string s => some (.part (qnV lo hi (toL s).length (toL s).length) (.string (mkS (cutS (toL s) lo hi))))
 | some (.slice e), .slice a n c =>
   match P.info? e with
   | some i =>
     match lo, qoD n hi with
     | none, some h => some (.part (qnV lo hi c n) (.slice a h c))
     | some (.int _ l), some h => some (.part (qnV lo hi c n) (.slice (if c = l.toNat then a else a.map (·.add (l.toNat * i.size))) (h - l.toNat) (c - l.toNat)))
     | _, _ => none
   | none => none
 | some (.array n e), .pointer (some a) =>
   match P.info? e with
   | some i =>
     match lo, qoD n hi with
     | none, some h => some (.part (qnV lo hi n n) (.slice (some a) h n))
     | some (.int _ l), some h => some (.part (qnV lo hi n n) (.slice (some (if n = l.toNat then a else a.add (l.toNat * i.size))) (h - l.toNat) (n - l.toNat)))
     | _, _ => none
   | none => none
 | _, _ => none
def lenV (P : Program) (t : TypeId) (x : Value) : Option PV :=
 match P.underlying t, x with
 | some .string, .string s => some (.val (.int .i64 ((toL s).length : Nat)))
 | some (.slice _), .slice _ n _ => some (.val (.int .i64 (n : Nat)))
 | some (.array n _), _ => some (.val (.int .i64 (n : Nat)))
 | _, _ => none
def capV (P : Program) (t : TypeId) (x : Value) : Option PV :=
 match P.underlying t, x with
 | some (.slice _), .slice _ _ n => some (.val (.int .i64 (n : Nat)))
 | _, _ => none
def bigT (P : Program) (t : TypeId) : Bool := match P.info? t with | some i => Nat.ble 12 i.size | none => false
def bigB (P : Program) (t : TypeId) (ps : List Nat) : Bool :=
 match P.underlying t with
 | some (.struct fs) => ps.any fun p => match fs[p]? with | some fd => bigT P fd.type | none => false
 | some (.array _ e) => bigT P e
 | some (.slice e) => bigT P e
 | _ => false
def pv (P : Program) (ρ : Operand -> Value) (op : Op) : Option PV :=
 match op with
 | .move x => some (.val (ρ x))
 | .assign x => some (.val (ρ x))
 | .pick c a b => match ρ c, ρ a, ρ b with
   | .bool t, .bool x, .bool y => some (.val (.bool (cond t x y)))
   | .bool t, x, y => some (.val (match t with | true => x | false => y))
   | _, _, _ => none
 | .binOp op t x y _ => if bigT P t = true then none else binV P op t (ρ x) (ρ y)
 | .unOp op _ x => unV op (ρ x)
 | .convert s d x => match P.underlying s, P.underlying d, ρ x with
   | some (.int _), some (.int k), .int _ n => some (.val (.int k (k.wrap n)))
   | some .string, some .string, .string b => some (.val (.string b))
   | _, _, _ => none
 | .extract t i => match ρ t with
   | .tuple vs => (vs[i]?).map .val
   | _ => none
 | .field t x f => if bigT P t = true then none else match P.underlying t, ρ x with
   | some (.struct fs), .agg cs => (fs[f]?).bind fun fd => (qwT P fd.type cs fd.offset).map .val
   | _, _ => none
 | .fieldAddr t x f => match P.underlying t, ρ x with
   | some (.struct fs), .pointer a => match fs[f]? with
     | some fd => match P.info? fd.type with
       | some i => if i.size = 0 then none else some (.part (a.isSome = true) (.pointer (a.map (·.add fd.offset))))
       | none => none
     | none => none
   | _, _ => none
 | .indexAddr t x i => match P.underlying t, ρ x, ρ i with
   | some (.slice e), .slice b n _, .int _ j => match P.info? e with
     | some ti => some (.part ((0 <= j /\ j < (n : Int)) /\ b.isSome = true) (.pointer (b.map (·.add (j.toNat * ti.size)))))
     | none => none
   | some (.array n e), .pointer a, .int _ j => match P.info? e with
     | some ti => some (.part ((0 <= j /\ j < (n : Int)) /\ a.isSome = true) (.pointer (a.map (·.add (j.toNat * ti.size)))))
     | none => none
   | _, _, _ => none
 | .index t x i => match P.underlying t, ρ x, ρ i with
   | some .string, .string s, .int _ j => some (.part (0 <= j /\ j < ((toL s).length : Int)) (.int .u8 (((toL s)[j.toNat]?.getD 0).toNat : Nat)))
   | _, _, _ => none
 | .slice t x lo hi none => qAS P t (ρ x) (lo.map ρ) (hi.map ρ)
 | .nilCheck x => match ρ x with
   | .pointer a => some (.part (a.isSome = true) (.pointer a))
   | .func (.func f) first captured => some (.val (.func (.func f) first captured))
   | _ => none
 | .makeFunc fn first captured => some (.val (.func fn (first.map ρ) (captured.map ρ)))
 | .makeInterface t x => match P.underlying t with
   | some (.interface _) | none => none
   | some _ => some (.val (.iface t (ρ x)))
 | .build t parts => if bigB P t (parts.toList.map (·.1)) = true then none else match (P.info? t).bind (·.zero), P.underlying t with
   | some z, some (.struct fs) =>
     match fs.toList.mapM (fun f => (P.info? f.type).map fun i => (f.offset, i.size)) with
     | some places => (Instr.fill (places[·]?) z.cells (parts.toList.map fun p => (p.1, ρ p.2))).map fun cs => .val (.agg cs)
     | none => none
   | some z, some (.array _ e) =>
     match P.info? e with
     | some i => (Instr.fill (fun j => some (j * i.size, i.size)) z.cells (parts.toList.map fun p => (p.1, ρ p.2))).map fun cs => .val (.agg cs)
     | none => none
   | _, _ => none
 | .call { callee := .builtin .len, args, argTypes } => match args.toList, argTypes.toList with
   | [x], [t] => lenV P t (ρ x)
   | _, _ => none
 | .call { callee := .builtin .cap, args, argTypes } => match args.toList, argTypes.toList with
   | [x], [t] => capV P t (ρ x)
   | _, _ => none
 | _ => none
def PV.ok (P : Program) (s : Sem Value) : PV -> Prop
 | .val v => ∀ w, s.run P w = .ok v w
 | .part c v => c -> ∀ w, s.run P w = .ok v w
theorem jE {P : Program} {t : TypeId} {d : TypeDesc} (h : P.underlying t = some d) (w : World) : (underlying t).run P w = .ok d w := by
 simp [underlying, h]
theorem qms {P : Program} {t : TypeId} {d : TypeInfo} (h : P.info? t = some d) (w : World) : (typeInfo t).run P w = .ok d w := by
 simp [typeInfo, h]
theorem qfO {P : Program} {t : TypeId} {d : TypeInfo} (h : P.info? t = some d) (w : World) : (sizeOf t).run P w = .ok d.size w := by
 simp [sizeOf, qms h]
theorem qmy (b : ByteArray) : (toL b).length = b.size := by cases b; rfl
theorem qzy (b : ByteArray) : b.toList = toL b := ByteArray.toList_eq b
theorem qmG {P : Program} {t : TypeId} (hu : P.underlying t = some .bool) (d : Nat) (a b : Bool) (w : World) :
   (Op.equalIn (d + 1) t (.bool a) (.bool b)).run P w = .ok (a == b) w := by
 simp [Op.equalIn, jE hu]
theorem qnN {P : Program} {t e : TypeId} (hu : P.underlying t = some (.pointer e)) (d : Nat) (a : Option Addr) (w : World) :
   (Op.equalIn (d + 1) t (.pointer a) (.pointer none)).run P w = .ok a.isNone w := by
 cases a <;> simp [Op.equalIn, jE hu]
theorem binV_int {P : Program} {op : BinOp} {t : TypeId} {k : IntKind} {a b : Int} {r : PV} (h : qCR op k a b = some r) : r.ok P (binOp op t (.int k a) (.int k b)) := by
 cases op
 all_goals simp only [qCR, Option.some.injEq, reduceCtorEq] at h
 all_goals (try subst h)
 case quo => intro hc w; simp [binOp, Op.intDiv, hc]
 case rem => intro hc w; simp [binOp, Op.intDiv, hc]
 all_goals (intro w; simp [binOp, Op.intArith, Op.intBits, Op.intCmp])
theorem binV_str {P : Program} {op : BinOp} {t : TypeId} {a b : ByteArray} {r : PV} (h : qC4 op (toL a) (toL b) = some r) : r.ok P (binOp op t (.string a) (.string b)) := by
 cases op
 all_goals simp only [qC4, Option.some.injEq, reduceCtorEq] at h
 all_goals (try subst h)
 case add =>
   intro hc w
   have hn : ¬ (((a.size + b.size : Nat) : Int) > i64.max) := by
     rw [qmy, qmy] at hc; omega
   have e : mkS (toL a ++ toL b) = a ++ b := by
     cases a; cases b; simp [mkS, toL]; rfl
   simp only [binOp, Op.stringOp, if_neg hn, e, Sem.run_pure]
 all_goals (intro w; simp [binOp, Op.stringOp, qzy])
theorem qCx {P : Program} {op : BinOp} {t : TypeId} {x y : Value} {r : PV} (h : binV P op t x y = some r) : r.ok P (binOp op t x y) /\ (∀ xo yo w, (eqGuard op t xo yo x y).run P w = .ok () w) := by
 unfold binV at h
 split at h
 · rename_i k a k' b
   refine ⟨?_, fun _ _ _ => by cases op <;> rfl⟩
   split at h
   · simp only [Option.some.injEq] at h; subst h
     intro hc w
     have hn : ¬ b < 0 := by omega
     simp [binOp, Op.shift, hn]
   · simp only [Option.some.injEq] at h; subst h
     intro hc w
     have hn : ¬ b < 0 := by omega
     simp [binOp, Op.shift, hn]
   · split at h
     · rename_i hk; subst hk; exact binV_int h
     · cases h
 · exact ⟨binV_str h, fun _ _ _ => by cases op <;> rfl⟩
 · rename_i a b
   refine ⟨?_, fun _ _ _ => by cases op <;> rfl⟩
   split at h
   · rename_i hu; simp only [Option.some.injEq] at h; subst h; intro w
     show ((do pure (.bool (<- Op.equalIn (9999 + 1) t (.bool a) (.bool b))) : Sem Value)).run P w = _
     rw [Sem.run_bind, qmG hu]; rfl
   · rename_i hu; simp only [Option.some.injEq] at h; subst h; intro w
     show ((do pure (.bool (!(<- Op.equalIn (9999 + 1) t (.bool a) (.bool b)))) : Sem Value)).run P w = _
     rw [Sem.run_bind, qmG hu]; rfl
   · cases h
 · rename_i a
   refine ⟨?_, fun _ _ _ => by cases op <;> rfl⟩
   split at h
   · rename_i hu; simp only [Option.some.injEq] at h; subst h; intro w
     show ((do pure (.bool (<- Op.equalIn (9999 + 1) t (.pointer a) (.pointer none))) : Sem Value)).run P w = _
     rw [Sem.run_bind, qnN hu]; rfl
   · rename_i hu; simp only [Option.some.injEq] at h; subst h; intro w
     show ((do pure (.bool (!(<- Op.equalIn (9999 + 1) t (.pointer a) (.pointer none)))) : Sem Value)).run P w = _
     rw [Sem.run_bind, qnN hu]; rfl
   · cases h
 · cases h
def aggD : TypeDesc -> Bool
 | .struct _ | .array _ _ => true
 | _ => false
theorem qnP {P : Program} {t : TypeId} {d : TypeDesc} (h : P.underlying t = some d) (w : World) : (isAgg t).run P w = .ok (aggD d) w := by
 unfold isAgg
 rw [Sem.run_bind, jE h]
 cases d <;> rfl
theorem qql {P : Program} {t : TypeId} {cs : Array Value} {off : Nat} {v : Value} (h : qwT P t cs off = some v) (w : World) : (part t cs off).run P w = .ok v w := by
 unfold qwT at h
 unfold part
 split at h
 · rename_i hu
   cases hi : P.info? t with
   | none => simp [hi] at h
   | some i => simp [hi] at h; subst h; simp [qnP hu, aggD, qfO hi]
 · rename_i hu
   cases hi : P.info? t with
   | none => simp [hi] at h
   | some i => simp [hi] at h; subst h; simp [qnP hu, aggD, qfO hi]
 · rename_i d n1 n2 hu
   have e : aggD d = false := by cases d <;> simp_all [aggD]
   rw [Sem.run_bind, qnP hu, e]
   simp [h]
 · cases h
theorem qCU {P : Program} {t ty : TypeId} {x : Value} {r : PV} (h : lenV P t x = some r) : r.ok P (Builtin.len_ #[t] ty #[x]) := by
 unfold lenV at h
 split at h
 · rename_i hu; simp only [Option.some.injEq] at h; subst h; intro w; simp [Builtin.len_, jE hu, qmy, goInt]
 · rename_i hu; simp only [Option.some.injEq] at h; subst h; intro w; simp [Builtin.len_, jE hu, goInt]
 · rename_i hu; simp only [Option.some.injEq] at h; subst h; intro w; simp [Builtin.len_, jE hu, goInt]
 · cases h
theorem qCA {P : Program} {t ty : TypeId} {x : Value} {r : PV} (h : capV P t x = some r) : r.ok P (Builtin.cap_ #[t] ty #[x]) := by
 unfold capV at h
 split at h
 · rename_i hu; simp only [Option.some.injEq] at h; subst h; intro w; simp [Builtin.cap_, jE hu, goInt]
 · cases h
theorem qmr (P : Program) (k : IntKind) (n : Int) (w : World) : (asIntOf (.int k n)).run P w = .ok (k, n) w := rfl
theorem qqq {P : Program} {k : IntKind} {n : Int} {y : Nat} {code : BoundsCode} (h : 0 <= n /\ n <= (y : Int)) (w : World) : (Instr.sliceBound (.int k n) y code).run P w = .ok n.toNat w := by
 simp [Instr.sliceBound, qmr, h]
theorem qre {P : Program} {isSlice : Bool} {len cap : Nat} {lo hi : Option Value} (h : qnV lo hi cap len)
   (hlo : ∀ v, lo = some v -> ∃ k n, v = .int k n) (hhi : ∀ v, hi = some v -> ∃ k n, v = .int k n) (w : World) :
   ∃ l m, qoD 0 lo = some l /\ qoD len hi = some m /\ (Instr.sliceBounds isSlice len cap lo hi none).run P w = .ok (l, m, cap) w := by
 cases lo with
 | none =>
   cases hi with
   | none => exact ⟨0, len, rfl, rfl, by simp [Instr.sliceBounds]⟩
   | some b =>
     obtain ⟨k, n, rfl⟩ := hhi b rfl
     have h' : 0 <= n /\ n <= (cap : Int) := h
     exact ⟨0, n.toNat, rfl, rfl, by simp [Instr.sliceBounds, qqq h']⟩
 | some a =>
   obtain ⟨k, n, rfl⟩ := hlo a rfl
   cases hi with
   | none =>
     have h' : 0 <= n /\ n <= (len : Int) := h
     exact ⟨n.toNat, len, rfl, rfl, by simp [Instr.sliceBounds, qqq h']⟩
   | some b =>
     obtain ⟨k', m, rfl⟩ := hhi b rfl
     have h' : (0 <= m /\ m <= (cap : Int)) /\ 0 <= n /\ n <= (m.toNat : Int) := h
     exact ⟨n.toNat, m.toNat, rfl, rfl, by simp [Instr.sliceBounds, qqq h'.1, qqq h'.2]⟩
theorem qdr {lo hi : Option Value} {y d : Nat} (h : qnV lo hi y d) : (∀ v, lo = some v -> ∃ k n, v = .int k n) /\ (∀ v, hi = some v -> ∃ k n, v = .int k n) := by
 unfold qnV at h
 split at h
 · exact ⟨fun v hv => (by cases hv), fun v hv => (by cases hv)⟩
 · exact ⟨fun v hv => (by cases hv; exact ⟨_, _, rfl⟩), fun v hv => (by cases hv)⟩
 · exact ⟨fun v hv => (by cases hv), fun v hv => (by cases hv; exact ⟨_, _, rfl⟩)⟩
 · exact ⟨fun v hv => (by cases hv; exact ⟨_, _, rfl⟩), fun v hv => (by cases hv; exact ⟨_, _, rfl⟩)⟩
 · cases h
theorem addr_add0 (a : Addr) : a.add 0 = a := by simp [Addr.add]
theorem qlX (s : ByteArray) (l h : Nat) : s.extract l h = mkS (((toL s).take h).drop l) := by
 apply ByteArray.ext
 apply Array.ext'
 simp [mkS, toL, ByteArray.data_extract, List.drop_take]
theorem sliceV_ok {P : Program} {t : TypeId} {x : Value} {lo hi : Option Value} {r : PV} (h : qAS P t x lo hi = some r) : r.ok P (Instr.sliceAt t x lo hi none) := by
 unfold qAS at h
 split at h
 · rename_i s hu
   simp only [Option.some.injEq] at h; subst h
   intro hc w
   have hc' : qnV lo hi s.size s.size := by rw [qmy] at hc; exact hc
   obtain ⟨l, m, e1, e2, hr⟩ := qre (P := P) (isSlice := false) hc' (qdr hc').1 (qdr hc').2 w
   simp only [Instr.sliceAt, Instr.slice, Sem.run_bind, jE hu, Result.andThen_ok, Option.isSome_none, Bool.false_eq_true, if_false, hr, Sem.run_pure]
   congr 2
   cases lo with
   | none =>
     cases hi with
     | none =>
       simp [qoD] at e1 e2; subst e1 e2
       rw [qlX]
       simp [cutS, <- qmy]
     | some b =>
       obtain ⟨k', n, rfl⟩ := (qdr hc').2 b rfl
       simp [qoD] at e1 e2; subst e1 e2
       have h' : 0 <= n /\ n <= (s.size : Int) := hc'
       rw [qlX]
       simp [cutS]
   | some a =>
     obtain ⟨k, n, rfl⟩ := (qdr hc').1 a rfl
     cases hi with
     | none =>
       simp [qoD] at e1 e2; subst e1 e2
       have h' : 0 <= n /\ n <= (s.size : Int) := hc'
       rw [qlX]
       simp [cutS, <- qmy]
     | some b =>
       obtain ⟨k', m', rfl⟩ := (qdr hc').2 b rfl
       simp [qoD] at e1 e2; subst e1 e2
       have h' : (0 <= m' /\ m' <= (s.size : Int)) /\ 0 <= n /\ n <= (m'.toNat : Int) := hc'
       rw [qlX]
       simp [cutS]
 · rename_i e a n c hu
   cases hi' : P.info? e with
   | none => simp [hi'] at h
   | some i =>
     simp only [hi'] at h
     have key : ∀ {v} (hc : qnV lo hi c n), (∀ l m, qoD 0 lo = some l -> qoD n hi = some m -> v = Value.slice (if c = l then a else a.map (·.add (l * i.size))) (m - l) (c - l)) ->
         ∀ w, (Instr.sliceAt t (.slice a n c) lo hi none).run P w = .ok v w := by
       intro v hc hv w
       obtain ⟨l, m, e1, e2, hr⟩ := qre (P := P) (isSlice := true) hc (qdr hc).1 (qdr hc).2 w
       simp only [Instr.sliceAt, Instr.slice, Sem.run_bind, jE hu, Result.andThen_ok, hr, qfO hi', Sem.run_pure]
       rw [hv l m e1 e2]
     split at h
     · rename_i hh he
       simp only [Option.some.injEq] at h; subst h
       intro hc; exact key hc fun l m e1 e2 => by
         rw [he] at e2; simp [qoD] at e1 e2; subst e1 e2
         simp
         intro _
         cases a <;> simp [addr_add0]
     · rename_i k l hh he
       simp only [Option.some.injEq] at h; subst h
       intro hc; exact key hc fun l m e1 e2 => by rw [he] at e2; simp [qoD] at e1 e2; subst e1 e2; rfl
     · cases h
 · rename_i n e a hu
   cases hi' : P.info? e with
   | none => simp [hi'] at h
   | some i =>
     simp only [hi'] at h
     have key : ∀ {v} (hc : qnV lo hi n n), (∀ l m, qoD 0 lo = some l -> qoD n hi = some m -> v = Value.slice (some (if n = l then a else a.add (l * i.size))) (m - l) (n - l)) ->
         ∀ w, (Instr.sliceAt t (.pointer (some a)) lo hi none).run P w = .ok v w := by
       intro v hc hv w
       obtain ⟨l, m, e1, e2, hr⟩ := qre (P := P) (isSlice := false) hc (qdr hc).1 (qdr hc).2 w
       simp only [Instr.sliceAt, Sem.run_bind, jE hu, Result.andThen_ok, hr, qfO hi', Sem.run_pure, Instr.sureAddr]
       rw [hv l m e1 e2]
     split at h
     · rename_i hh he
       simp only [Option.some.injEq] at h; subst h
       intro hc; exact key hc fun l m e1 e2 => by
         rw [he] at e2; simp [qoD] at e1 e2; subst e1 e2
         simp [addr_add0]
     · rename_i k l hh he
       simp only [Option.some.injEq] at h; subst h
       intro hc; exact key hc fun l m e1 e2 => by rw [he] at e2; simp [qoD] at e1 e2; subst e1 e2; rfl
     · cases h
 · cases h
def vN (s : Sem Value) : Sem Next := do pure (.value (<- s))
def uN (s : Sem Unit) : Sem Next := do s; pure .skip
theorem run_vN {P : Program} {s : Sem Value} {v : Value} {w w' : World} (h : s.run P w = .ok v w') : (vN s).run P w = .ok (.value v) w' := by
 simp [vN, h]
theorem qDE {P : Program} {s : Sem Unit} {w w' : World} (h : s.run P w = .ok () w') : (uN s).run P w = .ok .skip w' := by
 simp [uN, h]
def PV.cond : PV -> Prop
 | .val _ => True
 | .part c _ => c
def PV.value : PV -> Value
 | .val v => v
 | .part _ v => v
theorem PV.ok.run {P : Program} {s : Sem Value} {r : PV} (h : r.ok P s) (hc : r.cond) (w : World) : s.run P w = .ok r.value w := by
 cases r with
 | val v => exact h w
 | part c v => exact h hc w
theorem qea (P : Program) (a : Addr) (w : World) : (Instr.sureAddr (.pointer (some a))).run P w = .ok a w := rfl
theorem qwE {P : Program} {t : TypeId} {fs : Array Field} {f : Nat} {fd : Field} {i : TypeInfo} (hu : P.underlying t = some (.struct fs)) (hf : fs[f]? = some fd)
   (hi : P.info? fd.type = some i) (h0 : ¬ i.size = 0) (a : Addr) (w : World) : (Instr.fieldAt t (.pointer (some a)) f).run P w = .ok (.pointer (some (a.add fd.offset))) w := by
 simp [Instr.fieldAt, jE hu, hf, qea, fieldPlace, qfO hi, h0]
theorem qvS {P : Program} {t e : TypeId} {ti : TypeInfo} (hu : P.underlying t = some (.slice e)) (hi : P.info? e = some ti) (a : Addr) (n c : Nat) (k : IntKind) (j : Int)
   (h : 0 <= j /\ j < (n : Int)) (w : World) : (Instr.indexAt t (.slice (some a) n c) (.int k j)).run P w = .ok (.pointer (some (a.add (j.toNat * ti.size)))) w := by
 simp [Instr.indexAt, qmr, jE hu, qfO hi, h]
theorem qvR {P : Program} {t e : TypeId} {n : Nat} {ti : TypeInfo} (hu : P.underlying t = some (.array n e)) (hi : P.info? e = some ti) (a : Addr) (k : IntKind) (j : Int)
   (h : 0 <= j /\ j < (n : Int)) (w : World) : (Instr.indexAt t (.pointer (some a)) (.int k j)).run P w = .ok (.pointer (some (a.add (j.toNat * ti.size)))) w := by
 simp [Instr.indexAt, qmr, jE hu, qfO hi, qea, h]
theorem qAu {P : Program} {t : TypeId} (hu : P.underlying t = some .string) (s : ByteArray) (k : IntKind) (j : Int)
   (h : 0 <= j /\ j < ((toL s).length : Int)) (w : World) : (Instr.index t (.string s) (.int k j)).run P w = .ok (.int .u8 (((toL s)[j.toNat]?.getD 0).toNat : Nat)) w := by
 have hl : j.toNat < s.size := by have := qmy s; omega
 have e : s[j.toNat]? = some s[j.toNat] := ByteArray.getElem?_lt' s _ hl
 have e2 : (toL s)[j.toNat]? = some s[j.toNat] := by
   have : j.toNat < (toL s).length := by omega
   rw [List.getElem?_eq_getElem this]; rfl
 simp [Instr.index, qmr, jE hu, h.1, e, e2]
theorem qwt {P : Program} {t : TypeId} {fs : Array Field} {i : TypeInfo} {z : Value} {places : List (Nat × Nat)} {ps : Array (Nat × Value)} {cs : Array Value}
   (hi : P.info? t = some i) (hz : i.zero = some z) (hu : P.underlying t = some (.struct fs)) (hp : fs.toList.mapM (fun f => (P.info? f.type).map fun i => (f.offset, i.size)) = some places)
   (hc : Instr.fill (places[·]?) z.cells ps.toList = some cs) (w : World) : (Instr.build t ps).run P w = .ok (.agg cs) w := by
 have hm : ∀ (l : List Field) (pl : List (Nat × Nat)), l.mapM (fun f => (P.info? f.type).map fun i => (f.offset, i.size)) = some pl ->
     (l.mapM (fun f => do pure (f.offset, <- sizeOf f.type) : Field -> Sem (Nat × Nat))).run P w = .ok pl w := by
   intro l
   induction l with
   | nil => intro pl h; simp at h; subst h; rfl
   | cons f l ih =>
     intro pl h
     rw [List.mapM_cons] at h
     cases hf : P.info? f.type with
     | none => simp [hf] at h
     | some i =>
       cases hl : l.mapM (fun f => (P.info? f.type).map fun i => (f.offset, i.size)) with
       | none => simp [hf, hl] at h
       | some pl' =>
         simp [hf, hl] at h; subst h
         rw [List.mapM_cons]
         simp only [Sem.run_bind, qfO hf, Result.andThen_ok, Sem.run_pure, ih _ hl]
 have hm' : (fs.mapM (fun f => do pure (f.offset, <- sizeOf f.type) : Field -> Sem (Nat × Nat))).run P w = .ok places.toArray w := by
   rw [Array.mapM_eq_mapM_toList, Sem.run_map, hm _ _ hp]; rfl
 simp only [Instr.build, zeroValue, Sem.run_bind, qms hi, Result.andThen_ok, hz, Sem.run_pure, jE hu, hm']
 have e : (fun x : Nat => places.toArray[x]?) = (places[·]?) := by funext x; simp
 rw [e, hc]
 rfl
theorem pv_ok {P : Program} {ρ : Operand -> Value} {o : Oper} {r : PV} (h : pv P ρ o.op = some r) (hc : r.cond) (w : World) : (execOp ρ o).run P w = .ok (.value r.value) w := by
 unfold execOp
 generalize o.op = op at h
 unfold pv at h
 split at h
 · simp only [Option.some.injEq] at h; subst h; rfl
 · simp only [Option.some.injEq] at h; subst h; rfl
 · rename_i c a b
   split at h
   · rename_i t x y ht hx hy; simp only [Option.some.injEq] at h; subst h
     cases t <;> simp [ht, hx, hy, asBool, PV.value]
   · rename_i t ht _; simp only [Option.some.injEq] at h; subst h
     cases t <;> simp [ht, asBool, PV.value]
   · cases h
 · rename_i op t x y _
   split at h
   · cases h
   obtain ⟨h1, h2⟩ := qCx h
   refine run_vN ?_
   rw [Sem.run_bind, h2]
   exact h1.run hc w
 · rename_i op t x
   unfold unV at h
   split at h
   · rename_i hx; simp only [Option.some.injEq] at h; subst h; simp [hx, Op.unary, Op.intArith, PV.value]
   · rename_i hx; simp only [Option.some.injEq] at h; subst h; simp [hx, Op.unary, PV.value]
   · cases h
 · rename_i s d x
   split at h
   · rename_i hs hd hx; simp only [Option.some.injEq] at h; subst h; refine run_vN ?_; simp [hx, convert, jE hs, jE hd, Conv.intToInt, PV.value]
   · rename_i hs hd hx; simp only [Option.some.injEq] at h; subst h; refine run_vN ?_; simp [hx, convert, jE hs, jE hd, PV.value]
   · cases h
 · rename_i t i
   split at h
   · rename_i vs hv
     cases hi : vs[i]? with
     | none => simp [hi] at h
     | some v => simp [hi] at h; subst h; refine run_vN ?_; simp [hv, Instr.extract, hi, PV.value]
   · cases h
 · rename_i t x f
   split at h
   · cases h
   split at h
   · rename_i fs cs hu hx
     cases hf : fs[f]? with
     | none => simp [hf] at h
     | some fd =>
       simp only [hf, Option.bind_some] at h
       cases hp : qwT P fd.type cs fd.offset with
       | none => simp [hp] at h
       | some v => simp [hp] at h; subst h; refine run_vN ?_; simp [hx, Instr.field, jE hu, hf, asAgg, qql hp, PV.value]
   · cases h
 · rename_i t x f
   split at h
   · rename_i fs a hu hx
     split at h
     · rename_i fd hf
       split at h
       · rename_i i hi
         split at h
         · cases h
         · rename_i h0; simp only [Option.some.injEq] at h; subst h
           cases a with
           | none => cases hc
           | some a => refine run_vN ?_; rw [hx]; exact qwE hu hf hi h0 a w
       · cases h
     · cases h
   · cases h
 · rename_i t x i
   split at h
   · rename_i e b n c k j hu hx hj
     split at h
     · rename_i ti hi; simp only [Option.some.injEq] at h; subst h
       cases b with
       | none => cases hc.2
       | some a => refine run_vN ?_; rw [hx, hj]; exact qvS hu hi a n c k j hc.1 w
     · cases h
   · rename_i n e a k j hu hx hj
     split at h
     · rename_i ti hi; simp only [Option.some.injEq] at h; subst h
       cases a with
       | none => cases hc.2
       | some a => refine run_vN ?_; rw [hx, hj]; exact qvR hu hi a k j hc.1 w
     · cases h
   · cases h
 · rename_i t x i
   split at h
   · rename_i s k j hu hx hj; simp only [Option.some.injEq] at h; subst h
     refine run_vN ?_; rw [hx, hj]; exact qAu hu s k j hc w
   · cases h
 · rename_i t x lo hi
   refine run_vN ?_
   exact (sliceV_ok h).run hc w
 · rename_i x
   split at h
   · rename_i a hx; simp only [Option.some.injEq] at h; subst h
     cases a with
     | none => cases hc
     | some a => simp [hx, PV.value]
   · rename_i hx; simp only [Option.some.injEq] at h; subst h; simp [hx, PV.value]
   · cases h
 · simp only [Option.some.injEq] at h; subst h; rfl
 · rename_i t x
   split at h
   · cases h
   · cases h
   · rename_i d n1 hu
     simp only [Option.some.injEq] at h; subst h
     refine run_vN ?_
     unfold Instr.makeInterface
     rw [Sem.run_bind, jE hu]
     cases d <;> first | rfl | exact absurd rfl (n1 _)
 · rename_i t parts
   split at h
   · cases h
   split at h
   · rename_i z fs hz hu
     split at h
     · rename_i places hp
       cases hi : P.info? t with
       | none => simp [hi] at hz
       | some i =>
         simp [hi] at hz
         cases hf : Instr.fill (places[·]?) z.cells (parts.toList.map fun p => (p.1, ρ p.2)) with
         | none => simp [hf] at h
         | some cs =>
           simp [hf] at h; subst h
           refine run_vN ?_
           exact qwt hi hz hu hp (by simpa using hf) w
     · cases h
   · rename_i z n e hz hu
     split at h
     · rename_i ie hie
       cases hi : P.info? t with
       | none => simp [hi] at hz
       | some i =>
         simp [hi] at hz
         cases hf : Instr.fill (fun j => some (j * ie.size, ie.size)) z.cells (parts.toList.map fun p => (p.1, ρ p.2)) with
         | none => simp [hf] at h
         | some cs =>
           simp [hf] at h; subst h
           refine run_vN ?_
           simp only [Instr.build, zeroValue, Sem.run_bind, qms hi, Result.andThen_ok, hz, Sem.run_pure, jE hu, qfO hie]
           have e2 : (parts.map fun p => (p.1, ρ p.2)).toList = parts.toList.map fun p => (p.1, ρ p.2) := by simp
           rw [e2, hf]; rfl
     · cases h
   · cases h
 · rename_i args argTypes
   split at h
   · rename_i x t hx ht
     have e1 : args = #[x] := by rw [<- Array.toArray_toList (xs := args), hx]
     have e2 : argTypes = #[t] := by rw [<- Array.toArray_toList (xs := argTypes), ht]
     subst e1 e2
     simp only [resolve, invoke, builtin, Sem.run_bind, Sem.run_pure, Result.andThen_ok, List.map_toArray, List.map_cons, List.map_nil, (qCU h).run hc w]
   · cases h
 · rename_i args argTypes
   split at h
   · rename_i x t hx ht
     have e1 : args = #[x] := by rw [<- Array.toArray_toList (xs := args), hx]
     have e2 : argTypes = #[t] := by rw [<- Array.toArray_toList (xs := argTypes), ht]
     subst e1 e2
     simp only [resolve, invoke, builtin, Sem.run_bind, Sem.run_pure, Result.andThen_ok, List.map_toArray, List.map_cons, List.map_nil, (qCA h).run hc w]
   · cases h
 · cases h
def qzM (b : Nat) : Value := .pointer (some ⟨b, 0, none⟩)
def alV (P : Program) (ρ : Operand -> Value) (op : Op) : Option (Obj × (Nat -> Value)) :=
 match op with
 | .alloc e => match (P.info? e).bind (·.zero) with
   | some z => some (.cells z.cells e, qzM)
   | none => none
 | .box e x => some (.cells (ρ x).cells e, qzM)
 | .buildSlice t len parts => if bigB P t (parts.toList.map (·.1)) && !parts.isEmpty then none else match P.underlying t with
   | some (.slice e) => match P.info? e with
     | some i => match i.zero with
       | some z => if len * i.size > 2 ^ 24 then none else
         match Instr.fill (fun j => some (j * i.size, i.size)) ((Array.range (len * i.size)).map ((if len * i.size = 0 then #[] else z.cells)[· % (if len * i.size = 0 then #[] else z.cells).size]!)) (parts.toList.map fun p => (p.1, ρ p.2)) with
         | some cs => some (.cells cs e, fun b => .slice (some ⟨b, 0, none⟩) len len)
         | none => none
       | none => none
     | none => none
   | _ => none
 | .makeMap _ none => some (.map #[] 0, fun b => .map (some b))
 | _ => none
theorem alV_ok {P : Program} {ρ : Operand -> Value} {o : Oper} {obj : Obj} {mk : Nat -> Value} (h : alV P ρ o.op = some (obj, mk)) (w : World) :
   (execOp ρ o).run P w = .ok (.value (mk w.heap.size)) (w.alloc obj) := by
 unfold execOp
 generalize o.op = op at h
 unfold alV at h
 split at h
 · rename_i e
   cases hi : P.info? e with
   | none => simp [hi] at h
   | some i =>
     cases hz : i.zero with
     | none => simp [hi, hz] at h
     | some z =>
       simp [hi, hz] at h
       obtain ⟨rfl, rfl⟩ := h
       refine run_vN ?_
       simp only [Instr.alloc, zeroValue, Sem.run_bind, qms hi, Result.andThen_ok, hz, Sem.run_pure]
       rfl
 · simp only [Option.some.injEq, Prod.mk.injEq] at h
   obtain ⟨rfl, rfl⟩ := h
   rfl
 · rename_i t len parts
   split at h
   · cases h
   split at h
   · rename_i e hu
     split at h
     · rename_i i hi
       split at h
       · rename_i z hz
         split at h
         · cases h
         · rename_i hlen
           split at h
           · rename_i cs hf
             simp only [Option.some.injEq, Prod.mk.injEq] at h
             obtain ⟨rfl, rfl⟩ := h
             refine run_vN ?_
             have e2 : (parts.map fun p => (p.1, ρ p.2)).toList = parts.toList.map fun p => (p.1, ρ p.2) := by simp
             simp only [Instr.buildSlice, Sem.run_bind, jE hu, Result.andThen_ok, qfO hi, if_neg hlen]
             by_cases h0 : len * i.size = 0
             · simp only [h0, if_true] at hf
               simp only [h0, if_true, pure_bind, e2, hf]
               rfl
             · simp only [if_neg h0] at hf
               simp only [if_neg h0, zeroValue, Sem.run_bind, qms hi, hz, Sem.run_pure, Result.andThen_ok, e2, hf]
               rfl
           · cases h
       · cases h
     · cases h
   · cases h
 · simp only [Option.some.injEq, Prod.mk.injEq] at h
   obtain ⟨rfl, rfl⟩ := h
   rfl
 · cases h
inductive RW where
 | rd (s : Sem Value)
 | wr (s : Sem Value)
 | st (s : Sem Unit)
def isSl (P : Program) (t : TypeId) : Bool := match P.underlying t with | some (.slice _) => true | _ => false
def semV (P : Program) (ρ : Operand -> Value) (o : Oper) : Option RW :=
 match o.op with
 | .load t x => some (.rd (Instr.loadAt t (ρ x)))
 | .index t x i => some (.rd (Instr.index t (ρ x) (ρ i)))
 | .lookup t x i ok => some (.rd (Instr.lookup t (ρ x) (ρ i) ok))
 | .convert s d x => if isSl P d then some (.wr (convert s d (ρ x))) else some (.rd (convert s d (ρ x)))
 | .binOp op t x y _ => some (.rd (do eqGuard op t x y (ρ x) (ρ y); binOp op t (ρ x) (ρ y)))
 | .typeAssert x a b ok => some (.rd (Instr.typeAssert (ρ x) a b ok))
 | .makeSlice t l c => some (.wr (Instr.makeSlice t (ρ l) (ρ c)))
 | .range t x => some (.wr (Instr.range t (ρ x)))
 | .next it b => some (.wr (Instr.next (ρ it) b o.type))
 | .store t x v => some (.st (Instr.storeAt t (ρ x) (ρ v)))
 | .mapUpdate t m k v => some (.st (Instr.mapUpdate t (ρ m) (ρ k) (ρ v)))
 | .insert t m k v => some (.st (Instr.mapUpdate t (ρ m) (ρ k) (ρ v)))
 | .call { callee := .builtin .len, args, argTypes } => some (.rd (Builtin.len_ argTypes o.type (args.map ρ)))
 | .call { callee := .builtin .min, args, argTypes } => some (.rd (Builtin.min_ argTypes o.type (args.map ρ)))
 | .call { callee := .builtin .max, args, argTypes } => some (.rd (Builtin.max_ argTypes o.type (args.map ρ)))
 | .call { callee := .builtin .append, args, argTypes } => some (.wr (Builtin.append_ argTypes o.type (args.map ρ)))
 | .call { callee := .builtin .copy, args, argTypes } => some (.wr (Builtin.copy_ argTypes o.type (args.map ρ)))
 | .call { callee := .builtin .delete, args, argTypes } => some (.wr (Builtin.delete_ argTypes o.type (args.map ρ)))
 | .call { callee := .builtin .clear, args, argTypes } => some (.wr (Builtin.clear_ argTypes o.type (args.map ρ)))
 | .field t x f => if bigT P t = true then some (.rd (Instr.field t (ρ x) f)) else none
 | .build t parts => if bigB P t (parts.toList.map (·.1)) = true then some (.rd (Instr.build t (parts.map fun p => (p.1, ρ p.2)))) else none
 | .buildSlice t len parts => if bigB P t (parts.toList.map (·.1)) && !parts.isEmpty then some (.wr (Instr.buildSlice t len (parts.map fun p => (p.1, ρ p.2)))) else none
 | .entry it => some (.rd (Instr.entry (ρ it)))
 | .mapEntry t m k => some (.wr (Instr.mapEntry t (ρ m) (ρ k)))
 | .entryStore t m k v => some (.st (Instr.entryStore t (ρ m) (ρ k) (ρ v)))
 | _ => none
def qC0 (P : Program) (ρ : Operand -> Value) (o : Oper) : Option (Sem Value) := match o.op with
 | .next it b => some (Instr.next (ρ it) b o.type)
 | _ => none
def RW.next : RW -> Sem Next
 | .rd s => vN s
 | .wr s => vN s
 | .st s => uN s
theorem qtI {P : Program} {ρ : Operand -> Value} {o : Oper} {r : RW} (h : semV P ρ o = some r) : execOp ρ o = r.next := by
 unfold semV at h
 unfold execOp
 split at h
 case h_4 => split at h <;> (simp only [Option.some.injEq] at h; subst h; simp only [*]; rfl)
 case h_20 => split at h <;> first | (cases h; done) | (simp only [Option.some.injEq] at h; subst h; simp only [*]; rfl)
 case h_21 => split at h <;> first | (cases h; done) | (simp only [Option.some.injEq] at h; subst h; simp only [*]; rfl)
 case h_22 => split at h <;> first | (cases h; done) | (simp only [Option.some.injEq] at h; subst h; simp only [*]; rfl)
 case h_26 => cases h
 all_goals (simp only [Option.some.injEq] at h; subst h; simp only [*]; rfl)
theorem qyE {P : Program} {ρ : Operand -> Value} {o : Oper} {s : Sem Value} (h : qC0 P ρ o = some s) : execOp ρ o = vN s := by
 unfold qC0 at h
 unfold execOp
 split at h
 · simp only [Option.some.injEq] at h; subst h; simp only [*]; rfl
 · cases h
def callable (P : Program) (f : FuncId) : Bool :=
 match P.funcs[f]? with
 | some fn => fn.body.isSome && !(fn.name == "runtime.NumGoroutine")
 | none => false
def qqZ (P : Program) (ρ : Operand -> Value) (op : Op) : Option (FuncId × Array Value) :=
 match op with
 | .call { callee := .value f, args, .. } => match ρ f with
   | .func (.func f) first captured => if callable P f then some (f, (first.toList ++ (args.toList.map ρ ++ captured.toList)).toArray) else none
   | _ => none
 | _ => none
theorem callV_ok {P : Program} {ρ : Operand -> Value} {o : Oper} {f : FuncId} {args : Array Value} (h : qqZ P ρ o.op = some (f, args)) (w : World) :
   (execOp ρ o).run P w = .ok (.enter f args) w := by
 unfold execOp
 generalize o.op = op at h
 unfold qqZ at h
 split at h
 · rename_i g asv _
   split at h
   · rename_i f' first captured hf
     split at h
     · rename_i hc
       simp only [Option.some.injEq, Prod.mk.injEq] at h
       obtain ⟨rfl, rfl⟩ := h
       unfold callable at hc
       split at hc
       · rename_i fn hfn
         simp only [Bool.and_eq_true, Bool.not_eq_true'] at hc
         simp only [resolve, hf, Deferred.ofValue, Sem.run_bind, Sem.run_pure, Result.andThen_ok, invoke, callFunc, run_program, hfn, hc.2, Bool.false_eq_true, if_false]
         have : fn.body.isNone = false := by cases hb : fn.body <;> simp_all
         simp only [this, Bool.false_eq_true, if_false, Sem.run_pure]
         congr 2
         apply Array.ext'
         simp
       · cases hc
     · cases h
   · cases h
 · cases h
def s0V : Value -> S0
 | .int k _ => .int k
 | .bool _ => .bool
 | .string _ => .str
 | .slice _ _ _ => .slice
 | .pointer _ => .ptr
 | .map _ => .map
 | _ => .any
def shV : Value -> Sh
 | .agg cs => if Nat.ble 12 cs.size = true then .one .any else .agg (cs.toList.map s0V)
 | v => .one (s0V v)
def shT (P : Program) (t : TypeId) : List Sh :=
 match (P.info? t).bind (·.zero) with
 | some (.tuple vs) => vs.toList.map shV
 | some v => [shV v]
 | none => [.one .any]
abbrev Fr := List (Nat × Value)
def getF : Fr -> Nat -> Value
 | [], _ => undef
 | (k, v) :: r, t => bif Nat.beq k t then v else getF r t
def putF (n : Nat) (fr : Fr) (d : Option Tmp) (v : Value) : Fr := match d with
 | none => fr
 | some t => bif Nat.ble (t + 1) n then (t, v) :: fr else fr
def evF (fr : Fr) : Operand -> Value
 | .tmp t => getF fr t
 | .const v => v
 | .global g => .pointer (some ⟨g, 0, none⟩)
 | .func f => .func (.func f) #[] #[]
structure Rep (n : Nat) (fr : Fr) (a : Act) : Prop where
 size : a.tmps.size = n
 defers : a.defers = []
 get : ∀ t, a.tmps.getD t undef = getF fr t
theorem Rep.eval {n : Nat} {fr : Fr} {a : Act} (h : Rep n fr a) : a.eval = evF fr := by
 funext x
 cases x <;> first | rfl | exact h.get _
theorem Rep.put {n : Nat} {fr : Fr} {a : Act} (h : Rep n fr a) (d : Option Tmp) (v : Value) : Rep n (putF n fr d v) (a.put d v) := by
 cases d with
 | none => exact h
 | some t =>
   refine ⟨by simp [Act.put, h.size], h.defers, fun i => ?_⟩
   have hg := h.get i
   have hs := h.size
   simp only [Act.put, putF]
   cases hb : Nat.ble (t + 1) n with
   | true =>
     have hlt : t < a.tmps.size := by have h1 : t + 1 <= n := Nat.le_of_ble_eq_true hb; rw [hs]; exact h1
     simp only [cond_true, getF]
     by_cases e : t = i
     · subst e
       simp [hlt]
     · have hne : Nat.beq t i = false := by cases hb : Nat.beq t i <;> first | rfl | exact absurd (Nat.eq_of_beq_eq_true hb) e
       rw [hne, cond_false, <- hg]
       simp [Array.getD_eq_getD_getElem?, Array.getElem?_setIfInBounds_ne e]
   | false =>
     have hlt : ¬ t < a.tmps.size := by
       intro hlt
       have : Nat.ble (t + 1) n = true := Nat.ble_eq_true_of_le (by rw [hs] at hlt; exact hlt)
       rw [this] at hb; cases hb
     simp only [cond_false]
     rw [<- hg]
     have : a.tmps.setIfInBounds t v = a.tmps := by
       simp [Array.setIfInBounds, hlt]
     rw [this]
def nmOf : Op -> Nat
 | .binOp .quo .. => 2
 | .binOp .rem .. => 2
 | .binOp .. => 1
 | .slice .. => 1
 | _ => 0
def nmK (op : Op) (v : Value) (K : Value -> Prop) : Prop := match nmOf op, v with
 | 1, .string s => ∀ l : List UInt8, l = toL s -> K (.string (mkS l))
 | 2, .int k n => ∀ m : Int, m = n -> K (.int k m)
 | _, v => K v
theorem nmK_ok {op : Op} {v : Value} {K : Value -> Prop} (h : nmK op v K) : K v := by
 unfold nmK at h
 split at h
 · exact h _ rfl
 · exact h _ rfl
 · exact h
def shOp (P : Program) (o : Oper) : List Sh := match o.op with
 | .range .. => [.one .ptr]
 | .entry _ => [.one .any, .one .any]
 | _ => shT P o.type
def WOp (P : Program) (n : Nat) (o : Oper) (a : Fr) (K : Fr -> World -> Prop) (w : World) : Prop :=
 match pv P (evF a) o.op with
 | some (.val v) => nmK o.op v fun v => K (putF n a o.dst v) w
 | some (.part c v) => c /\ nmK o.op v fun v => K (putF n a o.dst v) w
 | none => match alV P (evF a) o.op with
   | some (obj, mk) => ∀ (b : Nat) (w' : World), b = w.heap.size -> w' = w.alloc obj -> K (putF n a o.dst (mk b)) w'
   | none => match qC0 P (evF a) o with
    | some s => (∃ w' : World, s.run P w = .ok (.tuple #[.bool false]) w' /\ K (putF n a o.dst (.tuple #[.bool false])) w') \/ (∃ (w' : World) (k v : Value), s.run P w = .ok (.tuple #[.bool true, k, v]) w' /\ K (putF n a o.dst (.tuple #[.bool true, k, v])) w')
    | none => match semV P (evF a) o with
     | some (.rd s) => exR (shOp P o) fun v => s.run P w = .ok v w /\ K (putF n a o.dst v) w
     | some (.wr s) => ∃ w' : World, exR (shOp P o) fun v => s.run P w = .ok v w' /\ K (putF n a o.dst v) w'
     | some (.st s) => ∃ w' : World, s.run P w = .ok () w' /\ K (putF n a o.dst undef) w'
     | none => match qqZ P (evF a) o.op with
       | some (f, args) => Calls P f args w fun e w' => exR (shT P o.type) fun v => e = .returned v /\ K (putF n a o.dst v) w'
       | none => False
theorem qB3 {P : Program} {n : Nat} {o : Oper} {fr : Fr} {a : Act} {K : Fr -> World -> Prop} {K' : Act -> World -> Prop} {Q : Exit -> Act -> World -> Prop} {w : World} (hr : Rep n fr a) (h : WOp P n o fr K w)
   (hk : ∀ v w', K (putF n fr o.dst v) w' -> K' (a.put o.dst v) w') : o.wp P a w K' Q := by
 unfold WOp at h
 rw [<- hr.eval] at h
 unfold Oper.wp
 split at h
 · rename_i v hp; rw [pv_ok hp trivial]; exact hk _ _ (nmK_ok h)
 · rename_i c v hp; rw [pv_ok hp h.1]; exact hk _ _ (nmK_ok h.2)
 · split at h
   · rename_i obj mk hm; rw [alV_ok hm]; exact hk _ _ (h _ _ rfl rfl)
   · split at h
     · rename_i s hs
       rcases h with ⟨w', hv, h⟩ | ⟨w', k, v, hv, h⟩
       · rw [qyE hs, run_vN hv]; exact hk _ _ h
       · rw [qyE hs, run_vN hv]; exact hk _ _ h
     · split at h
       · rename_i s hs; obtain ⟨v, hv, h⟩ := qpq h; rw [qtI hs, RW.next, run_vN hv]; exact hk _ _ h
       · rename_i s hs; obtain ⟨w', h⟩ := h; obtain ⟨v, hv, h⟩ := qpq h; rw [qtI hs, RW.next, run_vN hv]; exact hk _ _ h
       · rename_i s hs; obtain ⟨w', hv, h⟩ := h; rw [qtI hs, RW.next, qDE hv]; exact hk _ _ h
       · split at h
         · rename_i f args hc
           rw [callV_ok hc]
           exact h.mono fun e w' he => by
             obtain ⟨v, hv, h⟩ := qpq he
             subst hv
             exact hk _ _ h
         · cases h
def BCase (b : Bool) (X Y : Prop) : Prop := match b with | true => X | false => Y
theorem BCase.of {b : Bool} {X Y : Prop} (hx : b = true -> X) (hy : b = false -> Y) : BCase b X Y := by
 cases b
 · exact hy rfl
 · exact hx rfl
theorem BCase.yes {b : Bool} {X Y : Prop} (hb : b = true) (hx : X) : BCase b X Y := by subst hb; exact hx
theorem BCase.no {b : Bool} {X Y : Prop} (hb : b = false) (hy : Y) : BCase b X Y := by subst hb; exact hy
theorem Rep.again {n : Nat} {fr : Fr} {a : Act} (h : Rep n fr a) {t : Tmp} {v : Value} (hv : getF fr t = v) : Rep n (putF n fr (some t) v) a := by
 refine ⟨h.size, h.defers, fun i => ?_⟩
 rw [h.get i]
 simp only [putF]
 cases hb : Nat.ble (t + 1) n with
 | false => rfl
 | true =>
   simp only [cond_true, getF]
   cases he : Nat.beq t i with
   | false => rfl
   | true => rw [<- Nat.eq_of_beq_eq_true he]; exact hv
def WG (n : Nat) (ops : Array Oper) (g : Option (Nat × Bool)) (a : Fr) (yes no : Fr -> Prop) : Prop :=
 match g with
 | none => yes a
 | some (j, want) => match (ops[j]?).bind (·.dst) with
   | none => no a
   | some t => match getF a t with
     | .bool b =>
       BCase b (match want with | true => yes (putF n a (some t) (.bool true)) | false => no (putF n a (some t) (.bool true)))
         (match want with | true => no (putF n a (some t) (.bool false)) | false => yes (putF n a (some t) (.bool false)))
     | _ => no a
theorem qzC {n : Nat} {ops : Array Oper} {o : Oper} {fr : Fr} {a : Act} {yes no : Fr -> Prop} (hr : Rep n fr a) (h : WG n ops o.guard fr yes no) :
   ∃ fr', Rep n fr' a /\ ((Region.wanted o (yielded ops a.tmps) = true /\ yes fr') \/ (Region.wanted o (yielded ops a.tmps) = false /\ no fr')) := by
 unfold WG at h
 unfold Region.wanted yielded
 split at h
 · rename_i hg; rw [hg]; exact ⟨fr, hr, .inl ⟨rfl, h⟩⟩
 · rename_i j want hg
   rw [hg]
   simp only
   split at h
   · rename_i hd; rw [hd]; exact ⟨fr, hr, .inr ⟨rfl, h⟩⟩
   · rename_i t hd
     rw [hd]
     simp only [Option.bind_some]
     have hget := hr.get t
     split at h
     · rename_i b hb
       rw [hb] at hget
       have hs : a.tmps[t]? = some (.bool b) := by
         rw [Array.getD_eq_getD_getElem?] at hget
         cases ha : a.tmps[t]? with
         | none => rw [ha] at hget; simp [undef] at hget
         | some v => rw [ha] at hget; simp at hget; rw [hget]
       rw [hs]
       refine ⟨_, hr.again hb, ?_⟩
       cases b <;> cases want <;> simp [BCase] at h <;> simp [h]
     · rename_i n1
       refine ⟨fr, hr, .inr ⟨?_, h⟩⟩
       split
       · rename_i b hb
         rw [Array.getD_eq_getD_getElem?, hb] at hget
         exact absurd hget.symm (n1 b)
       · rfl
def dsts (l : List Oper) : List Tmp := l.filterMap (·.dst)
structure Agree (S : List Tmp) (a a' : Act) : Prop where
 tmps : ∀ i, i ∉ S -> a'.tmps.getD i undef = a.tmps.getD i undef
theorem Agree.refl (S : List Tmp) (a : Act) : Agree S a a := ⟨fun _ _ => rfl⟩
theorem Agree.mono {S S' : List Tmp} {a a' : Act} (h : Agree S a a') (hs : ∀ t, t ∈ S -> t ∈ S') : Agree S' a a' :=
 ⟨fun i hi => h.tmps i fun hm => hi (hs i hm)⟩
theorem Agree.trans {S : List Tmp} {a b c : Act} (h : Agree S a b) (k : Agree S b c) : Agree S a c :=
 ⟨fun i hi => (k.tmps i hi).trans (h.tmps i hi)⟩
theorem Agree.put {S : List Tmp} (a : Act) (d : Option Tmp) (v : Value) (h : ∀ t, d = some t -> t ∈ S) : Agree S a (a.put d v) := by
 cases d with
 | none => exact Agree.refl _ _
 | some t =>
   refine ⟨fun i hi => ?_⟩
   have : t ≠ i := fun e => hi (e ▸ h t rfl)
   simp [Act.put, Array.getD_eq_getD_getElem?, Array.getElem?_setIfInBounds_ne this]
def WO (P : Program) (n : Nat) (ops : Array Oper) : List Oper -> (Fr -> World -> Prop) -> Fr -> World -> Prop
 | [], K, a, w => K a w
 | o :: rest, K, a, w => WG n ops o.guard a (fun a => WOp P n o a (WO P n ops rest K) w) (fun a => WO P n ops rest K (putF n a o.dst undef) w)
theorem qsm {o : Oper} {rest : List Oper} : ∀ t, t ∈ dsts rest -> t ∈ dsts (o :: rest) := by
 intro t ht
 simp only [dsts, List.mem_filterMap] at ht ⊢
 obtain ⟨x, hx, e⟩ := ht
 exact ⟨x, List.mem_cons_of_mem _ hx, e⟩
theorem qp4 {o : Oper} {rest : List Oper} : ∀ t, o.dst = some t -> t ∈ dsts (o :: rest) := by
 intro t ht
 simp only [dsts, List.mem_filterMap]
 exact ⟨o, List.mem_cons_self, ht⟩
theorem qBa {P : Program} {n : Nat} {ops : Array Oper} {Q : Exit -> Act -> World -> Prop} : ∀ {l : List Oper} {K : Fr -> World -> Prop} {fr : Fr} {a : Act} {w : World}, Rep n fr a -> WO P n ops l K fr w ->
   (∀ fr' a' w', Rep n fr' a' -> Agree (dsts l) a a' -> K fr' w' -> Q .normal a' w') -> wpList P ops Q l a w
 | [], K, fr, a, w, hr, h, hk => hk _ _ _ hr (Agree.refl _ _) h
 | o :: rest, K, fr, a, w, hr, h, hk => by
   unfold wpList
   obtain ⟨fr', hr', ⟨hw, h⟩ | ⟨hw, h⟩⟩ := qzC hr h
   · rw [if_pos hw]
     exact .inl (qB3 hr' h fun v w' h' => qBa (hr'.put o.dst v) h' fun f' a' w'' hf ha hk' => hk f' a' w'' hf ((Agree.put a o.dst v qp4).trans (ha.mono qsm)) hk')
   · rw [if_neg (by simp [hw])]
     exact qBa (hr'.put o.dst _) h fun f' a' w'' hf ha hk' => hk f' a' w'' hf ((Agree.put a o.dst _ qp4).trans (ha.mono qsm)) hk'
def WQOp (P : Program) (n : Nat) (w0 : World) (o : Oper) (a : Fr) (K : Fr -> Prop) : Prop :=
 match pv P (evF a) o.op with
 | some (.val v) => nmK o.op v fun v => K (putF n a o.dst v)
 | some (.part c v) => c /\ nmK o.op v fun v => K (putF n a o.dst v)
 | none => match semV P (evF a) o with
   | some (.rd s) => exR (shT P o.type) fun v => (∀ w1, Below w0.heap.size w0 w1 -> s.run P w1 = .ok v w1) /\ K (putF n a o.dst v)
   | some _ => False
   | none => match qqZ P (evF a) o.op with
     | some (f, args) => exR (shT P o.type) fun v => (∀ w1, Below w0.heap.size w0 w1 -> Calls P f args w1 fun e w2 => e = .returned v /\ Below w0.heap.size w1 w2) /\ K (putF n a o.dst v)
     | none => False
theorem qCn {P : Program} {n : Nat} {w0 : World} {o : Oper} {fr : Fr} {a : Act} {K : Fr -> Prop} {K' : Act -> Prop} (hr : Rep n fr a) (h : WQOp P n w0 o fr K) (hk : ∀ v, K (putF n fr o.dst v) -> K' (a.put o.dst v)) :
   o.quiet P a (Below w0.heap.size w0) K' := by
 unfold WQOp at h
 rw [<- hr.eval] at h
 unfold Oper.quiet Oper.quietAt
 split at h
 · rename_i v hp; exact ⟨v, fun w _ => by rw [pv_ok hp trivial]; exact ⟨rfl, rfl⟩, hk _ (nmK_ok h)⟩
 · rename_i c v hp; exact ⟨v, fun w _ => by rw [pv_ok hp h.1]; exact ⟨rfl, rfl⟩, hk _ (nmK_ok h.2)⟩
 · split at h
   · rename_i s hs; obtain ⟨v, hv, h⟩ := qpq h
     exact ⟨v, fun w hw => by rw [qtI hs, RW.next, run_vN (hv w hw)]; exact ⟨rfl, rfl⟩, hk _ h⟩
   · cases h
   · split at h
     · rename_i f args hc
       obtain ⟨v, hv, h⟩ := qpq h
       exact ⟨v, fun w hw => by rw [callV_ok hc]; exact ⟨rfl, (hv w hw).mono fun e w2 he => ⟨he.1, hw.trans he.2⟩⟩, hk _ h⟩
     · cases h
def WQ (P : Program) (n : Nat) (w0 : World) (ops : Array Oper) : List Oper -> (Fr -> Prop) -> Fr -> Prop
 | [], K, a => K a
 | o :: rest, K, a => WG n ops o.guard a (fun a => WQOp P n w0 o a (WQ P n w0 ops rest K)) (fun a => WQ P n w0 ops rest K (putF n a o.dst undef))
theorem qBb {P : Program} {n : Nat} {w0 : World} {ops : Array Oper} {Q : Act -> Prop} : ∀ {l : List Oper} {K : Fr -> Prop} {fr : Fr} {a : Act}, Rep n fr a -> WQ P n w0 ops l K fr ->
   (∀ fr' a', Rep n fr' a' -> Agree (dsts l) a a' -> K fr' -> Q a') -> wpQuiet P ops (Below w0.heap.size w0) Q l a
 | [], K, fr, a, hr, h, hk => hk _ _ hr (Agree.refl _ _) h
 | o :: rest, K, fr, a, hr, h, hk => by
   unfold wpQuiet
   obtain ⟨fr', hr', ⟨hw, h⟩ | ⟨hw, h⟩⟩ := qzC hr h
   · rw [if_pos hw]
     exact qCn hr' h fun v h' => qBb (hr'.put o.dst v) h' fun f' a' hf ha hk' => hk f' a' hf ((Agree.put a o.dst v qp4).trans (ha.mono qsm)) hk'
   · rw [if_neg (by simp [hw])]
     exact qBb (hr'.put o.dst _) h fun f' a' hf ha hk' => hk f' a' hf ((Agree.put a o.dst _ qp4).trans (ha.mono qsm)) hk'
section
variable {P : Program} {ops : Array Oper} {md : Region.Mode} {C : World -> Prop}
def qt4 (P : Program) (md : Region.Mode) (ops : Array Oper) (C : World -> Prop) (n : Nat) (L : Array Bool -> Act -> Prop) : Nat -> Array Bool -> Act -> Prop
 | 0, listed, a => L listed a
 | f + 1, listed, a => Region.ready md ops listed ≠ [] /\ ∀ i ∈ Region.ready md ops listed, i < n /\ qOp P ops C i (qt4 P md ops C n L f (listed.setIfInBounds i true)) a
theorem qpi {n g : Nat} {L : Array Bool -> Act -> Prop} {Q' : Exit -> Act -> World -> Prop} (hL : ∀ listed a w, C w -> L listed a -> wpAny P md ops Q' g listed a w) :
   ∀ (f : Nat) (listed : Array Bool) (a : Act) (w : World), C w -> qt4 P md ops C n L f listed a -> wpAny P md ops Q' (f + g) listed a w
 | 0, listed, a, w, hw, h => by rw [Nat.zero_add]; exact hL _ _ _ hw h
 | f + 1, listed, a, w, hw, h => by
   rw [show f + 1 + g = (f + g) + 1 by omega]
   exact ⟨fun h0 => absurd h0 h.1, fun i hi => wpOp_of_qOp hw (fun a' w' hw' h' => qpi hL f _ a' w' hw' h') (h.2 i hi).2⟩
theorem qwm {n i : Nat} {oi : Oper} {v : Value} {L : Array Bool -> Act -> Prop} (hi : ops[i]? = some oi) (hsel : ∀ (j : Nat) (o : Oper) cs b, ops[j]? = some o -> o.op ≠ .select cs b)
   (hs : Region.sinkB md ops n = true) (hc : Region.chainB md ops n = true) (hn : n < ops.size) (hin : i < n)
   (hdone : ∀ listed a, L listed a -> ∀ j ∈ Region.ready md ops listed, n <= j) :
   ∀ (f : Nat) (listed : Array Bool) (a : Act), HeadInv md ops n listed ->
     (∀ j oj, ops[j]? = some oj -> j ≠ i -> listed.getD j true = false -> (∀ e ∈ oj.after, Region.binds md e = true -> e.on ≠ i) -> oi.apart ops oj = true) ->
     i ∈ Region.ready md ops listed -> YieldsIn P ops C oi v a ->
     qt4 P md ops C n L f (listed.setIfInBounds i true) (a.put oi.dst v) -> qt4 P md ops C n L (f + 1) listed a := by
 intro f
 induction f with
 | zero =>
   intro listed a inv _ hr hy H
   have hun := (mem_ready.1 hr).1
   refine ⟨fun h => (by rw [h] at hr; cases hr), fun j hj => ?_⟩
   have hjn : j < n := by
     rcases Nat.lt_or_ge j n with h | h
     · exact h
     · exact absurd hj (tail_waits hs hc hn inv _ i rfl hin hun j h)
   refine ⟨hjn, ?_⟩
   by_cases hji : j = i
   · subst hji; exact hy.qOp hi H
   · have := hdone _ _ H j (ready_mono hj hji)
     omega
 | succ f ih =>
   intro listed a inv hfree hr hy H
   have hun := (mem_ready.1 hr).1
   refine ⟨fun h => (by rw [h] at hr; cases hr), fun j hj => ?_⟩
   have hjn : j < n := by
     rcases Nat.lt_or_ge j n with h | h
     · exact h
     · exact absurd hj (tail_waits hs hc hn inv _ i rfl hin hun j h)
   refine ⟨hjn, ?_⟩
   by_cases hji : j = i
   · subst hji; exact hy.qOp hi H
   · have h1 := (H.2 j (ready_mono hj hji)).2
     obtain ⟨hjun, oj, hoj, hall⟩ := mem_ready.1 hj
     have hnot : ∀ e ∈ oj.after, Region.binds md e = true -> e.on ≠ i := fun e he hb heq => by
       have h1 := hall e he hb
       rw [heq, getD_both hun] at h1
       cases h1
     have h2 := qOp_put hoj (hfree j oj hoj hji hjun hnot) (fun cs b => hsel i oi cs b hi) (fun cs b => hsel j oj cs b hoj) hy h1
     have hfree' : ∀ k ok, ops[k]? = some ok -> k ≠ i -> (listed.setIfInBounds j true).getD k true = false ->
         (∀ e ∈ ok.after, Region.binds md e = true -> e.on ≠ i) -> oi.apart ops ok = true := fun k ok hk hki hun hno => by
       refine hfree k ok hk hki ?_ hno
       by_cases hjk : j = k
       · subst hjk; exact hjun
       · rw [getD_set_ne true hjk] at hun; exact hun
     refine qOp_mono (fun a' h3 => ih (listed.setIfInBounds j true) a' (inv.set hj hjn) hfree' (ready_mono hr (Ne.symm hji)) h3.1 ?_) h2
     rw [Array.setIfInBounds_comm _ _ hji]
     exact h3.2
theorem qt5 {n g : Nat} {Lq : Act -> Prop} (hsel : Region.noSelect ops = true) (hs : Region.sinkB md ops n = true) (hc : Region.chainB md ops n = true) (hn : n < ops.size) :
   ∀ (l : List Oper) (k : Nat) (listed : Array Bool) (a : Act), (∀ j, j < l.length -> l[j]? = ops[k + j]?) -> k + l.length = n -> HeadInv md ops n listed ->
   Region.lexHead md ops g l.length k listed = true -> wpQuiet P ops C Lq l a ->
   qt4 P md ops C n (fun listed' a' => Region.seqB md ops g n listed' = true /\ Lq a') l.length listed a
 | [], k, listed, a, _, hk, _, hB, h => by
   have : k = n := by simpa using hk
   subst this
   exact ⟨by simpa [Region.lexHead] using hB, h⟩
 | o :: l, k, listed, a, hl, hk, inv, hB, h => by
   have h0 : ops[k]? = some o := by simpa using (hl 0 (by simp)).symm
   simp only [List.length_cons, Region.lexHead, Bool.and_eq_true] at hB
   obtain ⟨⟨hr, hf⟩, hB'⟩ := hB
   have hkn : k < n := by simp only [List.length_cons] at hk; omega
   have hr' : k ∈ Region.ready md ops listed := by simpa using hr
   have hst : qOp P ops C k (wpQuiet P ops C Lq l) a := by unfold qOp; simp only [h0]; exact h
   obtain ⟨v, hy, hK⟩ := yieldsIn_of_qOp h0 hst
   exact qwm h0 (Region.noSelect_spec hsel) hs hc hn hkn (fun listed' a' hL => seqB_ready hL.1) l.length listed a inv (Region.free_spec h0 hf) hr' hy
     (qt5 hsel hs hc hn l (k + 1) _ _ (fun j hj => by have := hl (j + 1) (by simp; omega); simpa [Nat.add_assoc, Nat.add_comm 1 j] using this) (by simp only [List.length_cons] at hk; omega) (inv.set hr' hkn) hB' hK)
theorem qoL {id : Nat} {Q : Exit -> Act -> World -> Prop} {a : Act} {w : World} (n : Nat) (hm : P.follows .mixedOrders = true) (hB : Region.lexTailB .any ops n = true) (hC : C { w with drawn := w.drawn + 1 })
   (h : wpQuiet P ops C (fun a' => ∀ w', C w' -> wpList P ops Q (ops.toList.drop n) a' w') (ops.toList.take n) a) : (Code.region id ops true).wp P Q a w := by
 simp only [Region.lexTailB, Bool.and_eq_true, dTx] at hB
 obtain ⟨⟨⟨⟨hsel, hn⟩, hs⟩, hc⟩, hlex⟩ := hB
 have htl : (ops.toList.take n).length = n := by simp; omega
 have hdl : (ops.toList.drop n).length = ops.size - n := by simp
 have inv0 : HeadInv .any ops n (Array.replicate ops.size false) :=
   ⟨by simp, fun j oj _ hl => (by rw [getD_replicate_false] at hl; cases hl), fun t _ ht => getD_in (by simpa using ht) (getD_replicate_false _ _)⟩
 have H := qt5 (C := C) (md := .any) (g := ops.size - n) hsel hs hc hn (ops.toList.take n) 0 _ a (fun j hj => by
   have hj' : j < n := by rw [htl] at hj; exact hj
   simp [hj']) (by simpa using htl) inv0 (by rw [htl]; exact hlex) h
 refine wp_region_any hm ?_
 have := qpi (Q' := Q) (g := ops.size - n) (fun listed a' w' hw' hL => by
   have := wpAny_of_seq (md := .any) (Q' := Q) (ops.toList.drop n) n listed a' w' (fun j => by simp [List.getElem?_drop]) (by rw [hdl]; exact hL.1) (hL.2 w' hw')
   rwa [hdl] at this) _ _ _ _ hC H
 rw [htl, show n + (ops.size - n) = ops.size by omega] at this
 exact this
end
abbrev Al := List (Nat × Obj)
def qCZ : Al -> Nat -> Prop -> Prop
 | [], _, X => X
 | p :: r, k, X => k ≠ p.1 -> qCZ r k X
def qAp : Al -> World -> Prop -> Prop
 | [], _, X => X
 | p :: r, w, X => w.heap[p.1]? = some p.2 -> qAp r w X
theorem qyD {X : Prop} : ∀ {al : Al} {k : Nat}, qCZ al k X -> (∀ p ∈ al, p.1 ≠ k) -> X
 | [], _, h, _ => h
 | p :: _, _, h, hk => qyD (h (fun e => hk p List.mem_cons_self e.symm)) fun q hq => hk q (List.mem_cons_of_mem _ hq)
theorem qwI {X : Prop} : ∀ {al : Al} {w : World}, qAp al w X -> (∀ p ∈ al, w.heap[p.1]? = some p.2) -> X
 | [], _, h, _ => h
 | p :: _, _, h, hk => qwI (h (hk p List.mem_cons_self)) fun q hq => hk q (List.mem_cons_of_mem _ hq)
def isAl : Op -> Bool
 | .alloc _ | .box _ _ | .buildSlice _ _ _ | .makeMap _ _ => true
 | _ => false
def isVC : Op -> Bool
 | .call { callee := .value _, .. } => true
 | _ => false
theorem qyg {P : Program} {ρ : Operand -> Value} {op : Op} {r : Obj × (Nat -> Value)} (h : alV P ρ op = some r) : isAl op = true := by
 unfold alV at h
 split at h <;> first | rfl | cases h
theorem qq0 {P : Program} {ρ : Operand -> Value} {op : Op} {r : FuncId × Array Value} (h : qqZ P ρ op = some r) : isVC op = true := by
 unfold qqZ at h
 split at h
 · rfl
 · cases h
theorem qzD {P : Program} {ρ ρ' : Operand -> Value} {op : Op} (h : ∀ x ∈ op.operands, ρ x = ρ' x) : alV P ρ op = alV P ρ' op := by
 cases op <;> simp only [Op.operands] at h <;> try rfl
 case box e x => simp only [alV]; rw [h x (by simp)]
 case makeMap t r => cases r <;> rfl
 case buildSlice t n ps =>
   have e : (ps.toList.map fun p => (p.1, ρ p.2)) = ps.toList.map fun p => (p.1, ρ' p.2) :=
     List.map_congr_left fun p hp => by rw [h p.2 (List.mem_toArray.2 (List.mem_map.2 ⟨p, hp, rfl⟩))]
   simp only [alV]
   rw [e]
theorem qxs {P : Program} {ρ ρ' : Operand -> Value} {op : Op} (h : ∀ x ∈ op.operands, ρ x = ρ' x) : qqZ P ρ op = qqZ P ρ' op := by
 cases op <;> simp only [Op.operands] at h <;> try rfl
 case call c =>
   simp only [qqZ]
   obtain ⟨callee, args, argTypes⟩ := c
   cases callee with
   | value f =>
     have hf : ρ f = ρ' f := h f (by simp [Call.operands])
     have ha : args.toList.map ρ = args.toList.map ρ' := List.map_congr_left fun x hx => h x (by simp [Call.operands]; right; simpa using hx)
     simp only [hf, ha]
   | _ => rfl
section
variable {P : Program} {ops : Array Oper} {md : Region.Mode} {w0 : World}
def Held (w0 : World) (al : Al) (w : World) : Prop := Below w0.heap.size w0 w /\ ∀ p ∈ al, w.heap[p.1]? = some p.2
theorem Held.step {al : Al} {w w' : World} (h : Held w0 al w) (hb : Below w.heap.size w w') : Held w0 al w' := by
 refine ⟨h.1.trans (hb.mono h.1.size), fun p hp => ?_⟩
 have h1 := h.2 p hp
 have hlt : p.1 < w.heap.size := by
   rcases Nat.lt_or_ge p.1 w.heap.size with h' | h'
   · exact h'
   · rw [Array.getElem?_eq_none h'] at h1; cases h1
 rw [hb.block _ hlt, h1]
theorem Held.fresh {al : Al} {w : World} (h : Held w0 al w) : ∀ p ∈ al, p.1 ≠ w.heap.size := by
 intro p hp e
 have h1 := h.2 p hp
 rw [e, Array.getElem?_eq_none (Nat.le_refl _)] at h1
 cases h1
theorem Held.alloc {al : Al} {w : World} (h : Held w0 al w) (obj : Obj) : Held w0 ((w.heap.size, obj) :: al) (w.alloc obj) := by
 have h1 := h.step ((Below.refl w.heap.size w).alloc (Nat.le_refl _) obj)
 refine ⟨h1.1, fun p hp => ?_⟩
 rcases List.mem_cons.1 hp with rfl | hp
 · show (w.heap.push obj)[w.heap.size]? = some obj
   simp
 · exact h1.2 p hp
theorem qry (al : Al) (n : Nat) : ∃ k, n <= k /\ ∀ p ∈ al, p.1 ≠ k := by
 have key : ∀ al : Al, ∃ m, ∀ p ∈ al, p.1 < m := by
   intro al
   induction al with
   | nil => exact ⟨0, fun p hp => by cases hp⟩
   | cons q r ih =>
     obtain ⟨m, hm⟩ := ih
     refine ⟨max m (q.1 + 1), fun p hp => ?_⟩
     rcases List.mem_cons.1 hp with rfl | hp
     · omega
     · have := hm p hp; omega
 obtain ⟨m, hm⟩ := key al
 exact ⟨max m n, by omega, fun p hp => by have := hm p hp; omega⟩
def qCe (P : Program) (o : Oper) (a : Act) (w0 : World) (v : Value) : Prop := ∀ w, Below w0.heap.size w0 w -> (execOp a.eval o).run P w = .ok (.value v) w
def qB6 (P : Program) (o : Oper) (a : Act) (w0 : World) (v : Value) : Prop :=
 ∃ f args, qqZ P a.eval o.op = some (f, args) /\ ∀ w, Below w0.heap.size w0 w -> Calls P f args w fun e w' => e = .returned v /\ Below w.heap.size w w'
def YS (P : Program) (ops : Array Oper) (w0 : World) (o : Oper) (v : Value) (a : Act) : Prop :=
 (Region.wanted o (yielded ops a.tmps) = true /\ (qCe P o a w0 v \/ qB6 P o a w0 v)) \/ (Region.wanted o (yielded ops a.tmps) = false /\ v = undef)
def NS (P : Program) (ops : Array Oper) (o : Oper) (obj : Obj) (mk : Nat -> Value) (a : Act) : Prop :=
 Region.wanted o (yielded ops a.tmps) = true /\ alV P a.eval o.op = some (obj, mk)
def sOp (P : Program) (ops : Array Oper) (w0 : World) (i : Nat) (next : Al -> Act -> Prop) (al : Al) (a : Act) : Prop := match ops[i]? with
 | none => False
 | some o => (∃ v, YS P ops w0 o v a /\ next al (a.put o.dst v)) \/
   (∃ obj mk, NS P ops o obj mk a /\ ∀ k, w0.heap.size <= k -> (∀ p ∈ al, p.1 ≠ k) -> next ((k, obj) :: al) (a.put o.dst (mk k)))
theorem qyd {i : Nat} {a : Act} {al : Al} {K : Al -> Act -> Prop} {K' : Act -> World -> Prop} {Q' : Exit -> Act -> World -> Prop} {w : World} (hw : Held w0 al w)
   (h : ∀ al' a' w', Held w0 al' w' -> K al' a' -> K' a' w') (hh : sOp P ops w0 i K al a) : wpOp P ops Q' i K' a w := by
 unfold sOp at hh
 unfold wpOp
 split at hh
 · exact hh.elim
 · rename_i o ho
   rw [ho]
   simp only
   rcases hh with ⟨v, (⟨hwt, h1⟩ | ⟨hwt, rfl⟩), h2⟩ | ⟨obj, mk, ⟨hwt, h1⟩, h2⟩
   · rw [if_pos hwt]
     refine .inl ?_
     unfold Oper.wp
     rcases h1 with h1 | ⟨f, args, hc, h1⟩
     · rw [h1 w hw.1]; exact h _ _ _ hw h2
     · rw [callV_ok hc]
       exact (h1 w hw.1).mono fun e w' ⟨he, hb⟩ => by subst he; exact h _ _ _ (hw.step hb) h2
   · rw [if_neg (by simp [hwt])]
     exact h _ _ _ hw h2
   · rw [if_pos hwt]
     refine .inl ?_
     unfold Oper.wp
     rw [alV_ok h1]
     exact h _ _ _ (hw.alloc obj) (h2 _ hw.1.size hw.fresh)
theorem qCr (o : Oper) (a : Act) (dst : Option Tmp) (v : Value) (h : ∀ d, dst = some d -> d ∉ o.looksAt ops) : alV P (a.put dst v).eval o.op = alV P a.eval o.op :=
 qzD fun x hx => Act.eval_put fun d hd hxd => h d hd (by
   subst hxd
   exact List.mem_append_left _ (List.mem_filterMap.2 ⟨.tmp d, by simpa using hx, rfl⟩))
theorem qzL (o : Oper) (a : Act) (dst : Option Tmp) (v : Value) (h : ∀ d, dst = some d -> d ∉ o.looksAt ops) : qqZ P (a.put dst v).eval o.op = qqZ P a.eval o.op :=
 qxs fun x hx => Act.eval_put fun d hd hxd => h d hd (by
   subst hxd
   exact List.mem_append_left _ (List.mem_filterMap.2 ⟨.tmp d, by simpa using hx, rfl⟩))
theorem qwq {o : Oper} (hs : ∀ cs b, o.op ≠ .select cs b) (a : Act) (dst : Option Tmp) (u : Value) (h : ∀ d, dst = some d -> d ∉ o.looksAt ops) {v : Value} :
   YS P ops w0 o v (a.put dst u) ↔ YS P ops w0 o v a := by
 unfold YS qCe qB6
 rw [wanted_put o a dst u h, execOp_put o hs a dst u h, qzL o a dst u h]
theorem qwp {o : Oper} (a : Act) (dst : Option Tmp) (u : Value) (h : ∀ d, dst = some d -> d ∉ o.looksAt ops) {obj : Obj} {mk : Nat -> Value} :
   NS P ops o obj mk (a.put dst u) ↔ NS P ops o obj mk a := by
 unfold NS
 rw [wanted_put o a dst u h, qCr o a dst u h]
end
section
variable {P : Program} {ops : Array Oper} {w0 : World} {N : Act -> World -> Prop} {hd : Nat -> Bool} {g : Nat}
def qul (N : Act -> World -> Prop) : Exit -> Act -> World -> Prop
 | .normal, a, w => N a w
 | _, _, _ => False
def qkI (P : Program) (ops : Array Oper) (w0 : World) (N : Act -> World -> Prop) (hd : Nat -> Bool) (g : Nat) : Nat -> Array Bool -> Al -> Act -> Prop
 | 0, listed, al, a => (∀ j, hd j = true -> listed.getD j true = true) /\ ∀ w, Held w0 al w -> wpAny P .any ops (qul N) g listed a w
 | f + 1, listed, al, a => Region.ready .any ops listed ≠ [] /\ ∀ i ∈ Region.ready .any ops listed,
   (hd i = true /\ sOp P ops w0 i (qkI P ops w0 N hd g f (listed.setIfInBounds i true)) al a) \/
   (hd i = false /\ ∀ w, Held w0 al w -> wpOp P ops (qul N) i (wpAny P .any ops (qul N) (f + g) (listed.setIfInBounds i true)) a w)
theorem qlm : ∀ (f : Nat) (listed : Array Bool) (al : Al) (a : Act) (w : World), Held w0 al w -> qkI P ops w0 N hd g f listed al a -> wpAny P .any ops (qul N) (f + g) listed a w
 | 0, listed, al, a, w, hw, h => by rw [Nat.zero_add]; exact h.2 _ hw
 | f + 1, listed, al, a, w, hw, h => by
   rw [show f + 1 + g = (f + g) + 1 by omega]
   refine ⟨fun h0 => absurd h0 h.1, fun i hi => ?_⟩
   rcases h.2 i hi with ⟨_, h1⟩ | ⟨_, h1⟩
   · exact qyd hw (fun al' a' w' hw' h' => qlm f _ al' a' w' hw' h') h1
   · exact h1 w hw
theorem Held.al {al al' : Al} {w : World} (hm : ∀ p, p ∈ al ↔ p ∈ al') (h : Held w0 al' w) : Held w0 al w := ⟨h.1, fun p hp => h.2 p ((hm p).1 hp)⟩
theorem qt6 : ∀ (f : Nat) (listed : Array Bool) (al al' : Al) (a : Act), (∀ p, p ∈ al ↔ p ∈ al') -> qkI P ops w0 N hd g f listed al a -> qkI P ops w0 N hd g f listed al' a
 | 0, _, _, _, _, hm, h => ⟨h.1, fun w hw => h.2 w (hw.al hm)⟩
 | f + 1, listed, al, al', a, hm, h => by
   refine ⟨h.1, fun i hi => ?_⟩
   rcases h.2 i hi with ⟨hh, h1⟩ | ⟨hh, h1⟩
   · refine .inl ⟨hh, ?_⟩
     unfold sOp at *
     split
     · simp_all
     · rename_i o ho
       simp only [ho] at h1
       rcases h1 with ⟨v, h1, h2⟩ | ⟨obj, mk, h1, h2⟩
       · exact .inl ⟨v, h1, qt6 f _ _ _ _ hm h2⟩
       · exact .inr ⟨obj, mk, h1, fun k hk hf => qt6 f _ _ _ _ (fun p => by simp only [List.mem_cons, hm p]) (h2 k hk fun p hp => hf p ((hm p).1 hp))⟩
   · exact .inr ⟨hh, fun w hw => h1 w (hw.al hm)⟩
structure ClI (ops : Array Oper) (listed : Array Bool) : Prop where
 size : listed.size = ops.size
 closed : ∀ j oj, ops[j]? = some oj -> listed.getD j false = true -> ∀ e ∈ oj.after, Region.binds .any e = true -> listed.getD e.on false = true
theorem ClI.set {i : Nat} {listed : Array Bool} (inv : ClI ops listed) (hi : i ∈ Region.ready .any ops listed) : ClI ops (listed.setIfInBounds i true) := by
 obtain ⟨_, oi, hoi, hall⟩ := mem_ready.1 hi
 refine ⟨by simp [inv.size], fun j oj hj hl e he hb => ?_⟩
 by_cases hij : i = j
 · subst hij
   have : oj = oi := Option.some.inj (hj.symm.trans hoi)
   subst this
   exact getD_set_true (hall e he hb)
 · rw [getD_set_ne false hij] at hl
   exact getD_set_true (inv.closed j oj hj hl e he hb)
def qxi (ops : Array Oper) (i : Nat) : Nat -> Nat -> Bool
 | 0, _ => false
 | f + 1, j => match ops[j]? with
   | none => false
   | some oj => oj.after.any fun e => Region.binds .any e && (Nat.beq e.on i || qxi ops i f e.on)
theorem qxj {i : Nat} {listed : Array Bool} (inv : ClI ops listed) (hun : listed.getD i true = false) :
   ∀ (f j : Nat) (oj : Oper), ops[j]? = some oj -> qxi ops i f j = true -> (∀ e ∈ oj.after, Region.binds .any e = true -> listed.getD e.on false = true) -> False
 | 0, _, _, _, h, _ => by cases h
 | f + 1, j, oj, hj, h, hall => by
   simp only [qxi, hj] at h
   obtain ⟨e, he, hb⟩ := Array.any_eq_true'.1 h
   simp only [Bool.and_eq_true, Bool.or_eq_true] at hb
   have hl := hall e he hb.1
   rcases hb.2 with hb2 | hb2
   · rw [Nat.eq_of_beq_eq_true hb2, getD_both hun] at hl; cases hl
   · cases ho : ops[e.on]? with
     | none => cases f <;> simp [qxi, ho] at hb2
     | some oe => exact qxj inv hun f e.on oe ho hb2 fun e' he' hb' => inv.closed e.on oe ho hl e' he' hb'
def qza (ops : Array Oper) (hd : Nat -> Bool) (i : Nat) : Bool := (List.range ops.size).all fun j => hd j || qxi ops i 6 j
theorem qom {i j : Nat} {listed : Array Bool} (hc : qza ops hd i = true) (inv : ClI ops listed) (hun : listed.getD i true = false) (hj : j ∈ Region.ready .any ops listed) : hd j = true := by
 obtain ⟨_, oj, hoj, hall⟩ := mem_ready.1 hj
 have h1 := List.all_eq_true.1 hc j (List.mem_range.2 (Array.getElem?_eq_some_iff.1 hoj).1)
 rcases Bool.or_eq_true _ _ ▸ h1 with h1 | h1
 · exact h1
 · exact (qxj inv hun _ j oj hoj h1 hall).elim
theorem qru {o : Oper} {v : Value} {a : Act} (h : Yields P ops o v a) : YS P ops w0 o v a := by
 rcases h with ⟨h1, h2⟩ | h
 · exact .inl ⟨h1, .inl fun w _ => h2 w⟩
 · exact .inr h
theorem qqW {i : Nat} {oi : Oper} {v : Value} (hi : ops[i]? = some oi) (hs : Region.noSelect ops = true) (hdi : hd i = true) :
   ∀ (f : Nat) (listed : Array Bool) (al : Al) (a : Act), ClI ops listed ->
     (∀ j oj, ops[j]? = some oj -> j ≠ i -> listed.getD j true = false -> (∀ e ∈ oj.after, Region.binds .any e = true -> e.on ≠ i) -> oi.apart ops oj = true) ->
     i ∈ Region.ready .any ops listed -> YS P ops w0 oi v a -> (qza ops hd i = true \/ Yields P ops oi v a) ->
     qkI P ops w0 N hd g f (listed.setIfInBounds i true) al (a.put oi.dst v) -> qkI P ops w0 N hd g (f + 1) listed al a := by
 have hsel := Region.noSelect_spec hs
 intro f
 induction f with
 | zero =>
   intro listed al a inv hfree hr hy hco H
   have hun := (mem_ready.1 hr).1
   refine ⟨fun h => (by rw [h] at hr; cases hr), fun j hj => ?_⟩
   by_cases hji : j = i
   · subst hji
     refine .inl ⟨hdi, ?_⟩
     unfold sOp
     simp only [hi]
     exact .inl ⟨v, hy, H⟩
   · cases hdj : hd j with
     | true =>
       have h1 := H.1 j hdj
       rw [getD_set_ne true (Ne.symm hji), (mem_ready.1 hj).1] at h1
       cases h1
     | false =>
       rcases hco with hc | hY
       · rw [qom hc inv hun hj] at hdj; cases hdj
       · refine .inr ⟨rfl, fun w hw => ?_⟩
         have := wpAny_first hi hsel (Q := qul N) (fun c a w h => h.elim) (0 + g) listed a w hfree hr hY (by rw [Nat.zero_add]; exact H.2 w hw)
         exact this.2 j hj
 | succ f ih =>
   intro listed al a inv hfree hr hy hco H
   have hun := (mem_ready.1 hr).1
   refine ⟨fun h => (by rw [h] at hr; cases hr), fun j hj => ?_⟩
   by_cases hji : j = i
   · subst hji
     refine .inl ⟨hdi, ?_⟩
     unfold sOp
     simp only [hi]
     exact .inl ⟨v, hy, H⟩
   · cases hdj : hd j with
     | false =>
       rcases hco with hc | hY
       · rw [qom hc inv hun hj] at hdj; cases hdj
       · refine .inr ⟨rfl, fun w hw => ?_⟩
         have := wpAny_first hi hsel (Q := qul N) (fun c a w h => h.elim) (f + 1 + g) listed a w hfree hr hY (qlm _ _ _ _ _ hw H)
         exact this.2 j hj
     | true =>
       have h1 : sOp P ops w0 j (qkI P ops w0 N hd g f ((listed.setIfInBounds i true).setIfInBounds j true)) al (a.put oi.dst v) := by
         rcases H.2 j (ready_mono hj hji) with ⟨_, h1⟩ | ⟨h1, _⟩
         · exact h1
         · rw [hdj] at h1; cases h1
       obtain ⟨hjun, oj, hoj, hall⟩ := mem_ready.1 hj
       have hnot : ∀ e ∈ oj.after, Region.binds .any e = true -> e.on ≠ i := fun e he hb heq => by
         have h1 := hall e he hb
         rw [heq, getD_both hun] at h1
         cases h1
       obtain ⟨a1, a2, a3⟩ := Oper.apart_spec (hfree j oj hoj hji hjun hnot)
       have hfree' : ∀ k ok, ops[k]? = some ok -> k ≠ i -> (listed.setIfInBounds j true).getD k true = false ->
           (∀ e ∈ ok.after, Region.binds .any e = true -> e.on ≠ i) -> oi.apart ops ok = true := fun k ok hk hki hun hno => by
         refine hfree k ok hk hki ?_ hno
         by_cases hjk : j = k
         · subst hjk; exact hjun
         · rw [getD_set_ne true hjk] at hun; exact hun
       have keep : ∀ u, qza ops hd i = true \/ Yields P ops oi v (a.put oj.dst u) := fun u => by
         rcases hco with hc | hY
         · exact .inl hc
         · exact .inr (hY.of_same (execOp_put oi (fun cs b => hsel i oi cs b hi) a oj.dst u a3) (wanted_put oi a oj.dst u a3))
       have go : ∀ al' u, qkI P ops w0 N hd g f ((listed.setIfInBounds i true).setIfInBounds j true) al' ((a.put oi.dst v).put oj.dst u) ->
           qkI P ops w0 N hd g (f + 1) (listed.setIfInBounds j true) al' (a.put oj.dst u) := fun al' u h => by
         refine ih (listed.setIfInBounds j true) al' _ (inv.set hj) hfree' (ready_mono hr (Ne.symm hji)) ((qwq (fun cs b => hsel i oi cs b hi) a oj.dst u a3).2 hy) (keep u) ?_
         rw [<- Act.put_comm a v u a2, Array.setIfInBounds_comm _ _ hji]
         exact h
       refine .inl ⟨rfl, ?_⟩
       unfold sOp at h1 ⊢
       simp only [hoj] at h1 ⊢
       rcases h1 with ⟨u, h1, h2⟩ | ⟨obj, mk, h1, h2⟩
       · exact .inl ⟨u, (qwq (fun cs b => hsel j oj cs b hoj) a oi.dst v a1).1 h1, go _ _ h2⟩
       · exact .inr ⟨obj, mk, (qwp a oi.dst v a1).1 h1, fun k hk hf => go _ _ (h2 k hk hf)⟩
theorem qDl {o : Oper} {v u : Value} {a : Act} (hc : isVC o.op = false) (h : YS P ops w0 o v a) (h' : YS P ops w0 o u a) : v = u := by
 rcases h with ⟨hw, h⟩ | ⟨hw, rfl⟩
 · rcases h' with ⟨_, h'⟩ | ⟨hw', _⟩
   · rcases h with h | ⟨f, args, h, _⟩
     · rcases h' with h' | ⟨f, args, h', _⟩
       · have e := (h w0 (Below.refl _ _)).symm.trans (h' w0 (Below.refl _ _))
         simp only [Result.ok.injEq, Next.value.injEq] at e
         exact e.1
       · rw [qq0 h'] at hc; cases hc
     · rw [qq0 h] at hc; cases hc
   · rw [hw] at hw'; cases hw'
 · rcases h' with ⟨hw', _⟩ | ⟨_, rfl⟩
   · rw [hw] at hw'; cases hw'
   · rfl
theorem qDk {o : Oper} {v : Value} {a : Act} {obj : Obj} {mk : Nat -> Value} (h : YS P ops w0 o v a) (h' : NS P ops o obj mk a) : False := by
 obtain ⟨hw', h'⟩ := h'
 rcases h with ⟨hw, h⟩ | ⟨hw, rfl⟩
 · rcases h with h | ⟨f, args, h, _⟩
   · have e := (h w0 (Below.refl _ _)).symm.trans (alV_ok h' w0)
     simp only [Result.ok.injEq, Next.value.injEq] at e
     have e2 : w0.heap.size = (w0.alloc obj).heap.size := congrArg (fun w : World => w.heap.size) e.2
     rw [World.size_alloc] at e2
     omega
   · have h1 := qyg h'
     have h2 := qq0 h
     generalize o.op = op at h1 h2
     cases op <;> simp [isAl, isVC] at h1 h2
 · rw [hw] at hw'; cases hw'
theorem qwn {i : Nat} {oi : Oper} {obj : Obj} {mk : Nat -> Value} (hi : ops[i]? = some oi) (hs : Region.noSelect ops = true) (hdi : hd i = true) (hco : qza ops hd i = true) :
   ∀ (f : Nat) (listed : Array Bool) (al : Al) (a : Act), ClI ops listed ->
     (∀ j oj, ops[j]? = some oj -> j ≠ i -> listed.getD j true = false -> (∀ e ∈ oj.after, Region.binds .any e = true -> e.on ≠ i) -> oi.apart ops oj = true) ->
     (∀ j oj, ops[j]? = some oj -> j ≠ i -> hd j = true -> listed.getD j true = false -> (∀ e ∈ oj.after, Region.binds .any e = true -> e.on ≠ i) -> isVC oj.op = false) ->
     i ∈ Region.ready .any ops listed -> NS P ops oi obj mk a ->
     (∀ k, w0.heap.size <= k -> (∀ p ∈ al, p.1 ≠ k) -> qkI P ops w0 N hd g f (listed.setIfInBounds i true) ((k, obj) :: al) (a.put oi.dst (mk k))) -> qkI P ops w0 N hd g (f + 1) listed al a := by
 have hsel := Region.noSelect_spec hs
 intro f
 induction f with
 | zero =>
   intro listed al a inv _ _ hr hy H
   have hun := (mem_ready.1 hr).1
   refine ⟨fun h => (by rw [h] at hr; cases hr), fun j hj => .inl ?_⟩
   have hdj := qom hco inv hun hj
   by_cases hji : j = i
   · subst hji
     refine ⟨hdi, ?_⟩
     unfold sOp
     simp only [hi]
     exact .inr ⟨obj, mk, hy, H⟩
   · obtain ⟨k, hk, hf⟩ := qry al w0.heap.size
     have h1 := (H k hk hf).1 j hdj
     rw [getD_set_ne true (Ne.symm hji), (mem_ready.1 hj).1] at h1
     cases h1
 | succ f ih =>
   intro listed al a inv hfree hnc hr hy H
   have hun := (mem_ready.1 hr).1
   refine ⟨fun h => (by rw [h] at hr; cases hr), fun j hj => .inl ?_⟩
   have hdj := qom hco inv hun hj
   refine ⟨hdj, ?_⟩
   by_cases hji : j = i
   · subst hji
     unfold sOp
     simp only [hi]
     exact .inr ⟨obj, mk, hy, H⟩
   · obtain ⟨hjun, oj, hoj, hall⟩ := mem_ready.1 hj
     have hnot : ∀ e ∈ oj.after, Region.binds .any e = true -> e.on ≠ i := fun e he hb heq => by
       have h1 := hall e he hb
       rw [heq, getD_both hun] at h1
       cases h1
     obtain ⟨a1, a2, a3⟩ := Oper.apart_spec (hfree j oj hoj hji hjun hnot)
     have hvc := hnc j oj hoj hji hdj hjun hnot
     have back : ∀ k : Nat, (listed.setIfInBounds j true).getD k true = false -> listed.getD k true = false := fun k hun => by
       by_cases hjk : j = k
       · subst hjk; exact hjun
       · rw [getD_set_ne true hjk] at hun; exact hun
     have go : ∀ al' u, (∀ k, w0.heap.size <= k -> (∀ p ∈ al', p.1 ≠ k) -> qkI P ops w0 N hd g f ((listed.setIfInBounds i true).setIfInBounds j true) ((k, obj) :: al') ((a.put oi.dst (mk k)).put oj.dst u)) ->
         qkI P ops w0 N hd g (f + 1) (listed.setIfInBounds j true) al' (a.put oj.dst u) := fun al' u h => by
       refine ih (listed.setIfInBounds j true) al' _ (inv.set hj) (fun k ok hk hki hun hno => hfree k ok hk hki (back k hun) hno)
         (fun k ok hk hki hkn hun hno => hnc k ok hk hki hkn (back k hun) hno) (ready_mono hr (Ne.symm hji)) ((qwp a oj.dst u a3).2 hy) fun k hk hf => ?_
       rw [<- Act.put_comm a (mk k) u a2, Array.setIfInBounds_comm _ _ hji]
       exact h k hk hf
     have h1 : ∀ k, w0.heap.size <= k -> (∀ p ∈ al, p.1 ≠ k) -> sOp P ops w0 j (qkI P ops w0 N hd g f ((listed.setIfInBounds i true).setIfInBounds j true)) ((k, obj) :: al) (a.put oi.dst (mk k)) :=
       fun k hk hf => by
         rcases (H k hk hf).2 j (ready_mono hj hji) with ⟨_, h1⟩ | ⟨h1, _⟩
         · exact h1
         · rw [hdj] at h1; cases h1
     obtain ⟨k0, hk0, hf0⟩ := qry al w0.heap.size
     have h2 := h1 k0 hk0 hf0
     unfold sOp at h1 h2 ⊢
     simp only [hoj] at h1 h2 ⊢
     rcases h2 with ⟨u, h2, _⟩ | ⟨obj', mk', h2, _⟩
     · have h2' := (qwq (fun cs b => hsel j oj cs b hoj) a oi.dst (mk k0) a1).1 h2
       refine .inl ⟨u, h2', go _ _ fun k hk hf => ?_⟩
       rcases h1 k hk hf with ⟨u', h3, h4⟩ | ⟨obj', mk', h3, h4⟩
       · have e := qDl hvc ((qwq (fun cs b => hsel j oj cs b hoj) a oi.dst (mk k) a1).1 h3) h2'
         subst e; exact h4
       · exact (qDk h2' ((qwp a oi.dst (mk k) a1).1 h3)).elim
     · have h2' := (qwp a oi.dst (mk k0) a1).1 h2
       refine .inr ⟨obj', mk', h2', fun k' hk' hf' => go _ _ fun k hk hf => ?_⟩
       have hfk : ∀ p ∈ al, p.1 ≠ k := fun p hp => hf p (List.mem_cons_of_mem _ hp)
       have hkk : k' ≠ k := hf (k', obj') List.mem_cons_self
       rcases h1 k hk hfk with ⟨u', h3, h4⟩ | ⟨obj'', mk'', h3, h4⟩
       · exact (qDk ((qwq (fun cs b => hsel j oj cs b hoj) a oi.dst (mk k) a1).1 h3) h2').elim
       · have e := h2'.2.symm.trans ((qwp a oi.dst (mk k) a1).1 h3).2
         simp only [Option.some.injEq, Prod.mk.injEq] at e
         obtain ⟨rfl, rfl⟩ := e
         refine qt6 f _ _ _ _ (fun p => ?_) (h4 k' hk' fun p hp => ?_)
         · simp only [List.mem_cons]; constructor <;> (intro h; rcases h with h | h | h <;> simp [h])
         · rcases List.mem_cons.1 hp with rfl | hp
           · exact Ne.symm hkk
           · exact hf' p hp
def wpS (P : Program) (ops : Array Oper) (hd : Nat -> Bool) (w0 : World) (Q : Al -> Act -> Prop) : List Nat -> Al -> Act -> Prop
 | [], al, a => Q al a
 | i :: l, al, a => match qza ops hd i with
   | true => sOp P ops w0 i (wpS P ops hd w0 Q l) al a
   | false => ∃ o v, ops[i]? = some o /\ Yields P ops o v a /\ wpS P ops hd w0 Q l al (a.put o.dst v)
def qCz (ops : Array Oper) (hd : Nat -> Bool) (i : Nat) (listed : Array Bool) : Bool :=
 (List.range ops.size).all fun j => Nat.beq j i || !hd j || listed.getD j true || Region.waitsFor .any ops j i || !((ops[j]?).map fun o => isVC o.op).getD false
def qAo (ops : Array Oper) (hd : Nat -> Bool) : List Nat -> Array Bool -> Bool
 | [], listed => (List.range ops.size).all (fun j => !hd j || listed.getD j true)
 | i :: l, listed => hd i && (Region.ready .any ops listed).contains i && Region.free .any ops listed i && (!((ops[i]?).map fun o => isAl o.op).getD false || qCz ops hd i listed) && qAo ops hd l (listed.setIfInBounds i true)
def hasN : List Nat -> Nat -> Bool
 | [], _ => false
 | x :: l, i => Nat.beq x i || hasN l i
def setN : List Nat -> Array Bool -> Array Bool
 | [], l => l
 | i :: r, l => setN r (l.setIfInBounds i true)
def ordB (ops : Array Oper) (ord : List Nat) : Bool :=
 Region.noSelect ops && Nat.ble ord.length ops.size && qAo ops (hasN ord) ord (Array.replicate ops.size false)
theorem qy6 {i : Nat} {listed : Array Bool} (h : qCz ops hd i listed = true) : ∀ j oj, ops[j]? = some oj -> j ≠ i -> hd j = true -> listed.getD j true = false -> (∀ e ∈ oj.after, Region.binds .any e = true -> e.on ≠ i) -> isVC oj.op = false := by
 intro j oj hj hji hjn hun hno
 have h1 := List.all_eq_true.1 h j (List.mem_range.2 (Array.getElem?_eq_some_iff.1 hj).1)
 have hb : Nat.beq j i = false := by cases hb : Nat.beq j i <;> first | rfl | exact absurd (Nat.eq_of_beq_eq_true hb) hji
 have hwf : Region.waitsFor .any ops j i = false := by
   cases hw : Region.waitsFor .any ops j i with
   | false => rfl
   | true =>
     obtain ⟨o', ho', e, he, hbd, hon⟩ := Region.waitsFor_spec hw
     have : o' = oj := Option.some.inj (ho'.symm.trans hj)
     subst this
     exact absurd hon (hno e he hbd)
 simpa [hb, hun, hwf, hj, hjn] using h1
theorem qoy {Lq : Al -> Act -> Prop} (hs : Region.noSelect ops = true) :
   ∀ (l : List Nat) (listed : Array Bool) (al : Al) (a : Act), (∀ al a, Lq al a -> ∀ w, Held w0 al w -> wpAny P .any ops (qul N) g (setN l listed) a w) -> ClI ops listed -> qAo ops hd l listed = true -> wpS P ops hd w0 Lq l al a ->
   qkI P ops w0 N hd g l.length listed al a
 | [], listed, al, a, hLq, inv, hB, h => by
   simp only [qAo] at hB
   refine ⟨fun j hj => ?_, hLq _ _ h⟩
   rcases Nat.lt_or_ge j ops.size with hlt | hge
   · have h1 := List.all_eq_true.1 hB j (List.mem_range.2 hlt)
     simpa [hj] using h1
   · have : listed.size <= j := by rw [inv.size]; exact hge
     simp [Array.getElem?_eq_none this]
 | i :: l, listed, al, a, hLq, inv, hB, h => by
   simp only [qAo, Bool.and_eq_true] at hB
   obtain ⟨⟨⟨⟨hdi, hr⟩, hf⟩, hcl⟩, hB'⟩ := hB
   have hr' : i ∈ Region.ready .any ops listed := by simpa using hr
   simp only [wpS] at h
   split at h
   · rename_i hco
     unfold sOp at h
     split at h
     · exact h.elim
     · rename_i o ho
       rcases h with ⟨v, h1, h2⟩ | ⟨obj, mk, h1, h2⟩
       · exact qqW ho hs hdi l.length listed al a inv (Region.free_spec ho hf) hr' h1 (.inl hco) (qoy hs l _ _ _ hLq (inv.set hr') hB' h2)
       · have hca : qCz ops hd i listed = true := by
           simpa [ho, qyg h1.2] using hcl
         exact qwn ho hs hdi hco l.length listed al a inv (Region.free_spec ho hf) (qy6 hca) hr' h1
           fun k hk hf => qoy hs l _ _ _ hLq (inv.set hr') hB' (h2 k hk hf)
   · obtain ⟨o, v, ho, hY, h2⟩ := h
     exact qqW ho hs hdi l.length listed al a inv (Region.free_spec ho hf) hr' (qru hY) (.inr hY) (qoy hs l _ _ _ hLq (inv.set hr') hB' h2)
theorem qwo {id : Nat} {a : Act} {w : World} (ord : List Nat) (hm : P.follows .mixedOrders = true) (hB : ordB ops ord = true)
   (h : wpS P ops (hasN ord) w (fun al a' => ∀ w', Held w al w' -> wpAny P .any ops (qul N) (ops.size - ord.length) (setN ord (Array.replicate ops.size false)) a' w') ord [] a) :
   (Code.region id ops true).wp P (qul N) a w := by
 simp only [ordB, Bool.and_eq_true] at hB
 obtain ⟨⟨hsel, hlen⟩, hh⟩ := hB
 have hlen' : ord.length <= ops.size := Nat.le_of_ble_eq_true hlen
 have inv0 : ClI ops (Array.replicate ops.size false) := ⟨by simp, fun j oj _ hl => (by rw [getD_replicate_false] at hl; cases hl)⟩
 have H := qoy (P := P) (w0 := w) (N := N) hsel ord _ _ a (fun al a h => h) inv0 hh h
 refine wp_region_any hm ?_
 have := qlm _ _ _ _ { w with drawn := w.drawn + 1 } ⟨(Below.refl _ w).drew, fun p hp => by cases hp⟩ H
 rw [show ord.length + (ops.size - ord.length) = ops.size by omega] at this
 exact this
end
def WSOp (P : Program) (n : Nat) (w0 : World) (core : Bool) (o : Oper) (al : Al) (a : Fr) (K : Al -> Fr -> Prop) : Prop :=
 match pv P (evF a) o.op with
 | some (.val v) => nmK o.op v fun v => K al (putF n a o.dst v)
 | some (.part c v) => c /\ nmK o.op v fun v => K al (putF n a o.dst v)
 | none => match core with
   | false => False
   | true => match alV P (evF a) o.op with
     | some (obj, mk) => ∀ k : Nat, w0.heap.size <= k -> qCZ al k (K ((k, obj) :: al) (putF n a o.dst (mk k)))
     | none => match semV P (evF a) o with
       | some (.rd s) => exR (shOp P o) fun v => (∀ w1, Below w0.heap.size w0 w1 -> s.run P w1 = .ok v w1) /\ K al (putF n a o.dst v)
       | some _ => False
       | none => match qqZ P (evF a) o.op with
         | some (f, args) => exR (shT P o.type) fun v => (∀ w1, Below w0.heap.size w0 w1 -> Calls P f args w1 fun e w2 => e = .returned v /\ Below w1.heap.size w1 w2) /\ K al (putF n a o.dst v)
         | none => False
def WS (P : Program) (n : Nat) (w0 : World) (hd : Nat -> Bool) (ops : Array Oper) (K : Al -> Fr -> Prop) : List Nat -> Al -> Fr -> Prop
 | [], al, a => K al a
 | i :: rest, al, a => match ops[i]? with
   | none => False
   | some o => WG n ops o.guard a (fun a => WSOp P n w0 (qza ops hd i) o al a (WS P n w0 hd ops K rest)) (fun a => WS P n w0 hd ops K rest al (putF n a o.dst undef))
theorem qCp {P : Program} {n : Nat} {w0 : World} {core : Bool} {ops : Array Oper} {o : Oper} {al : Al} {fr : Fr} {a : Act} {K : Al -> Fr -> Prop} {K' : Al -> Act -> Prop} (hwt : Region.wanted o (yielded ops a.tmps) = true) (hr : Rep n fr a) (h : WSOp P n w0 core o al fr K)
   (hk : ∀ al v, K al (putF n fr o.dst v) -> K' al (a.put o.dst v)) :
   (∃ v, Yields P ops o v a /\ K' al (a.put o.dst v)) \/ core = true /\ ((∃ v, YS P ops w0 o v a /\ K' al (a.put o.dst v)) \/ (∃ obj mk, NS P ops o obj mk a /\ ∀ k, w0.heap.size <= k -> (∀ p ∈ al, p.1 ≠ k) -> K' ((k, obj) :: al) (a.put o.dst (mk k)))) := by
 unfold WSOp at h
 rw [<- hr.eval] at h
 split at h
 · rename_i v hp; exact .inl ⟨v, .inl ⟨hwt, fun w => pv_ok hp trivial w⟩, hk _ _ (nmK_ok h)⟩
 · rename_i c v hp; exact .inl ⟨v, .inl ⟨hwt, fun w => pv_ok hp h.1 w⟩, hk _ _ (nmK_ok h.2)⟩
 · split at h
   · cases h
   · refine .inr ⟨rfl, ?_⟩
     split at h
     · rename_i obj mk hal; exact .inr ⟨obj, mk, ⟨hwt, hal⟩, fun k hk' hf => hk _ _ (qyD (h k hk') hf)⟩
     · split at h
       · rename_i s hs; obtain ⟨v, hv, h⟩ := qpq h
         exact .inl ⟨v, .inl ⟨hwt, .inl fun w hw => by rw [qtI hs, RW.next, run_vN (hv w hw)]⟩, hk _ _ h⟩
       · cases h
       · split at h
         · rename_i f args hc
           obtain ⟨v, hv, h⟩ := qpq h
           exact .inl ⟨v, .inl ⟨hwt, .inr ⟨f, args, hc, hv⟩⟩, hk _ _ h⟩
         · cases h
theorem qCq {P : Program} {n : Nat} {w0 : World} {hd : Nat -> Bool} {ops : Array Oper} {Q : Al -> Act -> Prop} : ∀ {l : List Nat} {K : Al -> Fr -> Prop} {al : Al} {fr : Fr} {a : Act}, Rep n fr a -> WS P n w0 hd ops K l al fr ->
   (∀ al' fr' a', Rep n fr' a' -> Agree (dsts ops.toList) a a' -> K al' fr' -> Q al' a') -> wpS P ops hd w0 Q l al a
 | [], K, al, fr, a, hr, h, hk => hk _ _ _ hr (Agree.refl _ _) h
 | i :: rest, K, al, fr, a, hr, h, hk => by
   unfold WS at h
   split at h
   · cases h
   · rename_i o ho
     have hmem : ∀ t, o.dst = some t -> t ∈ dsts ops.toList := fun t ht => by
       simp only [dsts, List.mem_filterMap]
       exact ⟨o, by have := Array.mem_of_getElem? ho; simpa using this, ht⟩
     have pure : (∃ v, Yields P ops o v a /\ wpS P ops hd w0 Q rest al (a.put o.dst v)) -> wpS P ops hd w0 Q (i :: rest) al a := by
       rintro ⟨v, hY, h2⟩
       simp only [wpS]
       split
       · unfold sOp
         simp only [ho]
         exact .inl ⟨v, qru hY, h2⟩
       · exact ⟨o, v, ho, hY, h2⟩
     obtain ⟨fr', hr', ⟨hw, h⟩ | ⟨hw, h⟩⟩ := qzC hr h
     · rcases qCp hw hr' h fun al' v h' => qCq (hr'.put o.dst v) h' fun al'' f' a' hf ha hk' => hk al'' f' a' hf ((Agree.put a o.dst v hmem).trans ha) hk' with h1 | ⟨hco, h1⟩
       · exact pure h1
       · simp only [wpS, hco]
         unfold sOp
         simp only [ho]
         exact h1
     · exact pure ⟨undef, .inr ⟨hw, rfl⟩, qCq (hr'.put o.dst _) h fun al'' f' a' hf ha hk' => hk al'' f' a' hf ((Agree.put a o.dst _ hmem).trans ha) hk'⟩
def qCD (f : Nat -> Prop) : List Nat -> Prop
 | [] => True
 | [i] => f i
 | i :: l => f i /\ qCD f l
theorem qww {f : Nat -> Prop} : ∀ {l : List Nat}, qCD f l -> ∀ i ∈ l, f i
 | [], _, _, h => by cases h
 | [j], h, i, hi => by simp at hi; subst hi; exact h
 | j :: k :: l, h, i, hi => by
   rcases List.mem_cons.1 hi with rfl | hi
   · exact h.1
   · exact qww h.2 i hi
def takes (P : Program) (ops : Array Oper) (listed : Array Bool) (a : Fr) (i : Nat) : Bool := match ops[i]? with
 | some o => (pv P (evF a) o.op).isSome && Region.free .any ops listed i
 | none => false
def WPV (r : Option PV) (K : Value -> Prop) : Prop := match r with
 | some (.val v) => K v
 | some (.part c v) => c /\ K v
 | none => False
def WA (P : Program) (n : Nat) (ops : Array Oper) (K : Fr -> World -> Prop) : Nat -> Array Bool -> Fr -> World -> Prop
 | 0, listed, a, w => match Region.ready .any ops listed with
   | [] => K a w
   | _ => False
 | fuel + 1, listed, a, w => match Region.ready .any ops listed with
   | [] => K a w
   | l => match l.find? (takes P ops listed a) with
     | some i => match ops[i]? with
       | none => False
       | some o => WG n ops o.guard a (fun a => WPV (pv P (evF a) o.op) fun v => nmK o.op v fun v => WA P n ops K fuel (listed.setIfInBounds i true) (putF n a o.dst v) w) (fun a => WA P n ops K fuel (listed.setIfInBounds i true) (putF n a o.dst undef) w)
     | none => qCD (fun i => match ops[i]? with
       | none => False
       | some o => WG n ops o.guard a (fun a => WOp P n o a (WA P n ops K fuel (listed.setIfInBounds i true)) w) (fun a => WA P n ops K fuel (listed.setIfInBounds i true) (putF n a o.dst undef) w)) l
theorem qqe {ops : Array Oper} {i : Nat} {o : Oper} (h : ops[i]? = some o) : ∀ t, o.dst = some t -> t ∈ dsts ops.toList := by
 intro t ht
 simp only [dsts, List.mem_filterMap]
 exact ⟨o, by have := Array.mem_of_getElem? h; simpa using this, ht⟩
theorem qxl {P : Program} {n : Nat} {ops : Array Oper} {K : Fr -> World -> Prop} {N : Act -> World -> Prop} (hs : Region.noSelect ops = true) : ∀ {fuel : Nat} {listed : Array Bool} {fr : Fr} {a : Act} {w : World}, Rep n fr a -> WA P n ops K fuel listed fr w ->
   (∀ fr' a' w', Rep n fr' a' -> Agree (dsts ops.toList) a a' -> K fr' w' -> N a' w') -> wpAny P .any ops (qul N) fuel listed a w
 | 0, listed, fr, a, w, hr, h, hk => by
   unfold WA at h
   unfold wpAny
   split at h
   · rename_i hrd; exact ⟨hrd, hk _ _ _ hr (Agree.refl _ _) h⟩
   · cases h
 | fuel + 1, listed, fr, a, w, hr, h, hk => by
   unfold WA at h
   split at h
   · rename_i hrd
     unfold wpAny
     refine ⟨fun _ => hk _ _ _ hr (Agree.refl _ _) h, fun i hi => ?_⟩
     rw [hrd] at hi; cases hi
   · rename_i n1
     split at h
     · rename_i i hf
       have hmem := List.mem_of_find?_eq_some hf
       have ht := List.find?_some hf
       split at h
       · cases h
       · rename_i o ho
         simp only [takes, ho, Bool.and_eq_true] at ht
         obtain ⟨fr', hr', ⟨hw, h⟩ | ⟨hw, h⟩⟩ := qzC hr h
         · unfold WPV at h
           rw [<- hr'.eval] at h
           split at h
           · rename_i v hp
             exact wpAny_take ho hs ht.2 (by simpa using hmem) (fun c a w hq => hq.elim) (.inl ⟨hw, fun w => pv_ok hp trivial w⟩)
               (qxl hs (hr'.put o.dst v) (nmK_ok h) fun f' a' w'' hf ha hk' => hk f' a' w'' hf ((Agree.put a o.dst v (qqe ho)).trans ha) hk')
           · rename_i c v hp
             exact wpAny_take ho hs ht.2 (by simpa using hmem) (fun c a w hq => hq.elim) (.inl ⟨hw, fun w => pv_ok hp h.1 w⟩)
               (qxl hs (hr'.put o.dst v) (nmK_ok h.2) fun f' a' w'' hf ha hk' => hk f' a' w'' hf ((Agree.put a o.dst v (qqe ho)).trans ha) hk')
           · cases h
         · exact wpAny_take ho hs ht.2 (by simpa using hmem) (fun c a w hq => hq.elim) (.inr ⟨hw, rfl⟩)
             (qxl hs (hr'.put o.dst _) h fun f' a' w'' hf ha hk' => hk f' a' w'' hf ((Agree.put a o.dst _ (qqe ho)).trans ha) hk')
     · unfold wpAny
       refine ⟨fun hrd => absurd hrd n1, fun i hi => ?_⟩
       have h1 := qww h i hi
       unfold wpOp
       split at h1
       · cases h1
       · rename_i o ho
         rw [ho]
         simp only
         obtain ⟨fr', hr', ⟨hw, h⟩ | ⟨hw, h⟩⟩ := qzC hr h1
         · rw [if_pos hw]
           exact .inl (qB3 hr' h fun v w' h' => qxl hs (hr'.put o.dst v) h' fun f' a' w'' hf ha hk' => hk f' a' w'' hf ((Agree.put a o.dst v (qqe ho)).trans ha) hk')
         · rw [if_neg (by simp [hw])]
           exact qxl hs (hr'.put o.dst _) h fun f' a' w'' hf ha hk' => hk f' a' w'' hf ((Agree.put a o.dst _ (qqe ho)).trans ha) hk'
def know (n : Nat) (a : Fr) (c : Operand) (b : Bool) : Fr := match c with
 | .tmp t => putF n a (some t) (.bool b)
 | _ => a
theorem qyA {n : Nat} {fr : Fr} {a : Act} {c : Operand} {b : Bool} (hr : Rep n fr a) (h : evF fr c = .bool b) : Rep n (know n fr c b) a := by
 cases c with
 | tmp t => exact hr.again h
 | _ => exact hr
def writes : Code -> List Tmp
 | .region _ ops _ => dsts ops.toList
 | .seq a b => writes a ++ writes b
 | .cond _ a b => writes a ++ writes b
 | .block _ c | .loop c | .scope c => writes c
 | .rangeFunc _ ps a b => ps.toList ++ writes a ++ writes b
 | _ => []
def csize : Code -> Nat
 | .seq a b => csize a + csize b + 1
 | .cond _ a b => csize a + csize b + 1
 | .block _ c | .loop c | .scope c => csize c + 1
 | .rangeFunc _ _ a b => csize a + csize b + 1
 | _ => 1
abbrev Ann := List (Nat × List (Tmp × Sh))
def Ann.at (l : Ann) (p : Nat) : Option (List (Tmp × Sh)) := match l with
 | [] => none
 | (k, x) :: r => bif Nat.beq k p then some x else Ann.at r p
def reads (a : Fr) : List (Tmp × Sh) -> List Value
 | [] => []
 | (t, _) :: l => getF a t :: reads a l
def shapes : List (Tmp × Sh) -> List Sh
 | [] => []
 | (_, s) :: l => s :: shapes l
def slots : List (Tmp × Sh) -> List Tmp
 | [] => []
 | (t, _) :: l => t :: slots l
def puts (n : Nat) (a : Fr) : List Tmp -> List Value -> Fr
 | t :: l, v :: vs => puts n (putF n a (some t) v) l vs
 | _, _ => a
def allJ : List Tmp -> (List Value -> Prop) -> Prop
 | [], K => K []
 | _ :: l, K => ∀ v : Value, allJ l fun vs => K (v :: vs)
theorem qCs {K : List Value -> Prop} : ∀ (l : List Tmp), (∀ vs, K vs) -> allJ l K := by
 intro l
 induction l generalizing K with
 | nil => intro h; exact h _
 | cons s l ih => intro h; exact fun _ => ih fun _ => h _
theorem qyh {f : Tmp -> Value} : ∀ {l : List Tmp} {K : List Value -> Prop}, allJ l K -> K (l.map f)
 | [], _, h => h
 | _ :: l, K, h => qyh (l := l) (h _)
def hasT : List Tmp -> Tmp -> Bool
 | [], _ => false
 | k :: l, t => bif Nat.beq k t then true else hasT l t
theorem qyw : ∀ {l : List Tmp} {t : Tmp}, hasT l t = true -> t ∈ l
 | k :: l, t, h => by
   simp only [hasT] at h
   cases hb : Nat.beq k t with
   | true => rw [Nat.eq_of_beq_eq_true hb]; exact List.mem_cons_self
   | false => rw [hb] at h; exact List.mem_cons_of_mem _ (qyw h)
def junk (S L : List Tmp) : List Tmp := match S with
 | [] => []
 | t :: S => bif hasT L t then junk S L else t :: junk S (t :: L)
theorem qv0 : ∀ {S L : List Tmp} {t : Tmp}, t ∈ S -> t ∈ L \/ t ∈ junk S L
 | s :: S, L, t, h => by
   unfold junk
   cases hs : hasT L s with
   | true =>
     simp only [cond_true]
     rcases List.mem_cons.1 h with rfl | h
     · exact .inl (qyw hs)
     · exact qv0 h
   | false =>
     simp only [cond_false]
     rcases List.mem_cons.1 h with rfl | h
     · exact .inr List.mem_cons_self
     · rcases qv0 (L := s :: L) h with h | h
       · rcases List.mem_cons.1 h with rfl | h
         · exact .inr List.mem_cons_self
         · exact .inl h
       · exact .inr (List.mem_cons_of_mem _ h)
theorem qv3 {n : Nat} {f : Tmp -> Value} (hf : ∀ t, ¬ t < n -> f t = undef) : ∀ (l : List Tmp) (fr : Fr), (∀ t, ¬ t < n -> getF fr t = undef) -> ∀ i, getF (puts n fr l (l.map f)) i = if i ∈ l then f i else getF fr i
 | [], fr, _, i => by simp [puts]
 | t :: l, fr, hn, i => by
   simp only [List.map_cons, puts]
   have hn' : ∀ j, ¬ j < n -> getF (putF n fr (some t) (f t)) j = undef := by
     intro j hj
     simp only [putF]
     cases hb : Nat.ble (t + 1) n with
     | false => exact hn j hj
     | true =>
       simp only [cond_true, getF]
       cases he : Nat.beq t j with
       | false => exact hn j hj
       | true => rw [<- Nat.eq_of_beq_eq_true he] at hj; exact hf t hj
   rw [qv3 hf l _ hn' i]
   by_cases hi : i ∈ l
   · simp [hi]
   · by_cases ht : i = t
     · subst ht
       simp only [hi, if_false, List.mem_cons, true_or, if_true, putF]
       cases hb : Nat.ble (i + 1) n with
       | true =>
         have : Nat.beq i i = true := Nat.beq_refl i
         simp only [cond_true, getF, this]
       | false =>
         have hlt : ¬ i < n := by
           intro hlt
           have : Nat.ble (i + 1) n = true := Nat.ble_eq_true_of_le (by omega)
           rw [this] at hb; cases hb
         simp only [cond_false]
         rw [hn i hlt, hf i hlt]
     · have ht' : Nat.beq t i = false := by cases hb : Nat.beq t i <;> first | rfl | exact absurd (Nat.eq_of_beq_eq_true hb).symm ht
       simp only [hi, List.mem_cons, ht, or_false, if_false, putF]
       cases hb : Nat.ble (t + 1) n <;> simp [getF, ht']
theorem Rep.beyond {n : Nat} {fr : Fr} {a : Act} (h : Rep n fr a) (t : Nat) (ht : ¬ t < n) : getF fr t = undef := by
 rw [<- h.get t]
 have : ¬ t < a.tmps.size := by rw [h.size]; exact ht
 simp [Array.getD, this]
theorem qyY {n : Nat} {fr fb : Fr} {a b : Act} {S L : List Tmp} (hr : Rep n fr a) (hb : Rep n fb b) (h : Agree S a b) :
   Rep n (puts n (puts n fr (junk S L) ((junk S L).map fun t => getF fb t)) L (L.map fun t => getF fb t)) b := by
 refine ⟨hb.size, hb.defers, fun i => ?_⟩
 have h1 := qv3 (f := fun t => getF fb t) (fun t ht => hb.beyond t ht) (junk S L) fr hr.beyond
 rw [qv3 (f := fun t => getF fb t) (fun t ht => hb.beyond t ht) L _ (fun t ht => by rw [h1 t]; split <;> first | exact hb.beyond t ht | exact hr.beyond t ht), h1]
 by_cases c1 : i ∈ L
 · simp [c1, hb.get]
 · by_cases c2 : i ∈ junk S L
   · simp [c1, c2, hb.get]
   · rw [if_neg c1, if_neg c2]
     rw [h.tmps i fun hS => ?_, hr.get]
     rcases qv0 (L := L) hS with h' | h'
     · exact c1 h'
     · exact c2 h'
theorem qyL (b : Fr) : ∀ l : List (Tmp × Sh), reads b l = (slots l).map fun t => getF b t
 | [] => rfl
 | (t, _) :: l => by simp only [reads, slots, List.map_cons, qyL b l]
def quietable (ops : Array Oper) : Bool := ops.all fun o => match o.op with
 | .alloc _ | .box _ _ | .buildSlice _ _ _ | .makeMap _ _ | .makeSlice _ _ _ | .range _ _ | .next _ _ | .store _ _ _ | .mapUpdate _ _ _ _ | .insert _ _ _ _ => false
 | .call { callee := .builtin b, .. } => match b with | .len | .cap | .min | .max => true | _ => false
 | _ => true
def W (P : Program) (n : Nat) (ann : Ann) : Nat -> Code -> (Exit -> Fr -> World -> Prop) -> Fr -> World -> Prop
 | _, .skip, Q, a, w => Q .normal a w
 | p, .region _ ops draw, Q, a, w =>
   match draw with
   | false => WO P n ops ops.toList (Q .normal) a w
   | true => match quietable ops && Region.lexB .any ops && (ann.at (1000000 + p)).isNone with
     | true => WQ P n w ops ops.toList (fun a' => ∀ w' : World, Below w.heap.size w w' -> Q .normal a' w') a
     | false => match ann.at (3000000 + p) with
       | some l => match ordB ops (slots l) with
         | true => WS P n w (hasN (slots l)) ops (fun al a' => ∀ w' : World, Below w.heap.size w w' -> qAp al w' (WA P n ops (Q .normal) (ops.size - (slots l).length) (setN (slots l) (Array.replicate ops.size false)) a' w')) (slots l) [] a
         | false => False
       | none => match ann.at (2000000 + p) with
        | some ((h, _) :: _) => match Region.lexTailB .any ops h with
          | true => WQ P n w ops (ops.toList.take h) (fun a' => ∀ w' : World, Below w.heap.size w w' -> WO P n ops (ops.toList.drop h) (Q .normal) a' w') a
          | false => False
        | _ => match Region.noSelect ops with
          | true => WA P n ops (Q .normal) ops.size (Array.replicate ops.size false) a w.drew
          | false => False
 | p, .seq x y, Q, a, w =>
   match ann.at p with
   | none => W P n ann (p + 1) x (fun e a' w' => match e with | .normal => W P n ann (p + 1 + csize x) y Q a' w' | e => Q e a' w') a w
   | some live => ∃ J : FP (shapes live), W P n ann (p + 1) x (fun e a' w' => match e with | .normal => ap (shapes live) J (reads a' live) w' | e => Q e a' w') a w /\
       allL (shapes live) fun vs => allJ (junk (writes x) (slots live)) fun us => ∀ w' : World, ap (shapes live) J vs w' ->
         W P n ann (p + 1 + csize x) y Q (puts n (puts n a (junk (writes x) (slots live)) us) (slots live) vs) w'
 | p, .cond c x y, Q, a, w =>
   match evF a c with
   | .bool b => BCase b (W P n ann (p + 1) x Q (know n a c true) w) (W P n ann (p + 1 + csize x) y Q (know n a c false) w)
   | _ => False
 | p, .block id c, Q, a, w => W P n ann (p + 1) c (fun e a' w' => match e with | .exit id' => bif Nat.beq id' id then Q .normal a' w' else Q (.exit id') a' w' | e => Q e a' w') a w
 | p, .loop c, Q, a, w =>
   match ann.at p with
   | none => False
   | some live => ∃ I : Nat -> FP (shapes live), (∃ m : Nat, ap (shapes live) (I m) (reads a live) w) /\
       ∀ m : Nat, allL (shapes live) fun vs => allJ (junk (writes c) (slots live)) fun us => ∀ w' : World, ap (shapes live) (I m) vs w' ->
         W P n ann (p + 1) c (fun e a' w'' => match e with | .normal => ∃ m' : Nat, m' < m /\ ap (shapes live) (I m') (reads a' live) w'' | e => Q e a' w'') (puts n (puts n a (junk (writes c) (slots live)) us) (slots live) vs) w'
 | p, .scope c, Q, a, w => W P n ann (p + 1) c (fun e a' w' => match e with | .goto _ => False | e => Q e a' w') a w
 | _, .exit id, Q, a, w => Q (.exit id) a w
 | _, .goto l, Q, a, w => Q (.goto l) a w
 | _, .label _, Q, a, w => Q .normal a w
 | _, .ret, Q, a, w => Q .ret a w
 | _, .rangeFunc _ _ _ _, _, _, _ => False
 | _, .refuse _, _, _, _ => False
theorem qzA {P : Program} {c : Code} {Q : Exit -> Act -> World -> Prop} {a : Act} {w : World} (I : Nat -> Act -> World -> Prop) (h₀ : ∃ m, I m a w)
   (round : ∀ m a w, I m a w -> c.wp P (Exit.then (fun a' w' => ∃ m', m' < m /\ I m' a' w') Q) a w) : (Code.loop c).wp P Q a w := by
 obtain ⟨m₀, h₀⟩ := h₀
 intro b k cs
 have key : ∀ m a w, I m a w -> ∃ e a' w', Q e a' w' /\ Arrives P (lone (b.at a (.code c :: .inLoop c :: k)) cs w) b k cs e a' w' := by
   intro m
   induction m using Nat.strongRecOn with
   | _ m ih =>
     intro a w hI
     obtain ⟨e, a₁, w₁, hq, harr⟩ := round m a w hI b (.inLoop c :: k) cs
     cases e with
     | normal =>
       obtain ⟨m', hlt, hI₁⟩ := hq
       obtain ⟨e₂, a₂, w₂, hq₂, harr₂⟩ := ih m' hlt a₁ w₁ hI₁
       exact ⟨e₂, a₂, w₂, hq₂, .of_steps (Steps.trans harr (.one step_inLoop)) harr₂⟩
     | exit id => exact ⟨_, a₁, w₁, hq, .pass (x := .inLoop c) rfl (fun _ _ => .inl (by simp)) harr⟩
     | goto l => exact ⟨_, a₁, w₁, hq, .pass (x := .inLoop c) rfl (fun _ _ => .inl (by simp)) harr⟩
     | ret => exact ⟨_, a₁, w₁, hq, .pass (x := .inLoop c) rfl (fun _ _ => .inl (by simp)) harr⟩
     | panic ch => exact ⟨_, a₁, w₁, hq, .pass (x := .inLoop c) rfl (fun _ _ => .inl (by simp)) harr⟩
     | outgrown => exact ⟨_, a₁, w₁, hq, .pass (x := .inLoop c) rfl (fun _ _ => .inl (by simp)) harr⟩
 obtain ⟨e, a', w', hq, harr⟩ := key m₀ a w h₀
 exact ⟨e, a', w', hq, .of_steps (.one step_loop) harr⟩
theorem told {n : Nat} {live : List (Tmp × Sh)} {f : FP (shapes live)} {S : List Tmp} {K : Fr -> World -> Prop} {fr fb : Fr} {a b : Act}
   (h : allL (shapes live) fun vs => allJ (junk S (slots live)) fun us => ∀ w' : World, ap (shapes live) f vs w' -> K (puts n (puts n fr (junk S (slots live)) us) (slots live) vs) w')
   {w' : World} (hr : Rep n fr a) (hfb : Rep n fb b) (hb : Agree S a b) (hf : ap (shapes live) f (reads fb live) w') : ∃ fr', Rep n fr' b /\ K fr' w' := by
 have h1 := qzG (d := fun _ => False) (f := f) (K := fun t vs => allJ (junk S (slots live)) fun us => ∀ w' : World, t w' -> K (puts n (puts n fr (junk S (slots live)) us) (slots live) vs) w') h
   (fun vs => qCs _ fun us w' hf => hf.elim) (reads fb live)
 have h2 := qyh (f := fun t => getF fb t) h1 w' hf
 rw [qyL] at h2
 exact ⟨_, qyY hr hfb hb, h2⟩
theorem W_ok {P : Program} (hm : P.follows .mixedOrders = true) (n : Nat) (ann : Ann) : ∀ (c : Code) (p : Nat) (Q : Exit -> Fr -> World -> Prop) (fr : Fr) (a : Act) (w : World), Rep n fr a -> W P n ann p c Q fr w ->
   ∀ Q' : Exit -> Act -> World -> Prop, (∀ e fr' a' w', Rep n fr' a' -> Agree (writes c) a a' -> Q e fr' w' -> Q' e a' w') -> c.wp P Q' a w := by
 intro c
 induction c with
 | skip => intro p Q fr a w hr h Q' hq; exact wp_skip (hq _ _ _ _ hr (Agree.refl _ _) h)
 | region id ops draw =>
   intro p Q fr a w hr h Q' hq
   cases draw with
   | false => exact wp_region_list (qBa hr h fun f' a' w' hf ha hk => hq _ _ _ _ hf ha hk)
   | true =>
     simp only [W] at h
     split at h
     · rename_i hb
       simp only [Bool.and_eq_true] at hb
       exact wp_region_quiet (C := Below w.heap.size w) hm hb.1.2 ((Below.refl _ w).drew) (qBb hr h fun f' a' hf ha hk w' hw' => hq _ _ _ _ hf ha (hk w' hw'))
     · split at h
       · split at h
         · rename_i l _ _ hs
           have hns : Region.noSelect ops = true := by
             simp only [ordB, Bool.and_eq_true] at hs
             exact hs.1.1
           exact Code.wp_mono (fun e a w q => by cases e <;> first | exact q | exact q.elim) (qwo (N := Q' .normal) (slots l) hm hs (qCq hr h fun al f' a' hf ha hk w' hw' =>
             qxl (N := Q' .normal) hns hf (qwI (hk w' hw'.1) hw'.2) fun f'' a'' w'' hf' ha' hk' => hq _ _ _ _ hf' (ha.trans ha') hk'))
         · cases h
       split at h
       · split at h
         · rename_i k _ _ _ _ hs
           have hsub1 : ∀ t, t ∈ dsts (ops.toList.take k) -> t ∈ dsts ops.toList := fun t ht => by
             simp only [dsts, List.mem_filterMap] at ht ⊢
             obtain ⟨x, hx, e⟩ := ht
             exact ⟨x, List.mem_of_mem_take hx, e⟩
           have hsub2 : ∀ t, t ∈ dsts (ops.toList.drop k) -> t ∈ dsts ops.toList := fun t ht => by
             simp only [dsts, List.mem_filterMap] at ht ⊢
             obtain ⟨x, hx, e⟩ := ht
             exact ⟨x, List.mem_of_mem_drop hx, e⟩
           exact qoL (C := Below w.heap.size w) k hm hs ((Below.refl _ w).drew) (qBb hr h fun f' a' hf ha hk w' hw' =>
             qBa hf (hk w' hw') fun f'' a'' w'' hf' ha' hk' => hq _ _ _ _ hf' ((ha.mono hsub1).trans (ha'.mono hsub2)) hk')
         · cases h
       split at h
       · rename_i hs
         exact Code.wp_mono (fun e a w q => by cases e <;> first | exact q | exact q.elim) (wp_region_any hm (qxl (N := Q' .normal) hs hr h fun f' a' w' hf ha hk => hq _ _ _ _ hf ha hk))
       · cases h
 | seq x y ihx ihy =>
   intro p Q fr a w hr h Q' hq
   refine wp_seq ?_
   simp only [W] at h
   split at h
   · refine ihx _ _ _ _ _ hr h _ fun e f' a' w' hf ha he => ?_
     cases e with
     | normal => exact ihy _ _ _ _ _ hf he _ fun e f'' a'' w'' hf' ha' he' => hq _ _ _ _ hf' ((ha.mono fun t ht => List.mem_append_left _ ht).trans (ha'.mono fun t ht => List.mem_append_right _ ht)) he'
     | _ => exact hq _ _ _ _ hf (ha.mono fun t ht => List.mem_append_left _ ht) he
   · rename_i live _
     obtain ⟨J, h1, h2⟩ := h
     refine ihx _ _ _ _ _ hr h1 _ fun e f' a' w' hf ha he => ?_
     cases e with
     | normal =>
       obtain ⟨fr3, hr3, h3⟩ := told (K := fun b w' => W P n ann (p + 1 + csize x) y Q b w') h2 hr hf ha he
       exact ihy _ _ _ _ _ hr3 h3 _ fun e f'' a'' w'' hf' ha' he' => hq _ _ _ _ hf' ((ha.mono fun t ht => List.mem_append_left _ ht).trans (ha'.mono fun t ht => List.mem_append_right _ ht)) he'
     | _ => exact hq _ _ _ _ hf (ha.mono fun t ht => List.mem_append_left _ ht) he
 | cond c x y ihx ihy =>
   intro p Q fr a w hr h Q' hq
   simp only [W] at h
   split at h
   · rename_i b hb
     have hb' : a.eval c = .bool b := by rw [hr.eval]; exact hb
     refine wp_cond_split hb' (fun e => ?_) (fun e => ?_)
     · subst e
       exact ihx _ _ _ _ _ (qyA hr hb) h _ fun e f' a' w' hf ha he => hq _ _ _ _ hf (ha.mono fun t ht => List.mem_append_left _ ht) he
     · subst e
       exact ihy _ _ _ _ _ (qyA hr hb) h _ fun e f' a' w' hf ha he => hq _ _ _ _ hf (ha.mono fun t ht => List.mem_append_right _ ht) he
   · cases h
 | block id c ih =>
   intro p Q fr a w hr h Q' hq
   refine wp_block (ih _ _ _ _ _ hr h _ fun e f' a' w' hf ha he => ?_)
   cases e with
   | exit id' =>
     simp only [Exit.inBlock] at he ⊢
     cases hb : Nat.beq id' id with
     | true => rw [if_pos (Nat.eq_of_beq_eq_true hb)]; rw [hb] at he; exact hq _ _ _ _ hf ha he
     | false =>
       rw [if_neg (fun e => by rw [e, Nat.beq_refl] at hb; cases hb)]
       rw [hb] at he; exact hq _ _ _ _ hf ha he
   | _ => exact hq _ _ _ _ hf ha he
 | loop c ih =>
   intro p Q fr a w hr h Q' hq
   simp only [W] at h
   split at h
   · cases h
   · rename_i live _
     obtain ⟨I, ⟨m0, h0⟩, h⟩ := h
     refine qzA (fun m b w' => ∃ fb, Rep n fb b /\ Agree (writes c) a b /\ ap (shapes live) (I m) (reads fb live) w') ⟨m0, fr, hr, Agree.refl _ _, h0⟩ fun m b w' ⟨fb, hfb, hb, hI⟩ => ?_
     obtain ⟨fr3, hr3, h3⟩ := told (K := fun b w' => W P n ann (p + 1) c (fun e a' w'' => match e with | .normal => ∃ m' : Nat, m' < m /\ ap (shapes live) (I m') (reads a' live) w'' | e => Q e a' w'') b w') (h m) hr hfb hb hI
     refine ih _ _ _ _ _ hr3 h3 _ fun e f' a' w'' hf ha he => ?_
     cases e with
     | normal => obtain ⟨m', hlt, hI'⟩ := he; exact ⟨m', hlt, f', hf, hb.trans ha, hI'⟩
     | _ => exact hq _ _ _ _ hf (hb.trans ha) he
 | scope c ih =>
   intro p Q fr a w hr h Q' hq
   refine wp_scope_straight (ih _ _ _ _ _ hr h _ fun e f' a' w' hf ha he => ?_)
   cases e with
   | goto l => exact he.elim
   | _ => exact hq _ _ _ _ hf ha he
 | exit id => intro p Q fr a w hr h Q' hq; exact wp_exit (hq _ _ _ _ hr (Agree.refl _ _) h)
 | goto l => intro p Q fr a w hr h Q' hq; exact wp_goto (hq _ _ _ _ hr (Agree.refl _ _) h)
 | label l => intro p Q fr a w hr h Q' hq; exact wp_label (hq _ _ _ _ hr (Agree.refl _ _) h)
 | ret => intro p Q fr a w hr h Q' hq; exact wp_ret (hq _ _ _ _ hr (Agree.refl _ _) h)
 | rangeFunc f ps x y ihx ihy => intro p Q fr a w hr h; exact h.elim
 | refuse => intro p Q fr a w hr h; exact h.elim
def Ret (K : Value -> World -> Prop) : Ending -> World -> Prop := fun e w => ∃ v, e = .returned v /\ K v w
def tmpR : List ResultVar -> Option (List Tmp)
 | [] => some []
 | .tmp t :: l => (tmpR l).map (t :: ·)
 | .cell _ _ :: _ => none
def shZ (P : Program) (t : TypeId) : Sh := match (P.info? t).bind (·.zero) with | some v => shV v | none => .one .any
def qwR (l : List Value) : Value := match l with | [v] => v | l => .tuple l.toArray
def qy7 (ρ : Tmp -> Value) (r : ResultVar) : Sem Value := match r with
 | .tmp t => pure (ρ t)
 | .cell a t => do loadVar t (<- asAddr (ρ a))
def resF (rs : Array ResultVar) (ρ : Tmp -> Value) : Sem Value := do
 let vs <- rs.mapM (qy7 ρ)
 pure (if h : vs.size = 1 then vs[0] else .tuple vs)
def qs (t : TypeId) (v : Value) : Sem Value := do loadVar t (<- asAddr v)
def WR (P : Program) (ρ : Tmp -> Value) (w : World) : List ResultVar -> (List Value -> Prop) -> Prop
 | [], k => k []
 | .tmp t :: rs, k => WR P ρ w rs fun vs => k (ρ t :: vs)
 | .cell a t :: rs, k => exS (shZ P t) fun v => (qs t (ρ a)).run P w = .ok v w /\ WR P ρ w rs fun vs => k (v :: vs)
theorem qCo {P : Program} {ρ : Tmp -> Value} {w : World} : ∀ (rs : List ResultVar) (k : List Value -> Prop), WR P ρ w rs k -> ∃ vs, (rs.mapM (qy7 ρ)).run P w = .ok vs w /\ k vs
 | [], k, h => ⟨[], rfl, h⟩
 | .tmp t :: rs, k, h => by
   obtain ⟨vs, h1, h2⟩ := qCo rs _ h
   refine ⟨_, ?_, h2⟩
   rw [List.mapM_cons]
   have e : qy7 ρ (.tmp t) = pure (ρ t) := rfl
   simp only [e, Sem.run_bind, Sem.run_pure, Result.andThen_ok, h1]
 | .cell a t :: rs, k, h => by
   obtain ⟨v, h0, h⟩ := qxB h
   obtain ⟨vs, h1, h2⟩ := qCo rs _ h
   refine ⟨_, ?_, h2⟩
   rw [List.mapM_cons]
   have e : qy7 ρ (.cell a t) = qs t (ρ a) := rfl
   simp only [e, Sem.run_bind, Sem.run_pure, Result.andThen_ok, h0, h1]
def WB (P : Program) (fn : Func) (K : Value -> World -> Prop) : Exit -> Fr -> World -> Prop
 | .normal, a, w | .ret, a, w => match tmpR fn.results.toList with
     | some l => K (qwR (l.map fun t => getF a t)) w
     | none => WR P (getF a) w fn.results.toList fun vs => K (qwR vs) w
 | _, _, _ => False
theorem qzs (fn : Func) (tmps : Array Value) : results fn tmps = resF fn.results fun t => tmps.getD t undef := rfl
theorem qtj {P : Program} {rs : Array ResultVar} {l : List Tmp} (h : tmpR rs.toList = some l) (ρ : Tmp -> Value) (w : World) :
   (resF rs ρ).run P w = .ok (qwR (l.map ρ)) w := by
 have hm : ∀ (rs : List ResultVar) (l : List Tmp), tmpR rs = some l -> (rs.mapM (qy7 ρ)).run P w = .ok (l.map ρ) w := by
   intro rs
   induction rs with
   | nil => intro l h; simp [tmpR] at h; subst h; rfl
   | cons r rs ih =>
     intro l h
     cases r with
     | tmp t =>
       cases hr : tmpR rs with
       | none => simp [tmpR, hr] at h
       | some l' =>
         simp [tmpR, hr] at h; subst h
         rw [List.mapM_cons]
         have e : qy7 ρ (.tmp t) = pure (ρ t) := rfl
         simp only [e, Sem.run_bind, Sem.run_pure, Result.andThen_ok, ih _ hr, List.map_cons]
     | cell a t => simp [tmpR] at h
 unfold resF
 rw [Sem.run_bind, Array.mapM_eq_mapM_toList, Sem.run_map, hm _ _ h]
 simp only [Result.andThen_ok, Sem.run_pure]
 congr 1
 generalize (l.map ρ) = vs
 match vs with
 | [] => rfl
 | [v] => rfl
 | v :: u :: vs => simp [qwR]
def qvd : Nat -> List Value -> Fr
 | _, [] => []
 | i, v :: vs => (i, v) :: qvd (i + 1) vs
theorem qve : ∀ (vs : List Value) (i j : Nat), getF (qvd i vs) j = if i <= j then (vs[j - i]?).getD undef else undef
 | [], i, j => by simp [qvd, getF]
 | v :: vs, i, j => by
   simp only [qvd, getF]
   cases hb : Nat.beq i j with
   | true => have := Nat.eq_of_beq_eq_true hb; subst this; simp
   | false =>
     have hne : i ≠ j := fun e => by rw [e, Nat.beq_refl] at hb; cases hb
     rw [cond_false, qve vs (i + 1) j]
     by_cases hij : i <= j
     · have h1 : i + 1 <= j := by omega
       have h2 : j - i = (j - (i + 1)) + 1 := by omega
       rw [if_pos h1, if_pos hij, h2]; simp
     · have h1 : ¬ i + 1 <= j := by omega
       rw [if_neg h1, if_neg hij]
theorem qm {P : Program} (hm : P.follows .mixedOrders = true) {f : FuncId} {fn : Func} {c : Code} (hf : P.funcs[f]? = some fn) (hb : fn.body = some c) (ann : Ann) (args : List Value) (hn : args.length <= fn.ntmps)
   {w : World} {K : Value -> World -> Prop} (V : Prop) (he : W P fn.ntmps ann 0 c (WB P fn K) (qvd 0 args) w = V) (h : V) : Calls P f args.toArray w (Ret K) := by
 refine calls_of_wp hf hb ?_
 have hr : Rep fn.ntmps (qvd 0 args) { tmps := args.toArray ++ Array.replicate (fn.ntmps - args.toArray.size) undef, defers := [] } := by
   refine ⟨by simp; omega, rfl, fun t => ?_⟩
   rw [qve]
   simp only [Nat.zero_le, if_true, Nat.sub_zero, Array.getD_eq_getD_getElem?, Array.getElem?_append, List.size_toArray, List.getElem?_toArray]
   by_cases ht : t < args.length
   · simp [ht]
   · simp only [if_neg ht]
     rw [List.getElem?_eq_none (by omega : args.length <= t)]
     simp only [Array.getElem?_replicate]
     split <;> rfl
 refine W_ok hm _ ann c 0 _ _ _ _ hr (he ▸ h) _ fun e fr' a' w' hr' _ he => ?_
 have key : ∀ {a : Act} {fr : Fr} {w : World}, Rep fn.ntmps fr a -> (match tmpR fn.results.toList with
     | some l => K (qwR (l.map fun t => getF fr t)) w
     | none => WR P (getF fr) w fn.results.toList fun vs => K (qwR vs) w) -> a.defers = [] /\ ∃ v, (results fn a.tmps).run P w = .ok v w /\ Ret K (.returned v) w := by
   intro a fr w hr h
   have e : (fun t => a.tmps.getD t undef) = getF fr := funext hr.get
   refine ⟨hr.defers, ?_⟩
   rw [qzs, e]
   split at h
   · rename_i l hl; exact ⟨_, qtj hl _ _, _, rfl, h⟩
   · obtain ⟨vs, hv, h⟩ := qCo _ _ h
     refine ⟨qwR vs, ?_, _, rfl, h⟩
     unfold resF
     rw [Sem.run_bind, Array.mapM_eq_mapM_toList, Sem.run_map, hv]
     simp only [Result.andThen_ok, Sem.run_pure]
     congr 1
     match vs with
     | [] => rfl
     | [v] => rfl
     | v :: u :: vs => simp [qwR]
 cases e with
 | normal => exact key hr' he
 | ret => exact key hr' he
 | _ => exact he.elim
theorem callK {P : Program} {f : FuncId} {args : Array Value} {w : World} {K : Value -> World -> Prop} {R : Ending -> World -> Prop} (h : Calls P f args w (Ret K)) (hk : ∀ v w', K v w' -> R (.returned v) w') :
   Calls P f args w R := h.mono fun e w' ⟨v, he, hv⟩ => by subst he; exact hk v w' hv
def qH (s : List UInt8) (j : Int) : Int := ((s[j.toNat]?.getD 0).toNat : Nat)
def ql (a : Option Addr) (j : Int) (size : Nat) : Option Addr := a.map (·.add (j.toNat * size))
def qy (a : Option Addr) (c l size : Nat) : Option Addr := if c = l then a else a.map (·.add (l * size))
def AllJ : Nat -> Prop -> Prop
 | 0, X => X
 | k + 1, X => ∀ _ : Value, AllJ k X
theorem AllJ.of {X : Prop} (h : X) : ∀ k, AllJ k X
 | 0 => h
 | k + 1 => fun _ => AllJ.of h k
def qq (fn : Func) : Code := fn.body.getD .skip
end Go.Pk
